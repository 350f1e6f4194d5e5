/- Contracts of the program's functions, by walks, and plain facts beside them: Do, DoAny, Run, AwakePure. -/
import Derived.Test.YtnhaiecbjipodaaGreatDoorB31
/- script.Do. -/
namespace Go.Proofs.YtnhaiecbjipodaaGreatDoor
open Go.RowKit Go.Shelf Go.Proofs Go.MapKept
attribute [local go_sem] Grow.cell Grow.froz Grow.lt lt_s1 lt_s2 lt_s3 lt_s4 lt_s5
theorem look_kind {W : World} {mb a1 a2 a3 : Nat} (h : KindsAt W mb a1 a2 a3) (k : Int) : (Instr.lookup 84 (.map (some mb)) (.int .i64 k) true).run Tryz.prog W = .ok (.tuple #[(getM (kindsL a1 a2 a3) k).getD .nilFunc, .bool (getM (kindsL a1 a2 a3) k).isSome]) W :=
  run_lookup (K := kindKey) h.m Tryz.underlying84 (z := .nilFunc) (by kernel_rfl) k true
section
variable (k : Int) (b : Body) (q x y : Int) (A : Option Addr) (n c : Nat) (w : World) (p : Nat) (F : Nat → Prop) (l : List Body)
set_option maxRecDepth 100000 in
set_option maxHeartbeats 2000000 in
theorem do1_any (h : StoreAt w p F l) :
    Calls Tryz.prog 12 #[.pointer (some ⟨p, 0, none⟩), .agg (OpA 1 b q x y A n c)] w fun e w' => ∃ A' n' c' cnt fl, e = .returned (.agg (OutA (addE l b) A' n' c' cnt fl)) ∧ After w w' p F (addR l b) := by
  have hp := h.lt
  have HA := fun W mb a1 a2 a3 (hb : Below w.heap.size w W) (h1 : KindsAt W mb a1 a2 a3) => doAdd_any 1 b q x y A n c W p a1 (a1 + 1) _ l (h.bound.below hb) h1.x1 h1.y1
  obtain ⟨m, hm⟩ : ∃ m, m = addE l b := ⟨_, rfl⟩
  obtain ⟨nl, hnl⟩ : ∃ nl, nl = addR l b := ⟨_, rfl⟩
  rw [← hm, ← hnl] at HA ⊢
  clear hm hnl
  have hb1 : Below w.heap.size w ((w.alloc (.cells (OpA 1 b q x y A n c) 44)).alloc (.cells (OutA 0 none 0 0 0 false) 42)).drew := (by repeat (first | with_reducible exact Below.refl _ _ | with_reducible refine bel_alloc ?_ _ | with_reducible refine bel_drewN ?_ _ | with_reducible refine bel_drew ?_ | with_reducible refine bel_grow ?_ _ | with_reducible refine bel_set ?_ (by first | omega | (simp; done) | (simp; omega)) _))
  have KR : CellsAt ((w.alloc (.cells (OpA 1 b q x y A n c) 44)).alloc (.cells (OutA 0 none 0 0 0 false) 42)).drew (w.heap.size + 1) (OutA 0 none 0 0 0 false) 42 := (CellsAt.newAt (by simp) rfl).drew
  have KX : CellsAt ((w.alloc (.cells (OpA 1 b q x y A n c) 44)).alloc (.cells (OutA 0 none 0 0 0 false) 42)).drew w.heap.size (OpA 1 b q x y A n c) 44 := ((CellsAt.newAt rfl rfl).alloc _).drew
  have HA := Lib.hid HA
  have HB1 := Lib.hid hb1
  have HKR := Lib.hid KR
  have HKX := Lib.hid KX
  have k0 : ((w.alloc (.cells (OpA 1 b q x y A n c) 44)).alloc (.cells (OutA 0 none 0 0 0 false) 42)).drew.cell? ⟨w.heap.size, 0, none⟩ = some (.int .i64 1) := KX.at 0 rfl
  clear h hb1 KR KX
  have HK0 : ∀ g : Grow ((w.alloc (.cells (OpA 1 b q x y A n c) 44)).alloc (.cells (OutA 0 none 0 0 0 false) 42)).drew, (fun w' : World => w'.cell? ⟨w.heap.size, 0, none⟩ = some (.int .i64 1)) g.world := fun g => (HKX.out.grow g).at 0 rfl
  go_enter Tryz.func12, Tryz.ntmps12
  go_upto_region 1 with fail
  go_region_held3 (fun w' : World => w'.cell? ⟨w.heap.size, 0, none⟩ = some (.int .i64 1)) (first | exact k0 | exact HK0 g1)
    (first | (go_at_call 29; refine (kinds_any _).mono ?_; rintro e w1 ⟨mb, a1, a2, a3, rfl, hk, hb⟩; obtain ⟨g1, rfl⟩ := Grow.of hb; have LK : (Instr.lookup 84 (.map (some mb)) (.int .i64 1) true).run Tryz.prog g1.world = .ok (.tuple #[cloV 90 a1, .bool true]) g1.world := (by simpa [getM, kindsL] using look_kind hk 1); have HKD := Lib.hid hk; clear hk hb))
  have K1 := HKX.out.grow g1
  have kk1 : g1.world.cell? ⟨w.heap.size, 0, none⟩ = some (.int .i64 1) := K1.at 0 rfl
  have kk2 : g1.world.cell? ⟨w.heap.size, 1, none⟩ = some (.int .u32 b.key) := K1.at 1 rfl
  have kk3 : g1.world.cell? ⟨w.heap.size, 2, none⟩ = some (.int .i32 b.radius) := K1.at 2 rfl
  have kk4 : g1.world.cell? ⟨w.heap.size, 3, none⟩ = some (.int .i32 b.ax) := K1.at 3 rfl
  have kk5 : g1.world.cell? ⟨w.heap.size, 4, none⟩ = some (.int .i32 b.ay) := K1.at 4 rfl
  have kk6 : g1.world.cell? ⟨w.heap.size, 5, none⟩ = some (.int .i32 b.inv) := K1.at 5 rfl
  have kk7 : g1.world.cell? ⟨w.heap.size, 6, none⟩ = some (.int .i32 b.bounce) := K1.at 6 rfl
  have kk8 : g1.world.cell? ⟨w.heap.size, 7, none⟩ = some (.int .i32 b.px) := K1.at 7 rfl
  have kk9 : g1.world.cell? ⟨w.heap.size, 8, none⟩ = some (.int .i32 b.py) := K1.at 8 rfl
  have kk10 : g1.world.cell? ⟨w.heap.size, 9, none⟩ = some (.int .i32 b.vx) := K1.at 9 rfl
  have kk11 : g1.world.cell? ⟨w.heap.size, 10, none⟩ = some (.int .i32 b.vy) := K1.at 10 rfl
  have kk12 : g1.world.cell? ⟨w.heap.size, 11, none⟩ = some (.int .u32 q) := K1.at 11 rfl
  have kk13 : g1.world.cell? ⟨w.heap.size, 12, none⟩ = some (.int .i32 x) := K1.at 12 rfl
  have kk14 : g1.world.cell? ⟨w.heap.size, 13, none⟩ = some (.int .i32 y) := K1.at 13 rfl
  have kk15 : g1.world.cell? ⟨w.heap.size, 14, none⟩ = some (.slice A n c) := K1.at 14 rfl
  have HB2 := Lib.hid (bel_grow HB1.out g1)
  have HKR1 := Lib.hid (HKR.out.grow g1)
  clear K1 k0 HK0
  go_wp2_with (go_at_call 90; refine (HA.out _ mb a1 a2 a3 HB2.out HKD.out).mono ?_; rintro e w3 ⟨rfl, h3⟩; have KR := HKR1.out.alter h3.alter (by simp); have fz : ∀ o, w3.frozen? ⟨w.heap.size + 1, o, none⟩ = false := fun o => KR.froz o; have lR := KR.lt; have H3 := Lib.hid h3; clear h3; have kk0 : w3.cell? ⟨w.heap.size + 1, 0, none⟩ = some (.int .i64 0) := KR.at 0 rfl; have kk1 : w3.cell? ⟨w.heap.size + 1, 1, none⟩ = some (.slice none 0 0) := KR.at 1 rfl; have kk2 : w3.cell? ⟨w.heap.size + 1, 2, none⟩ = some (.int .i64 0) := KR.at 2 rfl; have kk3 : w3.cell? ⟨w.heap.size + 1, 3, none⟩ = some (.bool false) := KR.at 3 rfl)
  refine bodyPost_ret (v := .agg (OutA m none 0 0 0 false)) (ret_cells (w.heap.size + 1) (OutA m none 0 0 0 false) 42 ?_ ?_) rfl ⟨_, _, _, _, _, rfl, ?_⟩
  · exact ((((KR.set 0 _).set 1 _).set 2 _).set 3 _).eq (by simp)
  · intro W K
    have kk16 : W.cell? ⟨(w.heap.size + 1), 0, none⟩ = some (.int .i64 m) := K.at 0 rfl
    have kk17 : W.cell? ⟨(w.heap.size + 1), 1, none⟩ = some (.slice none 0 0) := K.at 1 rfl
    have kk18 : W.cell? ⟨(w.heap.size + 1), 2, none⟩ = some (.int .i64 0) := K.at 2 rfl
    have kk19 : W.cell? ⟨(w.heap.size + 1), 3, none⟩ = some (.bool false) := K.at 3 rfl
    simp [results, Tryz.results12, go_sem, *]
  · exact H3.out.past HB2.out (fun _ h => h) (S := fun k => k = w.heap.size + 1) (alter_set (S := fun k => k = w.heap.size + 1) (alter_set (S := fun k => k = w.heap.size + 1) (alter_set (S := fun k => k = w.heap.size + 1) (alter_set (S := fun k => k = w.heap.size + 1) (Alter.refl _ _) (.inl rfl) _) (.inl rfl) _) (.inl rfl) _) (.inl rfl) _) (fun k hk => by have := HKR1.out.lt; omega)
set_option maxRecDepth 100000 in
set_option maxHeartbeats 2000000 in
theorem do2_any (h : StoreAt w p F l) :
    Calls Tryz.prog 12 #[.pointer (some ⟨p, 0, none⟩), .agg (OpA 2 b q x y A n c)] w fun e w' => ∃ A' n' c' cnt fl, e = .returned (.agg (OutA (getE l q) A' n' c' cnt fl)) ∧ After w w' p F (remR l q) := by
  have hp := h.lt
  have HA := fun W mb a1 a2 a3 (hb : Below w.heap.size w W) (h1 : KindsAt W mb a1 a2 a3) => doRem_any 2 b q x y A n c W p a2 (a2 + 1) _ l (h.bound.below hb) h1.x2 h1.y2
  obtain ⟨m, hm⟩ : ∃ m, m = getE l q := ⟨_, rfl⟩
  obtain ⟨nl, hnl⟩ : ∃ nl, nl = remR l q := ⟨_, rfl⟩
  rw [← hm, ← hnl] at HA ⊢
  clear hm hnl
  have hb1 : Below w.heap.size w ((w.alloc (.cells (OpA 2 b q x y A n c) 44)).alloc (.cells (OutA 0 none 0 0 0 false) 42)).drew := (by repeat (first | with_reducible exact Below.refl _ _ | with_reducible refine bel_alloc ?_ _ | with_reducible refine bel_drewN ?_ _ | with_reducible refine bel_drew ?_ | with_reducible refine bel_grow ?_ _ | with_reducible refine bel_set ?_ (by first | omega | (simp; done) | (simp; omega)) _))
  have KR : CellsAt ((w.alloc (.cells (OpA 2 b q x y A n c) 44)).alloc (.cells (OutA 0 none 0 0 0 false) 42)).drew (w.heap.size + 1) (OutA 0 none 0 0 0 false) 42 := (CellsAt.newAt (by simp) rfl).drew
  have KX : CellsAt ((w.alloc (.cells (OpA 2 b q x y A n c) 44)).alloc (.cells (OutA 0 none 0 0 0 false) 42)).drew w.heap.size (OpA 2 b q x y A n c) 44 := ((CellsAt.newAt rfl rfl).alloc _).drew
  have HA := Lib.hid HA
  have HB1 := Lib.hid hb1
  have HKR := Lib.hid KR
  have HKX := Lib.hid KX
  have k0 : ((w.alloc (.cells (OpA 2 b q x y A n c) 44)).alloc (.cells (OutA 0 none 0 0 0 false) 42)).drew.cell? ⟨w.heap.size, 0, none⟩ = some (.int .i64 2) := KX.at 0 rfl
  clear h hb1 KR KX
  have HK0 : ∀ g : Grow ((w.alloc (.cells (OpA 2 b q x y A n c) 44)).alloc (.cells (OutA 0 none 0 0 0 false) 42)).drew, (fun w' : World => w'.cell? ⟨w.heap.size, 0, none⟩ = some (.int .i64 2)) g.world := fun g => (HKX.out.grow g).at 0 rfl
  go_enter Tryz.func12, Tryz.ntmps12
  go_upto_region 1 with fail
  go_region_held3 (fun w' : World => w'.cell? ⟨w.heap.size, 0, none⟩ = some (.int .i64 2)) (first | exact k0 | exact HK0 g1)
    (first | (go_at_call 29; refine (kinds_any _).mono ?_; rintro e w1 ⟨mb, a1, a2, a3, rfl, hk, hb⟩; obtain ⟨g1, rfl⟩ := Grow.of hb; have LK : (Instr.lookup 84 (.map (some mb)) (.int .i64 2) true).run Tryz.prog g1.world = .ok (.tuple #[cloV 91 a2, .bool true]) g1.world := (by simpa [getM, kindsL] using look_kind hk 2); have HKD := Lib.hid hk; clear hk hb))
  have K1 := HKX.out.grow g1
  have kk20 : g1.world.cell? ⟨w.heap.size, 0, none⟩ = some (.int .i64 2) := K1.at 0 rfl
  have kk21 : g1.world.cell? ⟨w.heap.size, 1, none⟩ = some (.int .u32 b.key) := K1.at 1 rfl
  have kk22 : g1.world.cell? ⟨w.heap.size, 2, none⟩ = some (.int .i32 b.radius) := K1.at 2 rfl
  have kk23 : g1.world.cell? ⟨w.heap.size, 3, none⟩ = some (.int .i32 b.ax) := K1.at 3 rfl
  have kk24 : g1.world.cell? ⟨w.heap.size, 4, none⟩ = some (.int .i32 b.ay) := K1.at 4 rfl
  have kk25 : g1.world.cell? ⟨w.heap.size, 5, none⟩ = some (.int .i32 b.inv) := K1.at 5 rfl
  have kk26 : g1.world.cell? ⟨w.heap.size, 6, none⟩ = some (.int .i32 b.bounce) := K1.at 6 rfl
  have kk27 : g1.world.cell? ⟨w.heap.size, 7, none⟩ = some (.int .i32 b.px) := K1.at 7 rfl
  have kk28 : g1.world.cell? ⟨w.heap.size, 8, none⟩ = some (.int .i32 b.py) := K1.at 8 rfl
  have kk29 : g1.world.cell? ⟨w.heap.size, 9, none⟩ = some (.int .i32 b.vx) := K1.at 9 rfl
  have kk30 : g1.world.cell? ⟨w.heap.size, 10, none⟩ = some (.int .i32 b.vy) := K1.at 10 rfl
  have kk31 : g1.world.cell? ⟨w.heap.size, 11, none⟩ = some (.int .u32 q) := K1.at 11 rfl
  have kk32 : g1.world.cell? ⟨w.heap.size, 12, none⟩ = some (.int .i32 x) := K1.at 12 rfl
  have kk33 : g1.world.cell? ⟨w.heap.size, 13, none⟩ = some (.int .i32 y) := K1.at 13 rfl
  have kk34 : g1.world.cell? ⟨w.heap.size, 14, none⟩ = some (.slice A n c) := K1.at 14 rfl
  have HB2 := Lib.hid (bel_grow HB1.out g1)
  have HKR1 := Lib.hid (HKR.out.grow g1)
  clear K1 k0 HK0
  go_wp2_with (go_at_call 91; refine (HA.out _ mb a1 a2 a3 HB2.out HKD.out).mono ?_; rintro e w3 ⟨rfl, h3⟩; have KR := HKR1.out.alter h3.alter (by simp); have fz : ∀ o, w3.frozen? ⟨w.heap.size + 1, o, none⟩ = false := fun o => KR.froz o; have lR := KR.lt; have H3 := Lib.hid h3; clear h3; have kk0 : w3.cell? ⟨w.heap.size + 1, 0, none⟩ = some (.int .i64 0) := KR.at 0 rfl; have kk1 : w3.cell? ⟨w.heap.size + 1, 1, none⟩ = some (.slice none 0 0) := KR.at 1 rfl; have kk2 : w3.cell? ⟨w.heap.size + 1, 2, none⟩ = some (.int .i64 0) := KR.at 2 rfl; have kk3 : w3.cell? ⟨w.heap.size + 1, 3, none⟩ = some (.bool false) := KR.at 3 rfl)
  refine bodyPost_ret (v := .agg (OutA m none 0 0 0 false)) (ret_cells (w.heap.size + 1) (OutA m none 0 0 0 false) 42 ?_ ?_) rfl ⟨_, _, _, _, _, rfl, ?_⟩
  · exact ((((KR.set 0 _).set 1 _).set 2 _).set 3 _).eq (by simp)
  · intro W K
    have kk35 : W.cell? ⟨(w.heap.size + 1), 0, none⟩ = some (.int .i64 m) := K.at 0 rfl
    have kk36 : W.cell? ⟨(w.heap.size + 1), 1, none⟩ = some (.slice none 0 0) := K.at 1 rfl
    have kk37 : W.cell? ⟨(w.heap.size + 1), 2, none⟩ = some (.int .i64 0) := K.at 2 rfl
    have kk38 : W.cell? ⟨(w.heap.size + 1), 3, none⟩ = some (.bool false) := K.at 3 rfl
    simp [results, Tryz.results12, go_sem, *]
  · exact H3.out.past HB2.out (fun _ h => h) (S := fun k => k = w.heap.size + 1) (alter_set (S := fun k => k = w.heap.size + 1) (alter_set (S := fun k => k = w.heap.size + 1) (alter_set (S := fun k => k = w.heap.size + 1) (alter_set (S := fun k => k = w.heap.size + 1) (Alter.refl _ _) (.inl rfl) _) (.inl rfl) _) (.inl rfl) _) (.inl rfl) _) (fun k hk => by have := HKR1.out.lt; omega)
set_option maxRecDepth 100000 in
set_option maxHeartbeats 2000000 in
theorem do3_any (h : StoreAt w p F l) (hs : SaneL l) (hx : I32 x) (hy : I32 y) :
    Calls Tryz.prog 12 #[.pointer (some ⟨p, 0, none⟩), .agg (OpA 3 b q x y A n c)] w fun e w' => ∃ A' n' c' cnt fl, e = .returned (.agg (OutA (getE l q) A' n' c' cnt fl)) ∧ After w w' p F (impR l q x y) := by
  have hp := h.lt
  have HA := fun W mb a1 a2 a3 (hb : Below w.heap.size w W) (h1 : KindsAt W mb a1 a2 a3) => doImp_any 3 b q x y A n c W p _ l (h.bound.below hb) hs hx hy
  obtain ⟨m, hm⟩ : ∃ m, m = getE l q := ⟨_, rfl⟩
  obtain ⟨nl, hnl⟩ : ∃ nl, nl = impR l q x y := ⟨_, rfl⟩
  rw [← hm, ← hnl] at HA ⊢
  clear hm hnl
  have hb1 : Below w.heap.size w ((w.alloc (.cells (OpA 3 b q x y A n c) 44)).alloc (.cells (OutA 0 none 0 0 0 false) 42)).drew := (by repeat (first | with_reducible exact Below.refl _ _ | with_reducible refine bel_alloc ?_ _ | with_reducible refine bel_drewN ?_ _ | with_reducible refine bel_drew ?_ | with_reducible refine bel_grow ?_ _ | with_reducible refine bel_set ?_ (by first | omega | (simp; done) | (simp; omega)) _))
  have KR : CellsAt ((w.alloc (.cells (OpA 3 b q x y A n c) 44)).alloc (.cells (OutA 0 none 0 0 0 false) 42)).drew (w.heap.size + 1) (OutA 0 none 0 0 0 false) 42 := (CellsAt.newAt (by simp) rfl).drew
  have KX : CellsAt ((w.alloc (.cells (OpA 3 b q x y A n c) 44)).alloc (.cells (OutA 0 none 0 0 0 false) 42)).drew w.heap.size (OpA 3 b q x y A n c) 44 := ((CellsAt.newAt rfl rfl).alloc _).drew
  have HA := Lib.hid HA
  have HB1 := Lib.hid hb1
  have HKR := Lib.hid KR
  have HKX := Lib.hid KX
  have k0 : ((w.alloc (.cells (OpA 3 b q x y A n c) 44)).alloc (.cells (OutA 0 none 0 0 0 false) 42)).drew.cell? ⟨w.heap.size, 0, none⟩ = some (.int .i64 3) := KX.at 0 rfl
  clear h hs hx hy hb1 KR KX
  have HK0 : ∀ g : Grow ((w.alloc (.cells (OpA 3 b q x y A n c) 44)).alloc (.cells (OutA 0 none 0 0 0 false) 42)).drew, (fun w' : World => w'.cell? ⟨w.heap.size, 0, none⟩ = some (.int .i64 3)) g.world := fun g => (HKX.out.grow g).at 0 rfl
  go_enter Tryz.func12, Tryz.ntmps12
  go_upto_region 1 with fail
  go_region_held3 (fun w' : World => w'.cell? ⟨w.heap.size, 0, none⟩ = some (.int .i64 3)) (first | exact k0 | exact HK0 g1)
    (first | (go_at_call 29; refine (kinds_any _).mono ?_; rintro e w1 ⟨mb, a1, a2, a3, rfl, hk, hb⟩; obtain ⟨g1, rfl⟩ := Grow.of hb; have LK : (Instr.lookup 84 (.map (some mb)) (.int .i64 3) true).run Tryz.prog g1.world = .ok (.tuple #[fnV 60, .bool true]) g1.world := (by simpa [getM, kindsL] using look_kind hk 3); have HKD := Lib.hid hk; clear hk hb))
  have K1 := HKX.out.grow g1
  have kk39 : g1.world.cell? ⟨w.heap.size, 0, none⟩ = some (.int .i64 3) := K1.at 0 rfl
  have kk40 : g1.world.cell? ⟨w.heap.size, 1, none⟩ = some (.int .u32 b.key) := K1.at 1 rfl
  have kk41 : g1.world.cell? ⟨w.heap.size, 2, none⟩ = some (.int .i32 b.radius) := K1.at 2 rfl
  have kk42 : g1.world.cell? ⟨w.heap.size, 3, none⟩ = some (.int .i32 b.ax) := K1.at 3 rfl
  have kk43 : g1.world.cell? ⟨w.heap.size, 4, none⟩ = some (.int .i32 b.ay) := K1.at 4 rfl
  have kk44 : g1.world.cell? ⟨w.heap.size, 5, none⟩ = some (.int .i32 b.inv) := K1.at 5 rfl
  have kk45 : g1.world.cell? ⟨w.heap.size, 6, none⟩ = some (.int .i32 b.bounce) := K1.at 6 rfl
  have kk46 : g1.world.cell? ⟨w.heap.size, 7, none⟩ = some (.int .i32 b.px) := K1.at 7 rfl
  have kk47 : g1.world.cell? ⟨w.heap.size, 8, none⟩ = some (.int .i32 b.py) := K1.at 8 rfl
  have kk48 : g1.world.cell? ⟨w.heap.size, 9, none⟩ = some (.int .i32 b.vx) := K1.at 9 rfl
  have kk49 : g1.world.cell? ⟨w.heap.size, 10, none⟩ = some (.int .i32 b.vy) := K1.at 10 rfl
  have kk50 : g1.world.cell? ⟨w.heap.size, 11, none⟩ = some (.int .u32 q) := K1.at 11 rfl
  have kk51 : g1.world.cell? ⟨w.heap.size, 12, none⟩ = some (.int .i32 x) := K1.at 12 rfl
  have kk52 : g1.world.cell? ⟨w.heap.size, 13, none⟩ = some (.int .i32 y) := K1.at 13 rfl
  have kk53 : g1.world.cell? ⟨w.heap.size, 14, none⟩ = some (.slice A n c) := K1.at 14 rfl
  have HB2 := Lib.hid (bel_grow HB1.out g1)
  have HKR1 := Lib.hid (HKR.out.grow g1)
  clear K1 k0 HK0
  go_wp2_with (go_at_call 60; refine (HA.out _ mb a1 a2 a3 HB2.out HKD.out).mono ?_; rintro e w3 ⟨rfl, h3⟩; have KR := HKR1.out.alter h3.alter (by simp); have fz : ∀ o, w3.frozen? ⟨w.heap.size + 1, o, none⟩ = false := fun o => KR.froz o; have lR := KR.lt; have H3 := Lib.hid h3; clear h3; have kk0 : w3.cell? ⟨w.heap.size + 1, 0, none⟩ = some (.int .i64 0) := KR.at 0 rfl; have kk1 : w3.cell? ⟨w.heap.size + 1, 1, none⟩ = some (.slice none 0 0) := KR.at 1 rfl; have kk2 : w3.cell? ⟨w.heap.size + 1, 2, none⟩ = some (.int .i64 0) := KR.at 2 rfl; have kk3 : w3.cell? ⟨w.heap.size + 1, 3, none⟩ = some (.bool false) := KR.at 3 rfl)
  refine bodyPost_ret (v := .agg (OutA m none 0 0 0 false)) (ret_cells (w.heap.size + 1) (OutA m none 0 0 0 false) 42 ?_ ?_) rfl ⟨_, _, _, _, _, rfl, ?_⟩
  · exact ((((KR.set 0 _).set 1 _).set 2 _).set 3 _).eq (by simp)
  · intro W K
    have kk54 : W.cell? ⟨(w.heap.size + 1), 0, none⟩ = some (.int .i64 m) := K.at 0 rfl
    have kk55 : W.cell? ⟨(w.heap.size + 1), 1, none⟩ = some (.slice none 0 0) := K.at 1 rfl
    have kk56 : W.cell? ⟨(w.heap.size + 1), 2, none⟩ = some (.int .i64 0) := K.at 2 rfl
    have kk57 : W.cell? ⟨(w.heap.size + 1), 3, none⟩ = some (.bool false) := K.at 3 rfl
    simp [results, Tryz.results12, go_sem, *]
  · exact H3.out.past HB2.out (fun _ h => h) (S := fun k => k = w.heap.size + 1) (alter_set (S := fun k => k = w.heap.size + 1) (alter_set (S := fun k => k = w.heap.size + 1) (alter_set (S := fun k => k = w.heap.size + 1) (alter_set (S := fun k => k = w.heap.size + 1) (Alter.refl _ _) (.inl rfl) _) (.inl rfl) _) (.inl rfl) _) (.inl rfl) _) (fun k hk => by have := HKR1.out.lt; omega)
set_option maxRecDepth 100000 in
set_option maxHeartbeats 2000000 in
theorem do4_any (h : StoreAt w p F l) (hs : SaneL l) (hg : Glob w) :
    Calls Tryz.prog 12 #[.pointer (some ⟨p, 0, none⟩), .agg (OpA 4 b q x y A n c)] w fun e w' => ∃ A' n' c' cnt fl, e = .returned (.agg (OutA (0) A' n' c' cnt fl)) ∧ After w w' p F (stepL (sortB l)) := by
  have hp := h.lt
  have HA := fun W mb a1 a2 a3 (hb : Below w.heap.size w W) (h1 : KindsAt W mb a1 a2 a3) => doStep_any 4 b q x y A n c W p _ l (h.bound.below hb) hs (hg.below hb)
  obtain ⟨cn, hcn⟩ : ∃ cn : Int, cn = (((contactsL (sortB l)).length : Nat) : Int) := ⟨_, rfl⟩
  obtain ⟨ff, hff⟩ : ∃ ff, ff = flag3 (sortB l) := ⟨_, rfl⟩
  obtain ⟨nl, hnl⟩ : ∃ nl, nl = stepL (sortB l) := ⟨_, rfl⟩
  rw [← hcn, ← hff, ← hnl] at HA
  rw [← hnl]
  clear hcn hff hnl
  have hb1 : Below w.heap.size w ((w.alloc (.cells (OpA 4 b q x y A n c) 44)).alloc (.cells (OutA 0 none 0 0 0 false) 42)).drew := (by repeat (first | with_reducible exact Below.refl _ _ | with_reducible refine bel_alloc ?_ _ | with_reducible refine bel_drewN ?_ _ | with_reducible refine bel_drew ?_ | with_reducible refine bel_grow ?_ _ | with_reducible refine bel_set ?_ (by first | omega | (simp; done) | (simp; omega)) _))
  have KR : CellsAt ((w.alloc (.cells (OpA 4 b q x y A n c) 44)).alloc (.cells (OutA 0 none 0 0 0 false) 42)).drew (w.heap.size + 1) (OutA 0 none 0 0 0 false) 42 := (CellsAt.newAt (by simp) rfl).drew
  have KX : CellsAt ((w.alloc (.cells (OpA 4 b q x y A n c) 44)).alloc (.cells (OutA 0 none 0 0 0 false) 42)).drew w.heap.size (OpA 4 b q x y A n c) 44 := ((CellsAt.newAt rfl rfl).alloc _).drew
  have HA := Lib.hid HA
  have HB1 := Lib.hid hb1
  have HKR := Lib.hid KR
  have HKX := Lib.hid KX
  have k0 : ((w.alloc (.cells (OpA 4 b q x y A n c) 44)).alloc (.cells (OutA 0 none 0 0 0 false) 42)).drew.cell? ⟨w.heap.size, 0, none⟩ = some (.int .i64 4) := KX.at 0 rfl
  clear h hs hg hb1 KR KX
  have HK0 : ∀ g : Grow ((w.alloc (.cells (OpA 4 b q x y A n c) 44)).alloc (.cells (OutA 0 none 0 0 0 false) 42)).drew, (fun w' : World => w'.cell? ⟨w.heap.size, 0, none⟩ = some (.int .i64 4)) g.world := fun g => (HKX.out.grow g).at 0 rfl
  go_enter Tryz.func12, Tryz.ntmps12
  go_upto_region 1 with fail
  go_region_held3 (fun w' : World => w'.cell? ⟨w.heap.size, 0, none⟩ = some (.int .i64 4)) (first | exact k0 | exact HK0 g1)
    (first | (go_at_call 29; refine (kinds_any _).mono ?_; rintro e w1 ⟨mb, a1, a2, a3, rfl, hk, hb⟩; obtain ⟨g1, rfl⟩ := Grow.of hb; have LK : (Instr.lookup 84 (.map (some mb)) (.int .i64 4) true).run Tryz.prog g1.world = .ok (.tuple #[fnV 62, .bool true]) g1.world := (by simpa [getM, kindsL] using look_kind hk 4); have HKD := Lib.hid hk; clear hk hb))
  have K1 := HKX.out.grow g1
  have kk58 : g1.world.cell? ⟨w.heap.size, 0, none⟩ = some (.int .i64 4) := K1.at 0 rfl
  have kk59 : g1.world.cell? ⟨w.heap.size, 1, none⟩ = some (.int .u32 b.key) := K1.at 1 rfl
  have kk60 : g1.world.cell? ⟨w.heap.size, 2, none⟩ = some (.int .i32 b.radius) := K1.at 2 rfl
  have kk61 : g1.world.cell? ⟨w.heap.size, 3, none⟩ = some (.int .i32 b.ax) := K1.at 3 rfl
  have kk62 : g1.world.cell? ⟨w.heap.size, 4, none⟩ = some (.int .i32 b.ay) := K1.at 4 rfl
  have kk63 : g1.world.cell? ⟨w.heap.size, 5, none⟩ = some (.int .i32 b.inv) := K1.at 5 rfl
  have kk64 : g1.world.cell? ⟨w.heap.size, 6, none⟩ = some (.int .i32 b.bounce) := K1.at 6 rfl
  have kk65 : g1.world.cell? ⟨w.heap.size, 7, none⟩ = some (.int .i32 b.px) := K1.at 7 rfl
  have kk66 : g1.world.cell? ⟨w.heap.size, 8, none⟩ = some (.int .i32 b.py) := K1.at 8 rfl
  have kk67 : g1.world.cell? ⟨w.heap.size, 9, none⟩ = some (.int .i32 b.vx) := K1.at 9 rfl
  have kk68 : g1.world.cell? ⟨w.heap.size, 10, none⟩ = some (.int .i32 b.vy) := K1.at 10 rfl
  have kk69 : g1.world.cell? ⟨w.heap.size, 11, none⟩ = some (.int .u32 q) := K1.at 11 rfl
  have kk70 : g1.world.cell? ⟨w.heap.size, 12, none⟩ = some (.int .i32 x) := K1.at 12 rfl
  have kk71 : g1.world.cell? ⟨w.heap.size, 13, none⟩ = some (.int .i32 y) := K1.at 13 rfl
  have kk72 : g1.world.cell? ⟨w.heap.size, 14, none⟩ = some (.slice A n c) := K1.at 14 rfl
  have HB2 := Lib.hid (bel_grow HB1.out g1)
  have HKR1 := Lib.hid (HKR.out.grow g1)
  clear K1 k0 HK0
  go_wp2_with (go_at_call 62; refine (HA.out _ mb a1 a2 a3 HB2.out HKD.out).mono ?_; rintro e w3 ⟨rfl, h3⟩; have KR := HKR1.out.alter h3.alter (by simp); have fz : ∀ o, w3.frozen? ⟨w.heap.size + 1, o, none⟩ = false := fun o => KR.froz o; have lR := KR.lt; have H3 := Lib.hid h3; clear h3; have kk0 : w3.cell? ⟨w.heap.size + 1, 0, none⟩ = some (.int .i64 0) := KR.at 0 rfl; have kk1 : w3.cell? ⟨w.heap.size + 1, 1, none⟩ = some (.slice none 0 0) := KR.at 1 rfl; have kk2 : w3.cell? ⟨w.heap.size + 1, 2, none⟩ = some (.int .i64 0) := KR.at 2 rfl; have kk3 : w3.cell? ⟨w.heap.size + 1, 3, none⟩ = some (.bool false) := KR.at 3 rfl)
  refine bodyPost_ret (v := .agg (OutA 0 none 0 0 cn ff)) (ret_cells (w.heap.size + 1) (OutA 0 none 0 0 cn ff) 42 ?_ ?_) rfl ⟨_, _, _, _, _, rfl, ?_⟩
  · exact ((((KR.set 0 _).set 1 _).set 2 _).set 3 _).eq (by simp)
  · intro W K
    have kk73 : W.cell? ⟨(w.heap.size + 1), 0, none⟩ = some (.int .i64 0) := K.at 0 rfl
    have kk74 : W.cell? ⟨(w.heap.size + 1), 1, none⟩ = some (.slice none 0 0) := K.at 1 rfl
    have kk75 : W.cell? ⟨(w.heap.size + 1), 2, none⟩ = some (.int .i64 cn) := K.at 2 rfl
    have kk76 : W.cell? ⟨(w.heap.size + 1), 3, none⟩ = some (.bool ff) := K.at 3 rfl
    simp [results, Tryz.results12, go_sem, *]
  · exact H3.out.past HB2.out (fun _ h => h) (S := fun k => k = w.heap.size + 1) (alter_set (S := fun k => k = w.heap.size + 1) (alter_set (S := fun k => k = w.heap.size + 1) (alter_set (S := fun k => k = w.heap.size + 1) (alter_set (S := fun k => k = w.heap.size + 1) (Alter.refl _ _) (.inl rfl) _) (.inl rfl) _) (.inl rfl) _) (.inl rfl) _) (fun k hk => by have := HKR1.out.lt; omega)
set_option maxRecDepth 100000 in
set_option maxHeartbeats 2000000 in
theorem do5_any (h : StoreAt w p F l) (hs : SaneL l) :
    Calls Tryz.prog 12 #[.pointer (some ⟨p, 0, none⟩), .agg (OpA 5 b q x y A n c)] w fun e w' => ∃ A' n' c' cnt fl, e = .returned (.agg (OutA (0) A' n' c' cnt fl)) ∧ After w w' p F (l) := by
  have hp := h.lt
  have HA := fun W mb a1 a2 a3 (hb : Below w.heap.size w W) (h1 : KindsAt W mb a1 a2 a3) => doSnap_any 5 b q x y A n c W p _ l (h.bound.below hb) hs
  obtain ⟨nl, hnl⟩ : ∃ nl, nl = l := ⟨_, rfl⟩
  obtain ⟨by_, hby⟩ : ∃ by_, by_ = bytesL (sortB l) := ⟨_, rfl⟩
  rw [← hby] at HA
  clear hby hnl
  have hb1 : Below w.heap.size w ((w.alloc (.cells (OpA 5 b q x y A n c) 44)).alloc (.cells (OutA 0 none 0 0 0 false) 42)).drew := (by repeat (first | with_reducible exact Below.refl _ _ | with_reducible refine bel_alloc ?_ _ | with_reducible refine bel_drewN ?_ _ | with_reducible refine bel_drew ?_ | with_reducible refine bel_grow ?_ _ | with_reducible refine bel_set ?_ (by first | omega | (simp; done) | (simp; omega)) _))
  have KR : CellsAt ((w.alloc (.cells (OpA 5 b q x y A n c) 44)).alloc (.cells (OutA 0 none 0 0 0 false) 42)).drew (w.heap.size + 1) (OutA 0 none 0 0 0 false) 42 := (CellsAt.newAt (by simp) rfl).drew
  have KX : CellsAt ((w.alloc (.cells (OpA 5 b q x y A n c) 44)).alloc (.cells (OutA 0 none 0 0 0 false) 42)).drew w.heap.size (OpA 5 b q x y A n c) 44 := ((CellsAt.newAt rfl rfl).alloc _).drew
  have HA := Lib.hid HA
  have HB1 := Lib.hid hb1
  have HKR := Lib.hid KR
  have HKX := Lib.hid KX
  have k0 : ((w.alloc (.cells (OpA 5 b q x y A n c) 44)).alloc (.cells (OutA 0 none 0 0 0 false) 42)).drew.cell? ⟨w.heap.size, 0, none⟩ = some (.int .i64 5) := KX.at 0 rfl
  clear h hs hb1 KR KX
  have HK0 : ∀ g : Grow ((w.alloc (.cells (OpA 5 b q x y A n c) 44)).alloc (.cells (OutA 0 none 0 0 0 false) 42)).drew, (fun w' : World => w'.cell? ⟨w.heap.size, 0, none⟩ = some (.int .i64 5)) g.world := fun g => (HKX.out.grow g).at 0 rfl
  go_enter Tryz.func12, Tryz.ntmps12
  go_upto_region 1 with fail
  go_region_held3 (fun w' : World => w'.cell? ⟨w.heap.size, 0, none⟩ = some (.int .i64 5)) (first | exact k0 | exact HK0 g1)
    (first | (go_at_call 29; refine (kinds_any _).mono ?_; rintro e w1 ⟨mb, a1, a2, a3, rfl, hk, hb⟩; obtain ⟨g1, rfl⟩ := Grow.of hb; have LK : (Instr.lookup 84 (.map (some mb)) (.int .i64 5) true).run Tryz.prog g1.world = .ok (.tuple #[fnV 63, .bool true]) g1.world := (by simpa [getM, kindsL] using look_kind hk 5); have HKD := Lib.hid hk; clear hk hb))
  have K1 := HKX.out.grow g1
  have kk77 : g1.world.cell? ⟨w.heap.size, 0, none⟩ = some (.int .i64 5) := K1.at 0 rfl
  have kk78 : g1.world.cell? ⟨w.heap.size, 1, none⟩ = some (.int .u32 b.key) := K1.at 1 rfl
  have kk79 : g1.world.cell? ⟨w.heap.size, 2, none⟩ = some (.int .i32 b.radius) := K1.at 2 rfl
  have kk80 : g1.world.cell? ⟨w.heap.size, 3, none⟩ = some (.int .i32 b.ax) := K1.at 3 rfl
  have kk81 : g1.world.cell? ⟨w.heap.size, 4, none⟩ = some (.int .i32 b.ay) := K1.at 4 rfl
  have kk82 : g1.world.cell? ⟨w.heap.size, 5, none⟩ = some (.int .i32 b.inv) := K1.at 5 rfl
  have kk83 : g1.world.cell? ⟨w.heap.size, 6, none⟩ = some (.int .i32 b.bounce) := K1.at 6 rfl
  have kk84 : g1.world.cell? ⟨w.heap.size, 7, none⟩ = some (.int .i32 b.px) := K1.at 7 rfl
  have kk85 : g1.world.cell? ⟨w.heap.size, 8, none⟩ = some (.int .i32 b.py) := K1.at 8 rfl
  have kk86 : g1.world.cell? ⟨w.heap.size, 9, none⟩ = some (.int .i32 b.vx) := K1.at 9 rfl
  have kk87 : g1.world.cell? ⟨w.heap.size, 10, none⟩ = some (.int .i32 b.vy) := K1.at 10 rfl
  have kk88 : g1.world.cell? ⟨w.heap.size, 11, none⟩ = some (.int .u32 q) := K1.at 11 rfl
  have kk89 : g1.world.cell? ⟨w.heap.size, 12, none⟩ = some (.int .i32 x) := K1.at 12 rfl
  have kk90 : g1.world.cell? ⟨w.heap.size, 13, none⟩ = some (.int .i32 y) := K1.at 13 rfl
  have kk91 : g1.world.cell? ⟨w.heap.size, 14, none⟩ = some (.slice A n c) := K1.at 14 rfl
  have HB2 := Lib.hid (bel_grow HB1.out g1)
  have HKR1 := Lib.hid (HKR.out.grow g1)
  clear K1 k0 HK0
  go_wp2_with (go_at_call 63; refine (HA.out _ mb a1 a2 a3 HB2.out HKD.out).mono ?_; rintro e w3 ⟨A3, n3, c3, rfl, hob, h3⟩; clear hob; have KR := HKR1.out.alter h3.alter (by simp); have fz : ∀ o, w3.frozen? ⟨w.heap.size + 1, o, none⟩ = false := fun o => KR.froz o; have lR := KR.lt; have H3 := Lib.hid h3; clear h3; have kk0 : w3.cell? ⟨w.heap.size + 1, 0, none⟩ = some (.int .i64 0) := KR.at 0 rfl; have kk1 : w3.cell? ⟨w.heap.size + 1, 1, none⟩ = some (.slice none 0 0) := KR.at 1 rfl; have kk2 : w3.cell? ⟨w.heap.size + 1, 2, none⟩ = some (.int .i64 0) := KR.at 2 rfl; have kk3 : w3.cell? ⟨w.heap.size + 1, 3, none⟩ = some (.bool false) := KR.at 3 rfl)
  refine bodyPost_ret (v := .agg (OutA 0 A3 n3 c3 0 false)) (ret_cells (w.heap.size + 1) (OutA 0 A3 n3 c3 0 false) 42 ?_ ?_) rfl ⟨_, _, _, _, _, rfl, ?_⟩
  · exact ((((KR.set 0 _).set 1 _).set 2 _).set 3 _).eq (by simp)
  · intro W K
    have kk92 : W.cell? ⟨(w.heap.size + 1), 0, none⟩ = some (.int .i64 0) := K.at 0 rfl
    have kk93 : W.cell? ⟨(w.heap.size + 1), 1, none⟩ = some (.slice A3 n3 c3) := K.at 1 rfl
    have kk94 : W.cell? ⟨(w.heap.size + 1), 2, none⟩ = some (.int .i64 0) := K.at 2 rfl
    have kk95 : W.cell? ⟨(w.heap.size + 1), 3, none⟩ = some (.bool false) := K.at 3 rfl
    simp [results, Tryz.results12, go_sem, *]
  · exact H3.out.past HB2.out (fun _ h => h) (S := fun k => k = w.heap.size + 1) (alter_set (S := fun k => k = w.heap.size + 1) (alter_set (S := fun k => k = w.heap.size + 1) (alter_set (S := fun k => k = w.heap.size + 1) (alter_set (S := fun k => k = w.heap.size + 1) (Alter.refl _ _) (.inl rfl) _) (.inl rfl) _) (.inl rfl) _) (.inl rfl) _) (fun k hk => by have := HKR1.out.lt; omega)
set_option maxRecDepth 100000 in
set_option maxHeartbeats 2000000 in
theorem do6_any (h : StoreAt w p F l) (bs : List Int) (hr : RB w (.slice A n c) bs) :
    Calls Tryz.prog 12 #[.pointer (some ⟨p, 0, none⟩), .agg (OpA 6 b q x y A n c)] w fun e w' => ∃ A' n' c' cnt fl, e = .returned (.agg (OutA ((decL bs).2) A' n' c' cnt fl)) ∧ After w w' p F (restR l bs) := by
  have hp := h.lt
  have HA := fun W mb a1 a2 a3 (hb : Below w.heap.size w W) (h1 : KindsAt W mb a1 a2 a3) => doRest_any 6 b q x y A n c W p a3 (a3 + 1) _ l (h.bound.below hb) bs (hr.below hb) h1.x3 h1.y3
  obtain ⟨m, hm⟩ : ∃ m, m = (decL bs).2 := ⟨_, rfl⟩
  obtain ⟨nl, hnl⟩ : ∃ nl, nl = restR l bs := ⟨_, rfl⟩
  rw [← hm, ← hnl] at HA ⊢
  clear hm hnl
  have hb1 : Below w.heap.size w ((w.alloc (.cells (OpA 6 b q x y A n c) 44)).alloc (.cells (OutA 0 none 0 0 0 false) 42)).drew := (by repeat (first | with_reducible exact Below.refl _ _ | with_reducible refine bel_alloc ?_ _ | with_reducible refine bel_drewN ?_ _ | with_reducible refine bel_drew ?_ | with_reducible refine bel_grow ?_ _ | with_reducible refine bel_set ?_ (by first | omega | (simp; done) | (simp; omega)) _))
  have KR : CellsAt ((w.alloc (.cells (OpA 6 b q x y A n c) 44)).alloc (.cells (OutA 0 none 0 0 0 false) 42)).drew (w.heap.size + 1) (OutA 0 none 0 0 0 false) 42 := (CellsAt.newAt (by simp) rfl).drew
  have KX : CellsAt ((w.alloc (.cells (OpA 6 b q x y A n c) 44)).alloc (.cells (OutA 0 none 0 0 0 false) 42)).drew w.heap.size (OpA 6 b q x y A n c) 44 := ((CellsAt.newAt rfl rfl).alloc _).drew
  have HA := Lib.hid HA
  have HB1 := Lib.hid hb1
  have HKR := Lib.hid KR
  have HKX := Lib.hid KX
  have k0 : ((w.alloc (.cells (OpA 6 b q x y A n c) 44)).alloc (.cells (OutA 0 none 0 0 0 false) 42)).drew.cell? ⟨w.heap.size, 0, none⟩ = some (.int .i64 6) := KX.at 0 rfl
  clear h hr hb1 KR KX
  have HK0 : ∀ g : Grow ((w.alloc (.cells (OpA 6 b q x y A n c) 44)).alloc (.cells (OutA 0 none 0 0 0 false) 42)).drew, (fun w' : World => w'.cell? ⟨w.heap.size, 0, none⟩ = some (.int .i64 6)) g.world := fun g => (HKX.out.grow g).at 0 rfl
  go_enter Tryz.func12, Tryz.ntmps12
  go_upto_region 1 with fail
  go_region_held3 (fun w' : World => w'.cell? ⟨w.heap.size, 0, none⟩ = some (.int .i64 6)) (first | exact k0 | exact HK0 g1)
    (first | (go_at_call 29; refine (kinds_any _).mono ?_; rintro e w1 ⟨mb, a1, a2, a3, rfl, hk, hb⟩; obtain ⟨g1, rfl⟩ := Grow.of hb; have LK : (Instr.lookup 84 (.map (some mb)) (.int .i64 6) true).run Tryz.prog g1.world = .ok (.tuple #[cloV 93 a3, .bool true]) g1.world := (by simpa [getM, kindsL] using look_kind hk 6); have HKD := Lib.hid hk; clear hk hb))
  have K1 := HKX.out.grow g1
  have kk96 : g1.world.cell? ⟨w.heap.size, 0, none⟩ = some (.int .i64 6) := K1.at 0 rfl
  have kk97 : g1.world.cell? ⟨w.heap.size, 1, none⟩ = some (.int .u32 b.key) := K1.at 1 rfl
  have kk98 : g1.world.cell? ⟨w.heap.size, 2, none⟩ = some (.int .i32 b.radius) := K1.at 2 rfl
  have kk99 : g1.world.cell? ⟨w.heap.size, 3, none⟩ = some (.int .i32 b.ax) := K1.at 3 rfl
  have kk100 : g1.world.cell? ⟨w.heap.size, 4, none⟩ = some (.int .i32 b.ay) := K1.at 4 rfl
  have kk101 : g1.world.cell? ⟨w.heap.size, 5, none⟩ = some (.int .i32 b.inv) := K1.at 5 rfl
  have kk102 : g1.world.cell? ⟨w.heap.size, 6, none⟩ = some (.int .i32 b.bounce) := K1.at 6 rfl
  have kk103 : g1.world.cell? ⟨w.heap.size, 7, none⟩ = some (.int .i32 b.px) := K1.at 7 rfl
  have kk104 : g1.world.cell? ⟨w.heap.size, 8, none⟩ = some (.int .i32 b.py) := K1.at 8 rfl
  have kk105 : g1.world.cell? ⟨w.heap.size, 9, none⟩ = some (.int .i32 b.vx) := K1.at 9 rfl
  have kk106 : g1.world.cell? ⟨w.heap.size, 10, none⟩ = some (.int .i32 b.vy) := K1.at 10 rfl
  have kk107 : g1.world.cell? ⟨w.heap.size, 11, none⟩ = some (.int .u32 q) := K1.at 11 rfl
  have kk108 : g1.world.cell? ⟨w.heap.size, 12, none⟩ = some (.int .i32 x) := K1.at 12 rfl
  have kk109 : g1.world.cell? ⟨w.heap.size, 13, none⟩ = some (.int .i32 y) := K1.at 13 rfl
  have kk110 : g1.world.cell? ⟨w.heap.size, 14, none⟩ = some (.slice A n c) := K1.at 14 rfl
  have HB2 := Lib.hid (bel_grow HB1.out g1)
  have HKR1 := Lib.hid (HKR.out.grow g1)
  clear K1 k0 HK0
  go_wp2_with (go_at_call 93; refine (HA.out _ mb a1 a2 a3 HB2.out HKD.out).mono ?_; rintro e w3 ⟨rfl, h3⟩; have KR := HKR1.out.alter h3.alter (by simp); have fz : ∀ o, w3.frozen? ⟨w.heap.size + 1, o, none⟩ = false := fun o => KR.froz o; have lR := KR.lt; have H3 := Lib.hid h3; clear h3; have kk0 : w3.cell? ⟨w.heap.size + 1, 0, none⟩ = some (.int .i64 0) := KR.at 0 rfl; have kk1 : w3.cell? ⟨w.heap.size + 1, 1, none⟩ = some (.slice none 0 0) := KR.at 1 rfl; have kk2 : w3.cell? ⟨w.heap.size + 1, 2, none⟩ = some (.int .i64 0) := KR.at 2 rfl; have kk3 : w3.cell? ⟨w.heap.size + 1, 3, none⟩ = some (.bool false) := KR.at 3 rfl)
  refine bodyPost_ret (v := .agg (OutA m none 0 0 0 false)) (ret_cells (w.heap.size + 1) (OutA m none 0 0 0 false) 42 ?_ ?_) rfl ⟨_, _, _, _, _, rfl, ?_⟩
  · exact ((((KR.set 0 _).set 1 _).set 2 _).set 3 _).eq (by simp)
  · intro W K
    have kk111 : W.cell? ⟨(w.heap.size + 1), 0, none⟩ = some (.int .i64 m) := K.at 0 rfl
    have kk112 : W.cell? ⟨(w.heap.size + 1), 1, none⟩ = some (.slice none 0 0) := K.at 1 rfl
    have kk113 : W.cell? ⟨(w.heap.size + 1), 2, none⟩ = some (.int .i64 0) := K.at 2 rfl
    have kk114 : W.cell? ⟨(w.heap.size + 1), 3, none⟩ = some (.bool false) := K.at 3 rfl
    simp [results, Tryz.results12, go_sem, *]
  · exact H3.out.past HB2.out (fun _ h => h) (S := fun k => k = w.heap.size + 1) (alter_set (S := fun k => k = w.heap.size + 1) (alter_set (S := fun k => k = w.heap.size + 1) (alter_set (S := fun k => k = w.heap.size + 1) (alter_set (S := fun k => k = w.heap.size + 1) (Alter.refl _ _) (.inl rfl) _) (.inl rfl) _) (.inl rfl) _) (.inl rfl) _) (fun k hk => by have := HKR1.out.lt; omega)
end
end Go.Proofs.YtnhaiecbjipodaaGreatDoor
/- script.Do, any kind. -/
namespace Go.Proofs.YtnhaiecbjipodaaGreatDoor
open Go.RowKit Go.Shelf Go.Proofs Go.MapKept
attribute [local go_sem] Grow.cell Grow.froz Grow.lt lt_s1 lt_s2 lt_s3 lt_s4 lt_s5
def doE (l : List Body) (k : Int) (b : Body) (q : Int) (bs : List Int) : Int :=
  if k = 1 then addE l b else if k = 2 then getE l q else if k = 3 then getE l q else if k = 4 then 0 else if k = 5 then 0 else if k = 6 then (decL bs).2 else 1
def doL (l : List Body) (k : Int) (b : Body) (q x y : Int) (bs : List Int) : List Body :=
  if k = 1 then addR l b else if k = 2 then remR l q else if k = 3 then impR l q x y else if k = 4 then stepL (sortB l) else if k = 5 then l else if k = 6 then restR l bs else l
theorem rowsFit {b : List Int} (hf : ∀ a ∈ b, 0 ≤ a ∧ a ≤ 255) (n : Nat) : ∀ x ∈ rowsL b n, x.Fit := by
  intro x hx
  obtain ⟨i, _, rfl⟩ := List.mem_map.1 hx
  exact ⟨numAt_range hf _, sg_fit _, sg_fit _, sg_fit _, sg_fit _, sg_fit _, sg_fit _, sg_fit _, sg_fit _, sg_fit _⟩
section
variable (k : Int) (b : Body) (q x y : Int) (A : Option Addr) (n c : Nat) (w : World) (p : Nat) (F : Nat → Prop) (l : List Body)
set_option maxRecDepth 100000 in
set_option maxHeartbeats 2000000 in
theorem do0_any (h : StoreAt w p F l) (n1 : ¬ k = 1) (n2 : ¬ k = 2) (n3 : ¬ k = 3) (n4 : ¬ k = 4) (n5 : ¬ k = 5) (n6 : ¬ k = 6) :
    Calls Tryz.prog 12 #[.pointer (some ⟨p, 0, none⟩), .agg (OpA k b q x y A n c)] w fun e w' => ∃ A' n' c' cnt fl, e = .returned (.agg (OutA 1 A' n' c' cnt fl)) ∧ After w w' p F l := by
  have hp := h.lt
  have hno : ∀ a1 a2 a3, getM (kindsL a1 a2 a3) k = none := fun a1 a2 a3 => by simp [getM, kindsL, Ne.symm n1, Ne.symm n2, Ne.symm n3, Ne.symm n4, Ne.symm n5, Ne.symm n6]
  have hb1 : Below w.heap.size w ((w.alloc (.cells (OpA k b q x y A n c) 44)).alloc (.cells (OutA 0 none 0 0 0 false) 42)).drew := (by repeat (first | with_reducible exact Below.refl _ _ | with_reducible refine bel_alloc ?_ _ | with_reducible refine bel_drewN ?_ _ | with_reducible refine bel_drew ?_ | with_reducible refine bel_grow ?_ _ | with_reducible refine bel_set ?_ (by first | omega | (simp; done) | (simp; omega)) _))
  have KR : CellsAt ((w.alloc (.cells (OpA k b q x y A n c) 44)).alloc (.cells (OutA 0 none 0 0 0 false) 42)).drew (w.heap.size + 1) (OutA 0 none 0 0 0 false) 42 := (CellsAt.newAt (by simp) rfl).drew
  have KX : CellsAt ((w.alloc (.cells (OpA k b q x y A n c) 44)).alloc (.cells (OutA 0 none 0 0 0 false) 42)).drew w.heap.size (OpA k b q x y A n c) 44 := ((CellsAt.newAt rfl rfl).alloc _).drew
  have HB1 := Lib.hid hb1
  have HKR := Lib.hid KR
  have HKX := Lib.hid KX
  have HAT := Lib.hid h
  have HNO := Lib.hid hno
  have k0 : ((w.alloc (.cells (OpA k b q x y A n c) 44)).alloc (.cells (OutA 0 none 0 0 0 false) 42)).drew.cell? ⟨w.heap.size, 0, none⟩ = some (.int .i64 k) := KX.at 0 rfl
  clear h hb1 KR KX hno
  have HK0 : ∀ g : Grow ((w.alloc (.cells (OpA k b q x y A n c) 44)).alloc (.cells (OutA 0 none 0 0 0 false) 42)).drew, (fun w' : World => w'.cell? ⟨w.heap.size, 0, none⟩ = some (.int .i64 k)) g.world := fun g => (HKX.out.grow g).at 0 rfl
  go_enter Tryz.func12, Tryz.ntmps12
  go_upto_region 1 with fail
  go_region_held3 (fun w' : World => w'.cell? ⟨w.heap.size, 0, none⟩ = some (.int .i64 k)) (first | exact k0 | exact HK0 g1)
    (first | (go_at_call 29; refine (kinds_any _).mono ?_; rintro e w1 ⟨mb, a1, a2, a3, rfl, hk, hb⟩; obtain ⟨g1, rfl⟩ := Grow.of hb; have LK : (Instr.lookup 84 (.map (some mb)) (.int .i64 k) true).run Tryz.prog g1.world = .ok (.tuple #[.nilFunc, .bool false]) g1.world := (by have := look_kind hk k; rw [HNO.out] at this; simpa using this); clear hk hb))
  have HB2 := Lib.hid (bel_grow HB1.out g1)
  have KR := HKR.out.grow g1
  have fz : ∀ o, g1.world.frozen? ⟨w.heap.size + 1, o, none⟩ = false := fun o => KR.froz o
  have lR := KR.lt
  have kk1 : g1.world.cell? ⟨(w.heap.size + 1), 0, none⟩ = some (.int .i64 0) := KR.at 0 rfl
  have kk2 : g1.world.cell? ⟨(w.heap.size + 1), 1, none⟩ = some (.slice none 0 0) := KR.at 1 rfl
  have kk3 : g1.world.cell? ⟨(w.heap.size + 1), 2, none⟩ = some (.int .i64 0) := KR.at 2 rfl
  have kk4 : g1.world.cell? ⟨(w.heap.size + 1), 3, none⟩ = some (.bool false) := KR.at 3 rfl
  clear k0 HK0
  go_wp2
  refine bodyPost_ret (v := .agg (OutA 1 none 0 0 0 false)) (ret_cells (w.heap.size + 1) (OutA 1 none 0 0 0 false) 42 ?_ ?_) rfl ⟨_, _, _, _, _, rfl, ?_⟩
  · exact ((((KR.set 0 _).set 1 _).set 2 _).set 3 _).eq (by simp)
  · intro W K
    have kk5 : W.cell? ⟨(w.heap.size + 1), 0, none⟩ = some (.int .i64 1) := K.at 0 rfl
    have kk6 : W.cell? ⟨(w.heap.size + 1), 1, none⟩ = some (.slice none 0 0) := K.at 1 rfl
    have kk7 : W.cell? ⟨(w.heap.size + 1), 2, none⟩ = some (.int .i64 0) := K.at 2 rfl
    have kk8 : W.cell? ⟨(w.heap.size + 1), 3, none⟩ = some (.bool false) := K.at 3 rfl
    simp [results, Tryz.results12, go_sem, *]
  · have hb4 : Below w.heap.size w ((((g1.world.setCell ⟨w.heap.size + 1, 0, none⟩ (.int .i64 1)).setCell ⟨w.heap.size + 1, 1, none⟩ (.slice none 0 0)).setCell ⟨w.heap.size + 1, 2, none⟩ (.int .i64 0)).setCell ⟨w.heap.size + 1, 3, none⟩ (.bool false)) := bel_set (bel_set (bel_set (bel_set HB2.out (by omega) _) (by omega) _) (by omega) _) (by omega) _
    exact .of_same (HAT.out.below hb4) (Alter.of_below hb4 F)
theorem do_any (bs : List Int) (h : StoreAt w p F l) (hs : SaneL l) (hg : Glob w) (hx : I32 x) (hy : I32 y) (hr : RB w (.slice A n c) bs) :
    Calls Tryz.prog 12 #[.pointer (some ⟨p, 0, none⟩), .agg (OpA k b q x y A n c)] w fun e w' => ∃ A' n' c' cnt fl, e = .returned (.agg (OutA (doE l k b q bs) A' n' c' cnt fl)) ∧ After w w' p F (doL l k b q x y bs) := by
  unfold doE doL
  by_cases k1 : k = 1
  · subst k1; rw [if_pos rfl, if_pos rfl]; exact do1_any b q x y A n c w p F l h
  by_cases k2 : k = 2
  · subst k2; rw [if_neg k1, if_neg k1, if_pos rfl, if_pos rfl]; exact do2_any b q x y A n c w p F l h
  by_cases k3 : k = 3
  · subst k3; rw [if_neg k1, if_neg k1, if_neg k2, if_neg k2, if_pos rfl, if_pos rfl]; exact do3_any b q x y A n c w p F l h hs hx hy
  by_cases k4 : k = 4
  · subst k4; rw [if_neg k1, if_neg k1, if_neg k2, if_neg k2, if_neg k3, if_neg k3, if_pos rfl, if_pos rfl]; exact do4_any b q x y A n c w p F l h hs hg
  by_cases k5 : k = 5
  · subst k5; rw [if_neg k1, if_neg k1, if_neg k2, if_neg k2, if_neg k3, if_neg k3, if_neg k4, if_neg k4, if_pos rfl, if_pos rfl]; exact do5_any b q x y A n c w p F l h hs
  by_cases k6 : k = 6
  · subst k6; rw [if_neg k1, if_neg k1, if_neg k2, if_neg k2, if_neg k3, if_neg k3, if_neg k4, if_neg k4, if_neg k5, if_neg k5, if_pos rfl, if_pos rfl]; exact do6_any b q x y A n c w p F l h bs hr
  · rw [if_neg k1, if_neg k1, if_neg k2, if_neg k2, if_neg k3, if_neg k3, if_neg k4, if_neg k4, if_neg k5, if_neg k5, if_neg k6, if_neg k6]; exact do0_any k b q x y A n c w p F l h k1 k2 k3 k4 k5 k6
theorem sane_do (bs : List Int) (hb : b.Fit) (hf : ∀ a ∈ bs, 0 ≤ a ∧ a ≤ 255) (hs : SaneL l) : SaneL (doL l k b q x y bs) := by
  unfold doL
  repeat' split
  · exact sane_addR hs hb
  · exact sane_rem hs
  · exact sane_imp hs
  · exact sane_step (sortB_sane hs)
  · exact hs
  · unfold restR
    split
    · rename_i h0
      intro x hx
      have hG := restR_len h0
      refine sane_of ?_ (hG.ok x hx)
      unfold decL at hx
      split at hx
      · split at hx
        · cases hx
        · exact rowsFit hf _ x hx
      · cases hx
    · exact hs
  · exact hs
end
end Go.Proofs.YtnhaiecbjipodaaGreatDoor
/- script.Run and script.World. -/
namespace Go.Proofs.YtnhaiecbjipodaaGreatDoor
open Go.RowKit Go.Shelf Go.Proofs Go.MapKept
attribute [local go_sem] Grow.cell Grow.froz Grow.lt lt_s1 lt_s2 lt_s3 lt_s4 lt_s5
/-- An operation (and what its bytes are). -/
structure OpD where
  k : Int
  b : Body
  q : Int
  x : Int
  y : Int
  A : Option Addr
  n : Nat
  c : Nat
  bs : List Int
def opE : Enc OpD := ⟨15, fun o => (OpA o.k o.b o.q o.x o.y o.A o.n o.c).toList, fun _ => rfl, fun o u hu => by
  simp at hu
  rcases hu with rfl | rfl | rfl | rfl | rfl | rfl | rfl | rfl | rfl | rfl | rfl | rfl | rfl | rfl | rfl <;> rfl, by decide⟩
structure OutD where
  e : Int
  A : Option Addr
  n : Nat
  c : Nat
  k : Int
  f : Bool
def outE : Enc OutD := ⟨4, fun o => (OutA o.e o.A o.n o.c o.k o.f).toList, fun _ => rfl, fun o u hu => by
  simp at hu
  rcases hu with rfl | rfl | rfl | rfl <;> rfl, by decide⟩
theorem outInfo : (Tryz.prog.info? 42).map (fun i => (i.zero, i.size, i.bytes)) = some (some (.agg #[.int .i64 0, .slice none 0 0, .int .i64 0, .bool false]), 4, 48) := by kernel_rfl
theorem Glob.alter {S : Nat → Prop} {w w' : World} (h : Glob w) (ha : Alter S w w') (hs : ∀ k, S k → 4 ≤ k) : Glob w' := by
  have hz := h.size
  obtain ⟨h0, h1, h2, h3, h4, h5⟩ := h
  have k : ∀ b o, b < 4 → w'.cell? ⟨b, o, none⟩ = w.cell? ⟨b, o, none⟩ := fun b o hb' => ha.cell (by omega) (fun h => by have := hs b h; omega)
  exact ⟨(k _ _ (by omega)).trans h0, (k _ _ (by omega)).trans h1, (k _ _ (by omega)).trans h2, (k _ _ (by omega)).trans h3, (k _ _ (by omega)).trans h4, (k _ _ (by omega)).trans h5⟩
theorem RB.alter {S : Nat → Prop} {w w' : World} {v : Value} {l : List Int} (h : RB w v l) (ha : Alter S w w') (hs : ∀ k, v.ownBlock = some k → 0 < l.length → ¬ S k) : RB w' v l := by
  obtain ⟨h1, h1', A, c, rfl, h3, h4, h5⟩ := h
  refine ⟨h1, h1', A, c, rfl, h3, h4, fun i a hia => ?_⟩
  obtain ⟨b, off, rfl, hc⟩ := h5 i a hia
  exact ⟨b, off, rfl, by rw [ha.cell (World.block_lt_of_cell? w _ hc) (hs b rfl (Nat.lt_of_le_of_lt (Nat.zero_le i) (List.getElem?_eq_some_iff.1 hia).1))]; exact hc⟩
def stepD (l : List Body) (o : OpD) : List Body := doL l o.k o.b o.q o.x o.y o.bs
def runL (l : List Body) (ops : List OpD) : List Body := ops.foldl stepD l
theorem runL_take {l : List Body} {ops : List OpD} {k : Nat} (hk : k < ops.length) : runL l (ops.take (k + 1)) = stepD (runL l (ops.take k)) ops[k] := by
  unfold runL
  rw [List.take_succ_eq_append_getElem hk, List.foldl_append]
  rfl
/-- What an operation needs. -/
structure OpOk (w : World) (F : Nat → Prop) (o : OpD) : Prop where
  fit : o.b.Fit
  x : I32 o.x
  y : I32 o.y
  rb : RB w (.slice o.A o.n o.c) o.bs
  ap : ∀ k, (Value.slice o.A o.n o.c).ownBlock = some k → 0 < o.bs.length → ¬ F k
theorem sane_run {l : List Body} (hs : SaneL l) : ∀ {ops : List OpD}, (∀ o ∈ ops, o.b.Fit ∧ ∀ a ∈ o.bs, 0 ≤ a ∧ a ≤ 255) → SaneL (runL l ops) := by
  intro ops
  induction ops generalizing l with
  | nil => exact fun _ => hs
  | cons o r ih => exact fun h => ih (sane_do _ _ _ _ _ _ _ (h o (List.mem_cons_self ..)).1 (h o (List.mem_cons_self ..)).2 hs) (fun o' ho' => h o' (List.mem_cons_of_mem _ ho'))
theorem idx_op {A : Option Addr} {b off k len c : Nat} (hA : A = some ⟨b, off, none⟩) (hk : k < len) (w : World) :
    (Instr.indexAt 35 (.slice A len c) (.int .i64 (k : Int))).run Tryz.prog w = .ok (.pointer (some ⟨b, off + k * 15, none⟩)) w := by
  subst hA
  have hk' : (k : Int) < (len : Int) := by omega
  go_simp
set_option maxRecDepth 100000 in
set_option maxHeartbeats 2000000 in
theorem run_any (p : Nat) (v : Value) (ops : List OpD) (w : World) (F : Nat → Prop) (l : List Body) (h : StoreAt w p F l) (hs : SaneL l) (hg : Glob w) (hF : ∀ k, F k → 4 ≤ k) (hv : Reads opE w v ops) (hva : ∀ k, v.ownBlock = some k → ¬ F k) (ho : ∀ o ∈ ops, OpOk w F o) (hn : ops.length ≤ 1000000) :
    Calls Tryz.prog 26 #[.pointer (some ⟨p, 0, none⟩), v] w fun e w' => ∃ v', e = .returned v' ∧ After w w' p F (runL l ops) := by
  have hp := h.lt
  obtain ⟨N, hN⟩ : ∃ N, N = ops.length := ⟨_, rfl⟩
  obtain ⟨A, c, b1, o1, rfl, hA, hx⟩ := hv.form
  rw [← hN]
  have hA := Lib.hid hA
  have hx := Lib.hid hx
  have HN := Lib.hid hN
  have HNB := Lib.hid hn
  have HAT := Lib.hid h.bound
  have HS := Lib.hid hs
  have HG := Lib.hid hg
  have HF4 := Lib.hid hF
  have HVA := Lib.hid hva
  have HO := Lib.hid ho
  have g4 := hg.size
  clear h hs hg hF hv hva ho hN hn
  go_enter Tryz.func26, Tryz.ntmps26
  go_wp2
  go_loopw [5, 10] (fun u i wr => ∃ (k : Nat) (outs : List OutD) (F' : Nat → Prop), k ≤ N ∧ i = .int .i64 k ∧ outs.length ≤ k ∧ Own outE 42 wr w.heap.size u outs ∧ StoreAt wr p F' (runL l (ops.take k)) ∧ (∀ j, F' j → j < wr.heap.size ∧ (F j ∨ w.heap.size ≤ j)) ∧ (∀ j, u.ownBlock = some j → ¬ F' j) ∧ Alter F w wr) (fun _ i _ => N - (intOf i).toNat)
  case atStart =>
    refine ⟨0, [], (fun k => F k ∧ k < w.heap.size), by omega, rfl, by simp, Own.nil _ _ _ _, by simpa [runL] using HAT.out, fun j hj => ⟨hj.2, .inl hj.1⟩, fun j hj => by simp [Value.ownBlock] at hj, Alter.refl _ _⟩
  case round =>
    obtain ⟨k, outs, F', hk, rfl, hol, hown, hS, hF', hua, hAl⟩ := hrel
    by_cases hlt : k < N
    · have hko : k < ops.length := by rw [← HN.out]; exact hlt
      have hbig := HNB.out
      obtain ⟨eA, zA⟩ := hA.out (by omega)
      have ix := fun w => idx_op (c := c) eA hko w
      rw [← HN.out] at ix
      have hne : ¬ F b1 := HVA.out b1 (by rw [eA]; rfl)
      clear eA
      obtain ⟨od, hod⟩ : ∃ od, od = ops[k] := ⟨_, rfl⟩
      have hcell : ∀ j u, (opE.cells od)[j]? = some u → wr.cell? ⟨b1, o1 + k * 15 + j, none⟩ = some u := fun j u hu => by
        rw [hAl.cell zA hne]
        rw [hod] at hu
        exact hx.out k hko j u hu
      have hok := HO.out od (by rw [hod]; exact List.getElem_mem hko)
      have hsn : SaneL (runL l (ops.take k)) := sane_run HS.out fun o ho => ⟨(HO.out o (List.mem_of_mem_take ho)).fit, (HO.out o (List.mem_of_mem_take ho)).rb.2.1⟩
      obtain ⟨ok, ob, oq, ox, oy, oA, on, oc, obs⟩ := od
      have e0 : wr.cell? ⟨b1, o1 + k * 15, none⟩ = some (.int .i64 ok) := hcell 0 _ rfl
      have e1 : wr.cell? ⟨b1, o1 + k * 15 + 1, none⟩ = some (.int .u32 ob.key) := hcell 1 _ rfl
      have e2 : wr.cell? ⟨b1, o1 + k * 15 + 2, none⟩ = some (.int .i32 ob.radius) := hcell 2 _ rfl
      have e3 : wr.cell? ⟨b1, o1 + k * 15 + 3, none⟩ = some (.int .i32 ob.ax) := hcell 3 _ rfl
      have e4 : wr.cell? ⟨b1, o1 + k * 15 + 4, none⟩ = some (.int .i32 ob.ay) := hcell 4 _ rfl
      have e5 : wr.cell? ⟨b1, o1 + k * 15 + 5, none⟩ = some (.int .i32 ob.inv) := hcell 5 _ rfl
      have e6 : wr.cell? ⟨b1, o1 + k * 15 + 6, none⟩ = some (.int .i32 ob.bounce) := hcell 6 _ rfl
      have e7 : wr.cell? ⟨b1, o1 + k * 15 + 7, none⟩ = some (.int .i32 ob.px) := hcell 7 _ rfl
      have e8 : wr.cell? ⟨b1, o1 + k * 15 + 8, none⟩ = some (.int .i32 ob.py) := hcell 8 _ rfl
      have e9 : wr.cell? ⟨b1, o1 + k * 15 + 9, none⟩ = some (.int .i32 ob.vx) := hcell 9 _ rfl
      have e10 : wr.cell? ⟨b1, o1 + k * 15 + 10, none⟩ = some (.int .i32 ob.vy) := hcell 10 _ rfl
      have e11 : wr.cell? ⟨b1, o1 + k * 15 + 11, none⟩ = some (.int .u32 oq) := hcell 11 _ rfl
      have e12 : wr.cell? ⟨b1, o1 + k * 15 + 12, none⟩ = some (.int .i32 ox) := hcell 12 _ rfl
      have e13 : wr.cell? ⟨b1, o1 + k * 15 + 13, none⟩ = some (.int .i32 oy) := hcell 13 _ rfl
      have e14 : wr.cell? ⟨b1, o1 + k * 15 + 14, none⟩ = some (.slice oA on oc) := hcell 14 _ rfl
      have HDO := Lib.hid (do_any ok ob oq ox oy oA on oc (wr.alloc (.cells (OpA ok ob oq ox oy oA on oc) 44)) p F' _ obs (hS.below (bel_alloc (Below.refl _ _) _)) hsn ((HG.out.alter hAl HF4.out).alloc _) hok.x hok.y ((hok.rb.alter hAl hok.ap).alloc _))
      obtain ⟨er, her⟩ : ∃ er, er = doE (runL l (ops.take k)) ok ob oq obs := ⟨_, rfl⟩
      obtain ⟨nl, hnl⟩ : ∃ nl, nl = doL (runL l (ops.take k)) ok ob oq ox oy obs := ⟨_, rfl⟩
      rw [← her, ← hnl] at HDO
      have HNL := Lib.hid hnl
      have HOD := Lib.hid hod
      have HOWN := Lib.hid hown
      have HF2 := Lib.hid hF'
      have HUA := Lib.hid hua
      have HAL := Lib.hid hAl
      have hpr := hS.lt
      have hbs : w.heap.size ≤ wr.heap.size := hAl.size
      clear hS hok hsn hcell her hnl hod hown hF' hua hAl
      go_upto_region 5 with fail
      go_wp2_with fail
      refine HDO.out.mono ?_
      rintro e w2 ⟨A2, n2, c2, cnt, fl, rfl, h2⟩
      have hO2 : Own outE 42 w2 w.heap.size _ outs := own_block (HOWN.out.alloc _) fun j hj hjl => h2.alter.block j hjl (HUA.out j hj)
      have hz2 : wr.heap.size + 1 ≤ w2.heap.size := by have := h2.alter.size; simpa using this
      have H2 := Lib.hid h2
      have HO2 := Lib.hid hO2
      clear h2 hO2
      go_wp2_with (at_builtin; refine own_append' outE w.heap.size rfl (.tmp 14) (.tmp 18) 79 42 _ 48 rfl Tryz.underlying79 outInfo rfl (by decide) _ outs ⟨er, A2, n2, c2, cnt, fl⟩ _ (by rfl) rfl (by first | rfl | simp [go_sem]) HO2.out (by omega) (by omega) ?_; intro v3 w3 own3 hg3 hb3)
      go_roundw
      case rel =>
        obtain ⟨F2, h2, ha2, hf2⟩ := H2.out
        obtain ⟨v5, m5, h5⟩ := h2.bound
        have hub := HOWN.out.lt
        have hnF : ∀ j, u5.ownBlock = some j → ¬ F2 j := fun j hj hf => by
          have := hub j hj
          rcases hf2 j hf with h | h
          · exact HUA.out j hj h
          · simp at h; omega
        have hsz3 := hg3.size
        refine ⟨k + 1, outs ++ [⟨er, A2, n2, c2, cnt, fl⟩], (fun j => F2 j ∧ j < w2.heap.size), by omega, by go_num, by simp; omega, own3, ⟨v5, m5, ?_⟩, fun j hj => ⟨by omega, ?_⟩, fun j hj hf => ?_, ?_⟩
        · rw [runL_take hko, ← HOD.out]
          have e : stepD (runL l (ops.take k)) ⟨ok, ob, oq, ox, oy, oA, on, oc, obs⟩ = nl := HNL.out.symm
          rw [e]
          exact h5.alter (S := fun j => u5.ownBlock = some j) (Alter.of_grown_none hg3 fun b hb => hb) fun j hj hs => hnF j hs hj.1
        · rcases hf2 j hj.1 with h | h
          · exact (HF2.out j h).2
          · right; simp at h; omega
        · rcases hb3 with h | h
          · exact hnF j (h ▸ hj) hf.1
          · rw [h] at hj; simp at hj; omega
        · refine ((HAL.out.trans (Alter.of_below (bel_alloc (Below.refl _ _) _) F) (fun _ _ h => h)).trans ha2 (fun j hj h => ?_)).trans (T := fun j => u5.ownBlock = some j) (Alter.of_grown_none hg3 fun b hb => hb) (fun j hj h => ?_)
          · rcases (HF2.out j h).2 with h | h
            · exact h
            · omega
          · have := HOWN.out.base_le j h; omega
      case measure => simp [intOf]; omega
    · have hkl : k = ops.length := by rw [← HN.out]; omega
      have HS2 := Lib.hid hS
      have HF2 := Lib.hid hF'
      have HAL := Lib.hid hAl
      have HKL := Lib.hid hkl
      clear hS hF' hAl hkl hown hua
      go_wp2
      go_ret
      refine ⟨_, rfl, F', ?_, HAL.out, fun j hj => (HF2.out j hj).2⟩
      have := HS2.out
      rwa [HKL.out, List.take_length] at this

theorem StoreAt.zero {w : World} {p : Nat} {F : Nat → Prop} (h : CellsAt w p #[.slice none 0 0, .map none] 78) (hF : F p) : StoreAt w p F [] :=
  ⟨.slice none 0 0, .map none, h, hF, Own.nil _ _ _ _, fun k hk => by simp [Value.ownBlock] at hk, by simp, by simp, .inl ⟨rfl, rfl⟩⟩
theorem scriptWorld_any (v : Value) (ops : List OpD) (w : World) (hg : Glob w) (hv : Reads opE w v ops) (hvb : ∀ k, v.ownBlock = some k → k < w.heap.size) (ho : ∀ o ∈ ops, OpOk w (fun k => w.heap.size ≤ k) o) (hn : ops.length ≤ 1000000) :
    Calls Tryz.prog 8 #[v] w fun e w' => ∃ p F, e = .returned (.pointer (some ⟨p, 0, none⟩)) ∧ StoreAt w' p F (runL [] ops) ∧ (∀ k, F k → w.heap.size ≤ k) ∧ Below w.heap.size w w' := by
  have hz := hg.size
  have hb : Below w.heap.size w (w.alloc (.cells #[.slice none 0 0, .map none] 78)) := bel_alloc (Below.refl _ _) _
  have HR := Lib.hid (run_any w.heap.size v ops (w.alloc (.cells #[.slice none 0 0, .map none] 78)) (fun k => w.heap.size ≤ k) [] (StoreAt.zero (CellsAt.new _ _ _) (Nat.le_refl _)) (by intro b hb; cases hb) (hg.alloc _) (fun k hk => by omega) (hv.below hb) (fun k hk h => by have := hvb k hk; omega) (fun o h => ⟨(ho o h).fit, (ho o h).x, (ho o h).y, (ho o h).rb.alloc _, (ho o h).ap⟩) hn)
  obtain ⟨A, c, b1, o1, rfl, _, _⟩ := hv.form
  obtain ⟨nl, hnl⟩ : ∃ nl, nl = runL [] ops := ⟨_, rfl⟩
  rw [← hnl] at HR ⊢
  have HB := Lib.hid hb
  clear hg hv hvb ho hn hb hnl
  go_enter Tryz.func8, Tryz.ntmps8
  go_wp2_with (go_at_call 26; refine HR.out.mono ?_; rintro e w2 ⟨v2, rfl, h2⟩; have H2 := Lib.hid h2; clear h2)
  go_ret
  obtain ⟨F2, h2, ha2, hf2⟩ := H2.out
  refine ⟨_, F2, rfl, h2, fun k hk => ?_, ?_⟩
  · rcases hf2 k hk with h | h
    · exact h
    · simp at h; omega
  · exact HB.out.trans (ha2.below (by simp) (fun k hk h => by omega))
end Go.Proofs.YtnhaiecbjipodaaGreatDoor
/- The two bodies of awake. -/
namespace Go.Proofs.YtnhaiecbjipodaaGreatDoor
open Go.RowKit Go.Shelf Go.Proofs
def ballB (k i x : Int) : Body := ⟨k, 65536, 0, 0, i, 0, x, 0, 0, 0⟩
def twoV : List Body := [ballB 1 0 100000, ballB 2 65536 0]
def twoN : List Body := [ballB 1 0 100000, { ballB 2 65536 0 with px := -12019, py := -16, vy := -1024 }]
theorem two_step : stepL twoV = twoN := by decide +kernel
theorem two_cand : (candL twoV).length = 1 := by decide +kernel
theorem two_con : (contactsL twoV).length = 1 := by decide +kernel
theorem two_flag : flag3 twoV = false := by decide +kernel
theorem two_asc : Asc twoV := by unfold Asc; decide
theorem two_ascN : Asc twoN := by unfold Asc; decide
theorem two_sane : SaneL twoV := by intro b hb; simp only [twoV, twoN, List.mem_cons, List.not_mem_nil, or_false] at hb; rcases hb with rfl | rfl <;> (unfold Sane; decide)
theorem two_saneN : SaneL twoN := by intro b hb; simp only [twoV, twoN, List.mem_cons, List.not_mem_nil, or_false] at hb; rcases hb with rfl | rfl <;> (unfold Sane; decide)
end Go.Proofs.YtnhaiecbjipodaaGreatDoor
