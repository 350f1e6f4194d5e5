/- Contracts of the program's functions, by walks, and plain facts beside them: Ref22D2, Ref22D3, Ref22D4. -/
import Derived.Test.YtnhaiecbjipodaaGreatDoorE07
import Derived.Test.YtnhaiecbjipodaaGreatDoorB16
import Derived.Test.YtnhaiecbjipodaaGreatDoorB30
import Derived.Test.YtnhaiecbjipodaaGreatDoorB32
/- The references' Do of layer 22, kind 2: what errors it has; nothing panics. -/
namespace Go.Proofs.YtnhaiecbjipodaaGreatDoor
open Go.RowKit
attribute [local go_sem] Grow.cell Grow.froz Grow.lt lt_s1 lt_s2 lt_s3 lt_s4 lt_s5
set_option maxRecDepth 100000 in
set_option maxHeartbeats 4000000 in
theorem d22_2 (v : Value) (l : List Body) (b : Body) (q x y : Int) (A : Option Addr) (n c : Nat) (w : World) (hl : Reads bodyE w v l) (hn : l.length ≤ 1000000) (hG : ∀ b ∈ l, errOf b = 0) (hx : I32 x) (hy : I32 y) :
    Calls Tryz.prog 30 #[v, .agg (OpA 2 b q x y A n c)] w fun e w' => ∃ V1 n1 c1 B1 m1 d1 cnt f, e = .returned (.agg #[.slice V1 n1 c1, .int .i64 (errK l q), .int .u32 0, .int .i32 0, .int .i32 0, .int .i32 0, .int .i32 0, .int .i32 0, .int .i32 0, .int .i32 0, .int .i32 0, .int .i32 0, .slice B1 m1 d1, .int .i64 cnt, .bool f]) ∧ Below w.heap.size w w' := by
  obtain ⟨A0, n0, c0, rfl⟩ := formB hl
  obtain ⟨er, her⟩ : ∃ er, er = errK l q := ⟨_, rfl⟩
  have HIMP := Lib.hid fun W (hb : Below w.heap.size w W) => refImp_lax _ l q x y W (hl.below hb) hn hG hx hy
  rw [← her] at HIMP ⊢
  clear hl her hn hG hx hy
  go_enter Tryz.func30, Tryz.ntmps30
  go_upto_region 23 with (go_at_call 66; refine (HIMP.out _ (by repeat (first | with_reducible exact Below.refl _ _ | with_reducible refine bel_alloc ?_ _ | with_reducible refine bel_drewN ?_ _ | with_reducible refine bel_drew ?_ | with_reducible refine bel_grow ?_ _ | with_reducible refine bel_set ?_ (by first | omega | (simp; done) | (simp; omega)) _))).mono ?_; rintro e w1 ⟨A1, n1, c1, rfl, hb1⟩; obtain ⟨g1, rfl⟩ := Grow.of hb1; clear hb1)
  have hW : Below w.heap.size w (((g1.world).setCell ⟨w.heap.size + 1 + 1, 0, none⟩ (.slice A1 n1 c1)).setCell ⟨w.heap.size + 1 + 1, 1, none⟩ (.int .i64 er)) := (by repeat (first | with_reducible exact Below.refl _ _ | with_reducible refine bel_alloc ?_ _ | with_reducible refine bel_drewN ?_ _ | with_reducible refine bel_drew ?_ | with_reducible refine bel_grow ?_ _ | with_reducible refine bel_set ?_ (by first | omega | (simp; done) | (simp; omega)) _))
  have k5 : CellsAt (((g1.world).setCell ⟨w.heap.size + 1 + 1, 0, none⟩ (.slice A1 n1 c1)).setCell ⟨w.heap.size + 1 + 1, 1, none⟩ (.int .i64 er)) (w.heap.size + 1 + 1) #[.slice A1 n1 c1, .int .i64 er, .int .u32 0, .int .i32 0, .int .i32 0, .int .i32 0, .int .i32 0, .int .i32 0, .int .i32 0, .int .i32 0, .int .i32 0, .int .i32 0, .slice none 0 0, .int .i64 0, .bool false] 87 := ((((by repeat (first | with_reducible exact CellsAt.newAt (by first | rfl | (simp; done) | omega) rfl | with_reducible refine CellsAt.alloc ?_ _ | with_reducible refine CellsAt.drewN ?_ _ | with_reducible refine CellsAt.drew ?_ | with_reducible refine CellsAt.grow ?_ _ | with_reducible refine CellsAt.far ?_ (by first | omega | (simp; done) | (simp; omega)) _)) : CellsAt g1.world (w.heap.size + 1 + 1) #[.slice A0 n0 c0, .int .i64 0, .int .u32 0, .int .i32 0, .int .i32 0, .int .i32 0, .int .i32 0, .int .i32 0, .int .i32 0, .int .i32 0, .int .i32 0, .int .i32 0, .slice none 0 0, .int .i64 0, .bool false] 87).set 0 _).set 1 _).eq (by simp)
  have k4 : CellsAt (((g1.world).setCell ⟨w.heap.size + 1 + 1, 0, none⟩ (.slice A1 n1 c1)).setCell ⟨w.heap.size + 1 + 1, 1, none⟩ (.int .i64 er)) (w.heap.size + 1) #[.slice none 0 0, .int .i64 0, .int .u32 0, .int .i32 0, .int .i32 0, .int .i32 0, .int .i32 0, .int .i32 0, .int .i32 0, .int .i32 0, .int .i32 0, .int .i32 0, .slice none 0 0, .int .i64 0, .bool false] 87 := (by repeat (first | with_reducible exact CellsAt.newAt (by first | rfl | (simp; done) | omega) rfl | with_reducible refine CellsAt.alloc ?_ _ | with_reducible refine CellsAt.drewN ?_ _ | with_reducible refine CellsAt.drew ?_ | with_reducible refine CellsAt.grow ?_ _ | with_reducible refine CellsAt.far ?_ (by first | omega | (simp; done) | (simp; omega)) _))
  generalize ((g1.world).setCell ⟨w.heap.size + 1 + 1, 0, none⟩ (.slice A1 n1 c1)).setCell ⟨w.heap.size + 1 + 1, 1, none⟩ (.int .i64 er) = W3 at *
  have l4 := k4.lt
  have l5 := k5.lt
  have f4 : ∀ o, W3.frozen? ⟨w.heap.size + 1, o, none⟩ = false := fun o => k4.froz o
  have kk1 : W3.cell? ⟨(w.heap.size + 1 + 1), 0, none⟩ = some (.slice A1 n1 c1) := k5.at 0 rfl
  have kk2 : W3.cell? ⟨(w.heap.size + 1 + 1), 1, none⟩ = some (.int .i64 er) := k5.at 1 rfl
  have kk3 : W3.cell? ⟨(w.heap.size + 1 + 1), 2, none⟩ = some (.int .u32 0) := k5.at 2 rfl
  have kk4 : W3.cell? ⟨(w.heap.size + 1 + 1), 3, none⟩ = some (.int .i32 0) := k5.at 3 rfl
  have kk5 : W3.cell? ⟨(w.heap.size + 1 + 1), 4, none⟩ = some (.int .i32 0) := k5.at 4 rfl
  have kk6 : W3.cell? ⟨(w.heap.size + 1 + 1), 5, none⟩ = some (.int .i32 0) := k5.at 5 rfl
  have kk7 : W3.cell? ⟨(w.heap.size + 1 + 1), 6, none⟩ = some (.int .i32 0) := k5.at 6 rfl
  have kk8 : W3.cell? ⟨(w.heap.size + 1 + 1), 7, none⟩ = some (.int .i32 0) := k5.at 7 rfl
  have kk9 : W3.cell? ⟨(w.heap.size + 1 + 1), 8, none⟩ = some (.int .i32 0) := k5.at 8 rfl
  have kk10 : W3.cell? ⟨(w.heap.size + 1 + 1), 9, none⟩ = some (.int .i32 0) := k5.at 9 rfl
  have kk11 : W3.cell? ⟨(w.heap.size + 1 + 1), 10, none⟩ = some (.int .i32 0) := k5.at 10 rfl
  have kk12 : W3.cell? ⟨(w.heap.size + 1 + 1), 11, none⟩ = some (.int .i32 0) := k5.at 11 rfl
  have kk13 : W3.cell? ⟨(w.heap.size + 1 + 1), 12, none⟩ = some (.slice none 0 0) := k5.at 12 rfl
  have kk14 : W3.cell? ⟨(w.heap.size + 1 + 1), 13, none⟩ = some (.int .i64 0) := k5.at 13 rfl
  have kk15 : W3.cell? ⟨(w.heap.size + 1 + 1), 14, none⟩ = some (.bool false) := k5.at 14 rfl
  have kk16 : W3.cell? ⟨(w.heap.size + 1), 0, none⟩ = some (.slice none 0 0) := k4.at 0 rfl
  have kk17 : W3.cell? ⟨(w.heap.size + 1), 1, none⟩ = some (.int .i64 0) := k4.at 1 rfl
  have kk18 : W3.cell? ⟨(w.heap.size + 1), 2, none⟩ = some (.int .u32 0) := k4.at 2 rfl
  have kk19 : W3.cell? ⟨(w.heap.size + 1), 3, none⟩ = some (.int .i32 0) := k4.at 3 rfl
  have kk20 : W3.cell? ⟨(w.heap.size + 1), 4, none⟩ = some (.int .i32 0) := k4.at 4 rfl
  have kk21 : W3.cell? ⟨(w.heap.size + 1), 5, none⟩ = some (.int .i32 0) := k4.at 5 rfl
  have kk22 : W3.cell? ⟨(w.heap.size + 1), 6, none⟩ = some (.int .i32 0) := k4.at 6 rfl
  have kk23 : W3.cell? ⟨(w.heap.size + 1), 7, none⟩ = some (.int .i32 0) := k4.at 7 rfl
  have kk24 : W3.cell? ⟨(w.heap.size + 1), 8, none⟩ = some (.int .i32 0) := k4.at 8 rfl
  have kk25 : W3.cell? ⟨(w.heap.size + 1), 9, none⟩ = some (.int .i32 0) := k4.at 9 rfl
  have kk26 : W3.cell? ⟨(w.heap.size + 1), 10, none⟩ = some (.int .i32 0) := k4.at 10 rfl
  have kk27 : W3.cell? ⟨(w.heap.size + 1), 11, none⟩ = some (.int .i32 0) := k4.at 11 rfl
  have kk28 : W3.cell? ⟨(w.heap.size + 1), 12, none⟩ = some (.slice none 0 0) := k4.at 12 rfl
  have kk29 : W3.cell? ⟨(w.heap.size + 1), 13, none⟩ = some (.int .i64 0) := k4.at 13 rfl
  have kk30 : W3.cell? ⟨(w.heap.size + 1), 14, none⟩ = some (.bool false) := k4.at 14 rfl
  have HK4 := Lib.hid k4
  have HW := Lib.hid hW
  clear k4 k5 hW
  go_wp2
  refine bodyPost_ret (v := .agg #[.slice A1 n1 c1, .int .i64 er, .int .u32 0, .int .i32 0, .int .i32 0, .int .i32 0, .int .i32 0, .int .i32 0, .int .i32 0, .int .i32 0, .int .i32 0, .int .i32 0, .slice none 0 0, .int .i64 0, .bool false]) (ret_cells (w.heap.size + 1) #[.slice A1 n1 c1, .int .i64 er, .int .u32 0, .int .i32 0, .int .i32 0, .int .i32 0, .int .i32 0, .int .i32 0, .int .i32 0, .int .i32 0, .int .i32 0, .int .i32 0, .slice none 0 0, .int .i64 0, .bool false] 87 ?_ ?_) rfl ⟨_, _, _, _, _, _, _, _, rfl, ?_⟩
  · exact (((((((((((((((HK4.out.set 0 _).set 1 _).set 2 _).set 3 _).set 4 _).set 5 _).set 6 _).set 7 _).set 8 _).set 9 _).set 10 _).set 11 _).set 12 _).set 13 _).set 14 _).eq (by simp)
  · intro W K
    have kk31 : W.cell? ⟨(w.heap.size + 1), 0, none⟩ = some (.slice A1 n1 c1) := K.at 0 rfl
    have kk32 : W.cell? ⟨(w.heap.size + 1), 1, none⟩ = some (.int .i64 er) := K.at 1 rfl
    have kk33 : W.cell? ⟨(w.heap.size + 1), 2, none⟩ = some (.int .u32 0) := K.at 2 rfl
    have kk34 : W.cell? ⟨(w.heap.size + 1), 3, none⟩ = some (.int .i32 0) := K.at 3 rfl
    have kk35 : W.cell? ⟨(w.heap.size + 1), 4, none⟩ = some (.int .i32 0) := K.at 4 rfl
    have kk36 : W.cell? ⟨(w.heap.size + 1), 5, none⟩ = some (.int .i32 0) := K.at 5 rfl
    have kk37 : W.cell? ⟨(w.heap.size + 1), 6, none⟩ = some (.int .i32 0) := K.at 6 rfl
    have kk38 : W.cell? ⟨(w.heap.size + 1), 7, none⟩ = some (.int .i32 0) := K.at 7 rfl
    have kk39 : W.cell? ⟨(w.heap.size + 1), 8, none⟩ = some (.int .i32 0) := K.at 8 rfl
    have kk40 : W.cell? ⟨(w.heap.size + 1), 9, none⟩ = some (.int .i32 0) := K.at 9 rfl
    have kk41 : W.cell? ⟨(w.heap.size + 1), 10, none⟩ = some (.int .i32 0) := K.at 10 rfl
    have kk42 : W.cell? ⟨(w.heap.size + 1), 11, none⟩ = some (.int .i32 0) := K.at 11 rfl
    have kk43 : W.cell? ⟨(w.heap.size + 1), 12, none⟩ = some (.slice none 0 0) := K.at 12 rfl
    have kk44 : W.cell? ⟨(w.heap.size + 1), 13, none⟩ = some (.int .i64 0) := K.at 13 rfl
    have kk45 : W.cell? ⟨(w.heap.size + 1), 14, none⟩ = some (.bool false) := K.at 14 rfl
    simp [results, Tryz.results30, go_sem, *]
  · have hB := HW.out
    repeat (first | with_reducible exact hB | with_reducible refine bel_set ?_ (by first | omega | (simp; done) | (simp; omega)) _)
end Go.Proofs.YtnhaiecbjipodaaGreatDoor
/- The references' Do of layer 22, kind 3: what errors it has; nothing panics. -/
namespace Go.Proofs.YtnhaiecbjipodaaGreatDoor
open Go.RowKit
attribute [local go_sem] Grow.cell Grow.froz Grow.lt lt_s1 lt_s2 lt_s3 lt_s4 lt_s5
set_option maxRecDepth 100000 in
set_option maxHeartbeats 4000000 in
theorem d22_3 (v : Value) (l : List Body) (b : Body) (q x y : Int) (A : Option Addr) (n c : Nat) (w : World) (hl : Reads bodyE w v l) (hG : Good l) (hF : ∀ b ∈ l, b.Fit) :
    Calls Tryz.prog 30 #[v, .agg (OpA 3 b q x y A n c)] w fun e w' => ∃ V1 n1 c1 B1 m1 d1 cnt f, e = .returned (.agg #[.slice V1 n1 c1, .int .i64 0, .int .u32 0, .int .i32 0, .int .i32 0, .int .i32 0, .int .i32 0, .int .i32 0, .int .i32 0, .int .i32 0, .int .i32 0, .int .i32 0, .slice B1 m1 d1, .int .i64 cnt, .bool f]) ∧ Below w.heap.size w w' := by
  obtain ⟨A0, n0, c0, rfl⟩ := formB hl
  have HST := Lib.hid fun W (hb : Below w.heap.size w W) => refStep_lax _ l W (hl.below hb) hG hF
  clear hl hG hF
  go_enter Tryz.func30, Tryz.ntmps30
  go_upto_region 23 with (go_at_call 67; refine (HST.out _ (by repeat (first | with_reducible exact Below.refl _ _ | with_reducible refine bel_alloc ?_ _ | with_reducible refine bel_drewN ?_ _ | with_reducible refine bel_drew ?_ | with_reducible refine bel_grow ?_ _ | with_reducible refine bel_set ?_ (by first | omega | (simp; done) | (simp; omega)) _))).mono ?_; rintro e w1 ⟨A1, n1, c1, m, f, rfl, hb1⟩; obtain ⟨g1, rfl⟩ := Grow.of hb1; clear hb1)
  have hW : Below w.heap.size w ((((g1.world).setCell ⟨w.heap.size + 1 + 1, 0, none⟩ (.slice A1 n1 c1)).setCell ⟨w.heap.size + 1 + 1, 13, none⟩ (.int .i64 m)).setCell ⟨w.heap.size + 1 + 1, 14, none⟩ (.bool f)) := (by repeat (first | with_reducible exact Below.refl _ _ | with_reducible refine bel_alloc ?_ _ | with_reducible refine bel_drewN ?_ _ | with_reducible refine bel_drew ?_ | with_reducible refine bel_grow ?_ _ | with_reducible refine bel_set ?_ (by first | omega | (simp; done) | (simp; omega)) _))
  have k5 : CellsAt ((((g1.world).setCell ⟨w.heap.size + 1 + 1, 0, none⟩ (.slice A1 n1 c1)).setCell ⟨w.heap.size + 1 + 1, 13, none⟩ (.int .i64 m)).setCell ⟨w.heap.size + 1 + 1, 14, none⟩ (.bool f)) (w.heap.size + 1 + 1) #[.slice A1 n1 c1, .int .i64 0, .int .u32 0, .int .i32 0, .int .i32 0, .int .i32 0, .int .i32 0, .int .i32 0, .int .i32 0, .int .i32 0, .int .i32 0, .int .i32 0, .slice none 0 0, .int .i64 m, .bool f] 87 := (((((by repeat (first | with_reducible exact CellsAt.newAt (by first | rfl | (simp; done) | omega) rfl | with_reducible refine CellsAt.alloc ?_ _ | with_reducible refine CellsAt.drewN ?_ _ | with_reducible refine CellsAt.drew ?_ | with_reducible refine CellsAt.grow ?_ _ | with_reducible refine CellsAt.far ?_ (by first | omega | (simp; done) | (simp; omega)) _)) : CellsAt g1.world (w.heap.size + 1 + 1) #[.slice A0 n0 c0, .int .i64 0, .int .u32 0, .int .i32 0, .int .i32 0, .int .i32 0, .int .i32 0, .int .i32 0, .int .i32 0, .int .i32 0, .int .i32 0, .int .i32 0, .slice none 0 0, .int .i64 0, .bool false] 87).set 0 _).set 13 _).set 14 _).eq (by simp)
  have k4 : CellsAt ((((g1.world).setCell ⟨w.heap.size + 1 + 1, 0, none⟩ (.slice A1 n1 c1)).setCell ⟨w.heap.size + 1 + 1, 13, none⟩ (.int .i64 m)).setCell ⟨w.heap.size + 1 + 1, 14, none⟩ (.bool f)) (w.heap.size + 1) #[.slice none 0 0, .int .i64 0, .int .u32 0, .int .i32 0, .int .i32 0, .int .i32 0, .int .i32 0, .int .i32 0, .int .i32 0, .int .i32 0, .int .i32 0, .int .i32 0, .slice none 0 0, .int .i64 0, .bool false] 87 := (by repeat (first | with_reducible exact CellsAt.newAt (by first | rfl | (simp; done) | omega) rfl | with_reducible refine CellsAt.alloc ?_ _ | with_reducible refine CellsAt.drewN ?_ _ | with_reducible refine CellsAt.drew ?_ | with_reducible refine CellsAt.grow ?_ _ | with_reducible refine CellsAt.far ?_ (by first | omega | (simp; done) | (simp; omega)) _))
  generalize (((g1.world).setCell ⟨w.heap.size + 1 + 1, 0, none⟩ (.slice A1 n1 c1)).setCell ⟨w.heap.size + 1 + 1, 13, none⟩ (.int .i64 m)).setCell ⟨w.heap.size + 1 + 1, 14, none⟩ (.bool f) = W3 at *
  have l4 := k4.lt
  have l5 := k5.lt
  have f4 : ∀ o, W3.frozen? ⟨w.heap.size + 1, o, none⟩ = false := fun o => k4.froz o
  have kk1 : W3.cell? ⟨(w.heap.size + 1 + 1), 0, none⟩ = some (.slice A1 n1 c1) := k5.at 0 rfl
  have kk2 : W3.cell? ⟨(w.heap.size + 1 + 1), 1, none⟩ = some (.int .i64 0) := k5.at 1 rfl
  have kk3 : W3.cell? ⟨(w.heap.size + 1 + 1), 2, none⟩ = some (.int .u32 0) := k5.at 2 rfl
  have kk4 : W3.cell? ⟨(w.heap.size + 1 + 1), 3, none⟩ = some (.int .i32 0) := k5.at 3 rfl
  have kk5 : W3.cell? ⟨(w.heap.size + 1 + 1), 4, none⟩ = some (.int .i32 0) := k5.at 4 rfl
  have kk6 : W3.cell? ⟨(w.heap.size + 1 + 1), 5, none⟩ = some (.int .i32 0) := k5.at 5 rfl
  have kk7 : W3.cell? ⟨(w.heap.size + 1 + 1), 6, none⟩ = some (.int .i32 0) := k5.at 6 rfl
  have kk8 : W3.cell? ⟨(w.heap.size + 1 + 1), 7, none⟩ = some (.int .i32 0) := k5.at 7 rfl
  have kk9 : W3.cell? ⟨(w.heap.size + 1 + 1), 8, none⟩ = some (.int .i32 0) := k5.at 8 rfl
  have kk10 : W3.cell? ⟨(w.heap.size + 1 + 1), 9, none⟩ = some (.int .i32 0) := k5.at 9 rfl
  have kk11 : W3.cell? ⟨(w.heap.size + 1 + 1), 10, none⟩ = some (.int .i32 0) := k5.at 10 rfl
  have kk12 : W3.cell? ⟨(w.heap.size + 1 + 1), 11, none⟩ = some (.int .i32 0) := k5.at 11 rfl
  have kk13 : W3.cell? ⟨(w.heap.size + 1 + 1), 12, none⟩ = some (.slice none 0 0) := k5.at 12 rfl
  have kk14 : W3.cell? ⟨(w.heap.size + 1 + 1), 13, none⟩ = some (.int .i64 m) := k5.at 13 rfl
  have kk15 : W3.cell? ⟨(w.heap.size + 1 + 1), 14, none⟩ = some (.bool f) := k5.at 14 rfl
  have kk16 : W3.cell? ⟨(w.heap.size + 1), 0, none⟩ = some (.slice none 0 0) := k4.at 0 rfl
  have kk17 : W3.cell? ⟨(w.heap.size + 1), 1, none⟩ = some (.int .i64 0) := k4.at 1 rfl
  have kk18 : W3.cell? ⟨(w.heap.size + 1), 2, none⟩ = some (.int .u32 0) := k4.at 2 rfl
  have kk19 : W3.cell? ⟨(w.heap.size + 1), 3, none⟩ = some (.int .i32 0) := k4.at 3 rfl
  have kk20 : W3.cell? ⟨(w.heap.size + 1), 4, none⟩ = some (.int .i32 0) := k4.at 4 rfl
  have kk21 : W3.cell? ⟨(w.heap.size + 1), 5, none⟩ = some (.int .i32 0) := k4.at 5 rfl
  have kk22 : W3.cell? ⟨(w.heap.size + 1), 6, none⟩ = some (.int .i32 0) := k4.at 6 rfl
  have kk23 : W3.cell? ⟨(w.heap.size + 1), 7, none⟩ = some (.int .i32 0) := k4.at 7 rfl
  have kk24 : W3.cell? ⟨(w.heap.size + 1), 8, none⟩ = some (.int .i32 0) := k4.at 8 rfl
  have kk25 : W3.cell? ⟨(w.heap.size + 1), 9, none⟩ = some (.int .i32 0) := k4.at 9 rfl
  have kk26 : W3.cell? ⟨(w.heap.size + 1), 10, none⟩ = some (.int .i32 0) := k4.at 10 rfl
  have kk27 : W3.cell? ⟨(w.heap.size + 1), 11, none⟩ = some (.int .i32 0) := k4.at 11 rfl
  have kk28 : W3.cell? ⟨(w.heap.size + 1), 12, none⟩ = some (.slice none 0 0) := k4.at 12 rfl
  have kk29 : W3.cell? ⟨(w.heap.size + 1), 13, none⟩ = some (.int .i64 0) := k4.at 13 rfl
  have kk30 : W3.cell? ⟨(w.heap.size + 1), 14, none⟩ = some (.bool false) := k4.at 14 rfl
  have HK4 := Lib.hid k4
  have HW := Lib.hid hW
  clear k4 k5 hW
  go_wp2
  refine bodyPost_ret (v := .agg #[.slice A1 n1 c1, .int .i64 0, .int .u32 0, .int .i32 0, .int .i32 0, .int .i32 0, .int .i32 0, .int .i32 0, .int .i32 0, .int .i32 0, .int .i32 0, .int .i32 0, .slice none 0 0, .int .i64 m, .bool f]) (ret_cells (w.heap.size + 1) #[.slice A1 n1 c1, .int .i64 0, .int .u32 0, .int .i32 0, .int .i32 0, .int .i32 0, .int .i32 0, .int .i32 0, .int .i32 0, .int .i32 0, .int .i32 0, .int .i32 0, .slice none 0 0, .int .i64 m, .bool f] 87 ?_ ?_) rfl ⟨_, _, _, _, _, _, _, _, rfl, ?_⟩
  · exact (((((((((((((((HK4.out.set 0 _).set 1 _).set 2 _).set 3 _).set 4 _).set 5 _).set 6 _).set 7 _).set 8 _).set 9 _).set 10 _).set 11 _).set 12 _).set 13 _).set 14 _).eq (by simp)
  · intro W K
    have kk31 : W.cell? ⟨(w.heap.size + 1), 0, none⟩ = some (.slice A1 n1 c1) := K.at 0 rfl
    have kk32 : W.cell? ⟨(w.heap.size + 1), 1, none⟩ = some (.int .i64 0) := K.at 1 rfl
    have kk33 : W.cell? ⟨(w.heap.size + 1), 2, none⟩ = some (.int .u32 0) := K.at 2 rfl
    have kk34 : W.cell? ⟨(w.heap.size + 1), 3, none⟩ = some (.int .i32 0) := K.at 3 rfl
    have kk35 : W.cell? ⟨(w.heap.size + 1), 4, none⟩ = some (.int .i32 0) := K.at 4 rfl
    have kk36 : W.cell? ⟨(w.heap.size + 1), 5, none⟩ = some (.int .i32 0) := K.at 5 rfl
    have kk37 : W.cell? ⟨(w.heap.size + 1), 6, none⟩ = some (.int .i32 0) := K.at 6 rfl
    have kk38 : W.cell? ⟨(w.heap.size + 1), 7, none⟩ = some (.int .i32 0) := K.at 7 rfl
    have kk39 : W.cell? ⟨(w.heap.size + 1), 8, none⟩ = some (.int .i32 0) := K.at 8 rfl
    have kk40 : W.cell? ⟨(w.heap.size + 1), 9, none⟩ = some (.int .i32 0) := K.at 9 rfl
    have kk41 : W.cell? ⟨(w.heap.size + 1), 10, none⟩ = some (.int .i32 0) := K.at 10 rfl
    have kk42 : W.cell? ⟨(w.heap.size + 1), 11, none⟩ = some (.int .i32 0) := K.at 11 rfl
    have kk43 : W.cell? ⟨(w.heap.size + 1), 12, none⟩ = some (.slice none 0 0) := K.at 12 rfl
    have kk44 : W.cell? ⟨(w.heap.size + 1), 13, none⟩ = some (.int .i64 m) := K.at 13 rfl
    have kk45 : W.cell? ⟨(w.heap.size + 1), 14, none⟩ = some (.bool f) := K.at 14 rfl
    simp [results, Tryz.results30, go_sem, *]
  · have hB := HW.out
    repeat (first | with_reducible exact hB | with_reducible refine bel_set ?_ (by first | omega | (simp; done) | (simp; omega)) _)
end Go.Proofs.YtnhaiecbjipodaaGreatDoor
/- The references' Do of layer 22, kind 4: what errors it has; nothing panics. -/
namespace Go.Proofs.YtnhaiecbjipodaaGreatDoor
open Go.RowKit
attribute [local go_sem] Grow.cell Grow.froz Grow.lt lt_s1 lt_s2 lt_s3 lt_s4 lt_s5
set_option maxRecDepth 100000 in
set_option maxHeartbeats 4000000 in
theorem d22_4 (v : Value) (l : List Body) (b : Body) (q x y : Int) (A : Option Addr) (n c : Nat) (w : World) (hl : Reads bodyE w v l) (hF : ∀ b ∈ l, b.Fit) (hn : l.length ≤ 4096) :
    Calls Tryz.prog 30 #[v, .agg (OpA 4 b q x y A n c)] w fun e w' => ∃ V1 n1 c1 B1 m1 d1 cnt f, e = .returned (.agg #[.slice V1 n1 c1, .int .i64 0, .int .u32 0, .int .i32 0, .int .i32 0, .int .i32 0, .int .i32 0, .int .i32 0, .int .i32 0, .int .i32 0, .int .i32 0, .int .i32 0, .slice B1 m1 d1, .int .i64 cnt, .bool f]) ∧ Below w.heap.size w w' := by
  obtain ⟨A0, n0, c0, rfl⟩ := formB hl
  have HBY := Lib.hid fun W (hb : Below w.heap.size w W) => bytes_any _ l W (hl.below hb) hF hn
  clear hl hF hn
  go_enter Tryz.func30, Tryz.ntmps30
  go_upto_region 23 with (go_at_call 68; refine (HBY.out _ (by repeat (first | with_reducible exact Below.refl _ _ | with_reducible refine bel_alloc ?_ _ | with_reducible refine bel_drewN ?_ _ | with_reducible refine bel_drew ?_ | with_reducible refine bel_grow ?_ _ | with_reducible refine bel_set ?_ (by first | omega | (simp; done) | (simp; omega)) _))).mono ?_; rintro e w1 ⟨v1, rfl, h1, hb1⟩; obtain ⟨A1, n1, c1, rfl⟩ := shapeOB h1; obtain ⟨g1, rfl⟩ := Grow.of hb1; clear hb1 h1)
  have hW : Below w.heap.size w ((g1.world).setCell ⟨w.heap.size + 1 + 1, 12, none⟩ (.slice A1 n1 c1)) := (by repeat (first | with_reducible exact Below.refl _ _ | with_reducible refine bel_alloc ?_ _ | with_reducible refine bel_drewN ?_ _ | with_reducible refine bel_drew ?_ | with_reducible refine bel_grow ?_ _ | with_reducible refine bel_set ?_ (by first | omega | (simp; done) | (simp; omega)) _))
  have k5 : CellsAt ((g1.world).setCell ⟨w.heap.size + 1 + 1, 12, none⟩ (.slice A1 n1 c1)) (w.heap.size + 1 + 1) #[.slice A0 n0 c0, .int .i64 0, .int .u32 0, .int .i32 0, .int .i32 0, .int .i32 0, .int .i32 0, .int .i32 0, .int .i32 0, .int .i32 0, .int .i32 0, .int .i32 0, .slice A1 n1 c1, .int .i64 0, .bool false] 87 := (((by repeat (first | with_reducible exact CellsAt.newAt (by first | rfl | (simp; done) | omega) rfl | with_reducible refine CellsAt.alloc ?_ _ | with_reducible refine CellsAt.drewN ?_ _ | with_reducible refine CellsAt.drew ?_ | with_reducible refine CellsAt.grow ?_ _ | with_reducible refine CellsAt.far ?_ (by first | omega | (simp; done) | (simp; omega)) _)) : CellsAt g1.world (w.heap.size + 1 + 1) #[.slice A0 n0 c0, .int .i64 0, .int .u32 0, .int .i32 0, .int .i32 0, .int .i32 0, .int .i32 0, .int .i32 0, .int .i32 0, .int .i32 0, .int .i32 0, .int .i32 0, .slice none 0 0, .int .i64 0, .bool false] 87).set 12 _).eq (by simp)
  have k4 : CellsAt ((g1.world).setCell ⟨w.heap.size + 1 + 1, 12, none⟩ (.slice A1 n1 c1)) (w.heap.size + 1) #[.slice none 0 0, .int .i64 0, .int .u32 0, .int .i32 0, .int .i32 0, .int .i32 0, .int .i32 0, .int .i32 0, .int .i32 0, .int .i32 0, .int .i32 0, .int .i32 0, .slice none 0 0, .int .i64 0, .bool false] 87 := (by repeat (first | with_reducible exact CellsAt.newAt (by first | rfl | (simp; done) | omega) rfl | with_reducible refine CellsAt.alloc ?_ _ | with_reducible refine CellsAt.drewN ?_ _ | with_reducible refine CellsAt.drew ?_ | with_reducible refine CellsAt.grow ?_ _ | with_reducible refine CellsAt.far ?_ (by first | omega | (simp; done) | (simp; omega)) _))
  generalize (g1.world).setCell ⟨w.heap.size + 1 + 1, 12, none⟩ (.slice A1 n1 c1) = W3 at *
  have l4 := k4.lt
  have l5 := k5.lt
  have f4 : ∀ o, W3.frozen? ⟨w.heap.size + 1, o, none⟩ = false := fun o => k4.froz o
  have kk1 : W3.cell? ⟨(w.heap.size + 1 + 1), 0, none⟩ = some (.slice A0 n0 c0) := k5.at 0 rfl
  have kk2 : W3.cell? ⟨(w.heap.size + 1 + 1), 1, none⟩ = some (.int .i64 0) := k5.at 1 rfl
  have kk3 : W3.cell? ⟨(w.heap.size + 1 + 1), 2, none⟩ = some (.int .u32 0) := k5.at 2 rfl
  have kk4 : W3.cell? ⟨(w.heap.size + 1 + 1), 3, none⟩ = some (.int .i32 0) := k5.at 3 rfl
  have kk5 : W3.cell? ⟨(w.heap.size + 1 + 1), 4, none⟩ = some (.int .i32 0) := k5.at 4 rfl
  have kk6 : W3.cell? ⟨(w.heap.size + 1 + 1), 5, none⟩ = some (.int .i32 0) := k5.at 5 rfl
  have kk7 : W3.cell? ⟨(w.heap.size + 1 + 1), 6, none⟩ = some (.int .i32 0) := k5.at 6 rfl
  have kk8 : W3.cell? ⟨(w.heap.size + 1 + 1), 7, none⟩ = some (.int .i32 0) := k5.at 7 rfl
  have kk9 : W3.cell? ⟨(w.heap.size + 1 + 1), 8, none⟩ = some (.int .i32 0) := k5.at 8 rfl
  have kk10 : W3.cell? ⟨(w.heap.size + 1 + 1), 9, none⟩ = some (.int .i32 0) := k5.at 9 rfl
  have kk11 : W3.cell? ⟨(w.heap.size + 1 + 1), 10, none⟩ = some (.int .i32 0) := k5.at 10 rfl
  have kk12 : W3.cell? ⟨(w.heap.size + 1 + 1), 11, none⟩ = some (.int .i32 0) := k5.at 11 rfl
  have kk13 : W3.cell? ⟨(w.heap.size + 1 + 1), 12, none⟩ = some (.slice A1 n1 c1) := k5.at 12 rfl
  have kk14 : W3.cell? ⟨(w.heap.size + 1 + 1), 13, none⟩ = some (.int .i64 0) := k5.at 13 rfl
  have kk15 : W3.cell? ⟨(w.heap.size + 1 + 1), 14, none⟩ = some (.bool false) := k5.at 14 rfl
  have kk16 : W3.cell? ⟨(w.heap.size + 1), 0, none⟩ = some (.slice none 0 0) := k4.at 0 rfl
  have kk17 : W3.cell? ⟨(w.heap.size + 1), 1, none⟩ = some (.int .i64 0) := k4.at 1 rfl
  have kk18 : W3.cell? ⟨(w.heap.size + 1), 2, none⟩ = some (.int .u32 0) := k4.at 2 rfl
  have kk19 : W3.cell? ⟨(w.heap.size + 1), 3, none⟩ = some (.int .i32 0) := k4.at 3 rfl
  have kk20 : W3.cell? ⟨(w.heap.size + 1), 4, none⟩ = some (.int .i32 0) := k4.at 4 rfl
  have kk21 : W3.cell? ⟨(w.heap.size + 1), 5, none⟩ = some (.int .i32 0) := k4.at 5 rfl
  have kk22 : W3.cell? ⟨(w.heap.size + 1), 6, none⟩ = some (.int .i32 0) := k4.at 6 rfl
  have kk23 : W3.cell? ⟨(w.heap.size + 1), 7, none⟩ = some (.int .i32 0) := k4.at 7 rfl
  have kk24 : W3.cell? ⟨(w.heap.size + 1), 8, none⟩ = some (.int .i32 0) := k4.at 8 rfl
  have kk25 : W3.cell? ⟨(w.heap.size + 1), 9, none⟩ = some (.int .i32 0) := k4.at 9 rfl
  have kk26 : W3.cell? ⟨(w.heap.size + 1), 10, none⟩ = some (.int .i32 0) := k4.at 10 rfl
  have kk27 : W3.cell? ⟨(w.heap.size + 1), 11, none⟩ = some (.int .i32 0) := k4.at 11 rfl
  have kk28 : W3.cell? ⟨(w.heap.size + 1), 12, none⟩ = some (.slice none 0 0) := k4.at 12 rfl
  have kk29 : W3.cell? ⟨(w.heap.size + 1), 13, none⟩ = some (.int .i64 0) := k4.at 13 rfl
  have kk30 : W3.cell? ⟨(w.heap.size + 1), 14, none⟩ = some (.bool false) := k4.at 14 rfl
  have HK4 := Lib.hid k4
  have HW := Lib.hid hW
  clear k4 k5 hW
  go_wp2
  refine bodyPost_ret (v := .agg #[.slice A0 n0 c0, .int .i64 0, .int .u32 0, .int .i32 0, .int .i32 0, .int .i32 0, .int .i32 0, .int .i32 0, .int .i32 0, .int .i32 0, .int .i32 0, .int .i32 0, .slice A1 n1 c1, .int .i64 0, .bool false]) (ret_cells (w.heap.size + 1) #[.slice A0 n0 c0, .int .i64 0, .int .u32 0, .int .i32 0, .int .i32 0, .int .i32 0, .int .i32 0, .int .i32 0, .int .i32 0, .int .i32 0, .int .i32 0, .int .i32 0, .slice A1 n1 c1, .int .i64 0, .bool false] 87 ?_ ?_) rfl ⟨_, _, _, _, _, _, _, _, rfl, ?_⟩
  · exact (((((((((((((((HK4.out.set 0 _).set 1 _).set 2 _).set 3 _).set 4 _).set 5 _).set 6 _).set 7 _).set 8 _).set 9 _).set 10 _).set 11 _).set 12 _).set 13 _).set 14 _).eq (by simp)
  · intro W K
    have kk31 : W.cell? ⟨(w.heap.size + 1), 0, none⟩ = some (.slice A0 n0 c0) := K.at 0 rfl
    have kk32 : W.cell? ⟨(w.heap.size + 1), 1, none⟩ = some (.int .i64 0) := K.at 1 rfl
    have kk33 : W.cell? ⟨(w.heap.size + 1), 2, none⟩ = some (.int .u32 0) := K.at 2 rfl
    have kk34 : W.cell? ⟨(w.heap.size + 1), 3, none⟩ = some (.int .i32 0) := K.at 3 rfl
    have kk35 : W.cell? ⟨(w.heap.size + 1), 4, none⟩ = some (.int .i32 0) := K.at 4 rfl
    have kk36 : W.cell? ⟨(w.heap.size + 1), 5, none⟩ = some (.int .i32 0) := K.at 5 rfl
    have kk37 : W.cell? ⟨(w.heap.size + 1), 6, none⟩ = some (.int .i32 0) := K.at 6 rfl
    have kk38 : W.cell? ⟨(w.heap.size + 1), 7, none⟩ = some (.int .i32 0) := K.at 7 rfl
    have kk39 : W.cell? ⟨(w.heap.size + 1), 8, none⟩ = some (.int .i32 0) := K.at 8 rfl
    have kk40 : W.cell? ⟨(w.heap.size + 1), 9, none⟩ = some (.int .i32 0) := K.at 9 rfl
    have kk41 : W.cell? ⟨(w.heap.size + 1), 10, none⟩ = some (.int .i32 0) := K.at 10 rfl
    have kk42 : W.cell? ⟨(w.heap.size + 1), 11, none⟩ = some (.int .i32 0) := K.at 11 rfl
    have kk43 : W.cell? ⟨(w.heap.size + 1), 12, none⟩ = some (.slice A1 n1 c1) := K.at 12 rfl
    have kk44 : W.cell? ⟨(w.heap.size + 1), 13, none⟩ = some (.int .i64 0) := K.at 13 rfl
    have kk45 : W.cell? ⟨(w.heap.size + 1), 14, none⟩ = some (.bool false) := K.at 14 rfl
    simp [results, Tryz.results30, go_sem, *]
  · have hB := HW.out
    repeat (first | with_reducible exact hB | with_reducible refine bel_set ?_ (by first | omega | (simp; done) | (simp; omega)) _)
end Go.Proofs.YtnhaiecbjipodaaGreatDoor
