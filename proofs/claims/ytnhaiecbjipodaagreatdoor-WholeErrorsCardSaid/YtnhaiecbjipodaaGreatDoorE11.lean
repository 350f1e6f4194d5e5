/- Contracts of the program's functions, by walks, and plain facts beside them: Ref22D5, RefOp, Full, ErrPure, ErrLaw. -/
import Derived.Test.YtnhaiecbjipodaaGreatDoorE07
import Derived.Test.YtnhaiecbjipodaaGreatDoorB16
import Derived.Test.YtnhaiecbjipodaaGreatDoorB30
import Derived.Test.YtnhaiecbjipodaaGreatDoorB32
import Derived.Test.YtnhaiecbjipodaaGreatDoorE08
import Derived.Test.YtnhaiecbjipodaaGreatDoorE09
import Derived.Test.YtnhaiecbjipodaaGreatDoorB33
import Derived.Test.YtnhaiecbjipodaaGreatDoorE10
import Derived.Deep.DeepCutAuto
/- The references' Do of layer 22, kind 5: what errors it has; nothing panics. -/
namespace Go.Proofs.YtnhaiecbjipodaaGreatDoor
open Go.RowKit
attribute [local go_sem] Grow.cell Grow.froz Grow.lt lt_s1 lt_s2 lt_s3 lt_s4 lt_s5
set_option maxRecDepth 100000 in
set_option maxHeartbeats 4000000 in
theorem d22_5 (v : Value) (l : List Body) (b : Body) (q x y : Int) (A : Option Addr) (n c : Nat) (w : World) (hl : Reads bodyE w v l) (bs : List Int) (hr : RB w (.slice A n c) bs) :
    Calls Tryz.prog 30 #[v, .agg (OpA 5 b q x y A n c)] w fun e w' => ∃ V1 n1 c1 B1 m1 d1 cnt f, e = .returned (.agg #[.slice V1 n1 c1, .int .i64 (decL bs).2, .int .u32 0, .int .i32 0, .int .i32 0, .int .i32 0, .int .i32 0, .int .i32 0, .int .i32 0, .int .i32 0, .int .i32 0, .int .i32 0, .slice B1 m1 d1, .int .i64 cnt, .bool f]) ∧ Below w.heap.size w w' := by
  obtain ⟨A0, n0, c0, rfl⟩ := formB hl
  have HDE := Lib.hid fun W (hb : Below w.heap.size w W) => refDecode_any _ bs W (hr.below hb)
  obtain ⟨er, her⟩ : ∃ er, er = (decL bs).2 := ⟨_, rfl⟩
  rw [← her] at HDE ⊢
  clear hl hr her
  by_cases hz : er = 0
  · subst hz
    skip
    go_enter Tryz.func30, Tryz.ntmps30
    go_upto_region 23 with (go_at_call 69; refine (HDE.out _ (by repeat (first | with_reducible exact Below.refl _ _ | with_reducible refine bel_alloc ?_ _ | with_reducible refine bel_drewN ?_ _ | with_reducible refine bel_drew ?_ | with_reducible refine bel_grow ?_ _ | with_reducible refine bel_set ?_ (by first | omega | (simp; done) | (simp; omega)) _))).mono ?_; rintro e w1 ⟨v1, rfl, h1, hb1⟩; obtain ⟨A1, n1, c1, rfl⟩ := formB h1; obtain ⟨g1, rfl⟩ := Grow.of hb1; clear hb1 h1)
    have hW : Below w.heap.size w (((g1.world).setCell ⟨w.heap.size + 1 + 1, 1, none⟩ (.int .i64 0)).setCell ⟨w.heap.size + 1 + 1, 0, none⟩ (.slice A1 n1 c1)) := (by repeat (first | with_reducible exact Below.refl _ _ | with_reducible refine bel_alloc ?_ _ | with_reducible refine bel_drewN ?_ _ | with_reducible refine bel_drew ?_ | with_reducible refine bel_grow ?_ _ | with_reducible refine bel_set ?_ (by first | omega | (simp; done) | (simp; omega)) _))
    have k5 : CellsAt (((g1.world).setCell ⟨w.heap.size + 1 + 1, 1, none⟩ (.int .i64 0)).setCell ⟨w.heap.size + 1 + 1, 0, none⟩ (.slice A1 n1 c1)) (w.heap.size + 1 + 1) #[.slice A1 n1 c1, .int .i64 0, .int .u32 0, .int .i32 0, .int .i32 0, .int .i32 0, .int .i32 0, .int .i32 0, .int .i32 0, .int .i32 0, .int .i32 0, .int .i32 0, .slice none 0 0, .int .i64 0, .bool false] 87 := ((((by repeat (first | with_reducible exact CellsAt.newAt (by first | rfl | (simp; done) | omega) rfl | with_reducible refine CellsAt.alloc ?_ _ | with_reducible refine CellsAt.drewN ?_ _ | with_reducible refine CellsAt.drew ?_ | with_reducible refine CellsAt.grow ?_ _ | with_reducible refine CellsAt.far ?_ (by first | omega | (simp; done) | (simp; omega)) _)) : CellsAt g1.world (w.heap.size + 1 + 1) #[.slice A0 n0 c0, .int .i64 0, .int .u32 0, .int .i32 0, .int .i32 0, .int .i32 0, .int .i32 0, .int .i32 0, .int .i32 0, .int .i32 0, .int .i32 0, .int .i32 0, .slice none 0 0, .int .i64 0, .bool false] 87).set 1 _).set 0 _).eq (by simp)
    have k4 : CellsAt (((g1.world).setCell ⟨w.heap.size + 1 + 1, 1, none⟩ (.int .i64 0)).setCell ⟨w.heap.size + 1 + 1, 0, none⟩ (.slice A1 n1 c1)) (w.heap.size + 1) #[.slice none 0 0, .int .i64 0, .int .u32 0, .int .i32 0, .int .i32 0, .int .i32 0, .int .i32 0, .int .i32 0, .int .i32 0, .int .i32 0, .int .i32 0, .int .i32 0, .slice none 0 0, .int .i64 0, .bool false] 87 := (by repeat (first | with_reducible exact CellsAt.newAt (by first | rfl | (simp; done) | omega) rfl | with_reducible refine CellsAt.alloc ?_ _ | with_reducible refine CellsAt.drewN ?_ _ | with_reducible refine CellsAt.drew ?_ | with_reducible refine CellsAt.grow ?_ _ | with_reducible refine CellsAt.far ?_ (by first | omega | (simp; done) | (simp; omega)) _))
    generalize ((g1.world).setCell ⟨w.heap.size + 1 + 1, 1, none⟩ (.int .i64 0)).setCell ⟨w.heap.size + 1 + 1, 0, none⟩ (.slice A1 n1 c1) = W3 at *
    have l4 := k4.lt
    have l5 := k5.lt
    have f4 : ∀ o, W3.frozen? ⟨w.heap.size + 1, o, none⟩ = false := fun o => k4.froz o
    have kk1 : W3.cell? ⟨(w.heap.size + 1 + 1), 0, none⟩ = some (.slice A1 n1 c1) := k5.at 0 rfl
    have kk2 : W3.cell? ⟨(w.heap.size + 1 + 1), 1, none⟩ = some (.int .i64 0) := k5.at 1 rfl
    have kk3 : W3.cell? ⟨(w.heap.size + 1 + 1), 2, none⟩ = some (.int .u32 0) := k5.at 2 rfl
    have kk4 : W3.cell? ⟨(w.heap.size + 1 + 1), 3, none⟩ = some (.int .i32 0) := k5.at 3 rfl
    have kk5 : W3.cell? ⟨(w.heap.size + 1 + 1), 4, none⟩ = some (.int .i32 0) := k5.at 4 rfl
    have kk6 : W3.cell? ⟨(w.heap.size + 1 + 1), 5, none⟩ = some (.int .i32 0) := k5.at 5 rfl
    have kk7 : W3.cell? ⟨(w.heap.size + 1 + 1), 6, none⟩ = some (.int .i32 0) := k5.at 6 rfl
    have kk8 : W3.cell? ⟨(w.heap.size + 1 + 1), 7, none⟩ = some (.int .i32 0) := k5.at 7 rfl
    have kk9 : W3.cell? ⟨(w.heap.size + 1 + 1), 8, none⟩ = some (.int .i32 0) := k5.at 8 rfl
    have kk10 : W3.cell? ⟨(w.heap.size + 1 + 1), 9, none⟩ = some (.int .i32 0) := k5.at 9 rfl
    have kk11 : W3.cell? ⟨(w.heap.size + 1 + 1), 10, none⟩ = some (.int .i32 0) := k5.at 10 rfl
    have kk12 : W3.cell? ⟨(w.heap.size + 1 + 1), 11, none⟩ = some (.int .i32 0) := k5.at 11 rfl
    have kk13 : W3.cell? ⟨(w.heap.size + 1 + 1), 12, none⟩ = some (.slice none 0 0) := k5.at 12 rfl
    have kk14 : W3.cell? ⟨(w.heap.size + 1 + 1), 13, none⟩ = some (.int .i64 0) := k5.at 13 rfl
    have kk15 : W3.cell? ⟨(w.heap.size + 1 + 1), 14, none⟩ = some (.bool false) := k5.at 14 rfl
    have kk16 : W3.cell? ⟨(w.heap.size + 1), 0, none⟩ = some (.slice none 0 0) := k4.at 0 rfl
    have kk17 : W3.cell? ⟨(w.heap.size + 1), 1, none⟩ = some (.int .i64 0) := k4.at 1 rfl
    have kk18 : W3.cell? ⟨(w.heap.size + 1), 2, none⟩ = some (.int .u32 0) := k4.at 2 rfl
    have kk19 : W3.cell? ⟨(w.heap.size + 1), 3, none⟩ = some (.int .i32 0) := k4.at 3 rfl
    have kk20 : W3.cell? ⟨(w.heap.size + 1), 4, none⟩ = some (.int .i32 0) := k4.at 4 rfl
    have kk21 : W3.cell? ⟨(w.heap.size + 1), 5, none⟩ = some (.int .i32 0) := k4.at 5 rfl
    have kk22 : W3.cell? ⟨(w.heap.size + 1), 6, none⟩ = some (.int .i32 0) := k4.at 6 rfl
    have kk23 : W3.cell? ⟨(w.heap.size + 1), 7, none⟩ = some (.int .i32 0) := k4.at 7 rfl
    have kk24 : W3.cell? ⟨(w.heap.size + 1), 8, none⟩ = some (.int .i32 0) := k4.at 8 rfl
    have kk25 : W3.cell? ⟨(w.heap.size + 1), 9, none⟩ = some (.int .i32 0) := k4.at 9 rfl
    have kk26 : W3.cell? ⟨(w.heap.size + 1), 10, none⟩ = some (.int .i32 0) := k4.at 10 rfl
    have kk27 : W3.cell? ⟨(w.heap.size + 1), 11, none⟩ = some (.int .i32 0) := k4.at 11 rfl
    have kk28 : W3.cell? ⟨(w.heap.size + 1), 12, none⟩ = some (.slice none 0 0) := k4.at 12 rfl
    have kk29 : W3.cell? ⟨(w.heap.size + 1), 13, none⟩ = some (.int .i64 0) := k4.at 13 rfl
    have kk30 : W3.cell? ⟨(w.heap.size + 1), 14, none⟩ = some (.bool false) := k4.at 14 rfl
    have HK4 := Lib.hid k4
    have HW := Lib.hid hW
    clear k4 k5 hW
    go_wp2
    refine bodyPost_ret (v := .agg #[.slice A1 n1 c1, .int .i64 0, .int .u32 0, .int .i32 0, .int .i32 0, .int .i32 0, .int .i32 0, .int .i32 0, .int .i32 0, .int .i32 0, .int .i32 0, .int .i32 0, .slice none 0 0, .int .i64 0, .bool false]) (ret_cells (w.heap.size + 1) #[.slice A1 n1 c1, .int .i64 0, .int .u32 0, .int .i32 0, .int .i32 0, .int .i32 0, .int .i32 0, .int .i32 0, .int .i32 0, .int .i32 0, .int .i32 0, .int .i32 0, .slice none 0 0, .int .i64 0, .bool false] 87 ?_ ?_) rfl ⟨_, _, _, _, _, _, _, _, rfl, ?_⟩
    · exact (((((((((((((((HK4.out.set 0 _).set 1 _).set 2 _).set 3 _).set 4 _).set 5 _).set 6 _).set 7 _).set 8 _).set 9 _).set 10 _).set 11 _).set 12 _).set 13 _).set 14 _).eq (by simp)
    · intro W K
      have kk31 : W.cell? ⟨(w.heap.size + 1), 0, none⟩ = some (.slice A1 n1 c1) := K.at 0 rfl
      have kk32 : W.cell? ⟨(w.heap.size + 1), 1, none⟩ = some (.int .i64 0) := K.at 1 rfl
      have kk33 : W.cell? ⟨(w.heap.size + 1), 2, none⟩ = some (.int .u32 0) := K.at 2 rfl
      have kk34 : W.cell? ⟨(w.heap.size + 1), 3, none⟩ = some (.int .i32 0) := K.at 3 rfl
      have kk35 : W.cell? ⟨(w.heap.size + 1), 4, none⟩ = some (.int .i32 0) := K.at 4 rfl
      have kk36 : W.cell? ⟨(w.heap.size + 1), 5, none⟩ = some (.int .i32 0) := K.at 5 rfl
      have kk37 : W.cell? ⟨(w.heap.size + 1), 6, none⟩ = some (.int .i32 0) := K.at 6 rfl
      have kk38 : W.cell? ⟨(w.heap.size + 1), 7, none⟩ = some (.int .i32 0) := K.at 7 rfl
      have kk39 : W.cell? ⟨(w.heap.size + 1), 8, none⟩ = some (.int .i32 0) := K.at 8 rfl
      have kk40 : W.cell? ⟨(w.heap.size + 1), 9, none⟩ = some (.int .i32 0) := K.at 9 rfl
      have kk41 : W.cell? ⟨(w.heap.size + 1), 10, none⟩ = some (.int .i32 0) := K.at 10 rfl
      have kk42 : W.cell? ⟨(w.heap.size + 1), 11, none⟩ = some (.int .i32 0) := K.at 11 rfl
      have kk43 : W.cell? ⟨(w.heap.size + 1), 12, none⟩ = some (.slice none 0 0) := K.at 12 rfl
      have kk44 : W.cell? ⟨(w.heap.size + 1), 13, none⟩ = some (.int .i64 0) := K.at 13 rfl
      have kk45 : W.cell? ⟨(w.heap.size + 1), 14, none⟩ = some (.bool false) := K.at 14 rfl
      simp [results, Tryz.results30, go_sem, *]
    · have hB := HW.out
      repeat (first | with_reducible exact hB | with_reducible refine bel_set ?_ (by first | omega | (simp; done) | (simp; omega)) _)
  · have hzb : (er == 0) = false := by simpa using hz
    go_enter Tryz.func30, Tryz.ntmps30
    go_upto_region 23 with (go_at_call 69; refine (HDE.out _ (by repeat (first | with_reducible exact Below.refl _ _ | with_reducible refine bel_alloc ?_ _ | with_reducible refine bel_drewN ?_ _ | with_reducible refine bel_drew ?_ | with_reducible refine bel_grow ?_ _ | with_reducible refine bel_set ?_ (by first | omega | (simp; done) | (simp; omega)) _))).mono ?_; rintro e w1 ⟨v1, rfl, h1, hb1⟩; obtain ⟨A1, n1, c1, rfl⟩ := formB h1; obtain ⟨g1, rfl⟩ := Grow.of hb1; clear hb1 h1)
    have hW : Below w.heap.size w ((g1.world).setCell ⟨w.heap.size + 1 + 1, 1, none⟩ (.int .i64 er)) := (by repeat (first | with_reducible exact Below.refl _ _ | with_reducible refine bel_alloc ?_ _ | with_reducible refine bel_drewN ?_ _ | with_reducible refine bel_drew ?_ | with_reducible refine bel_grow ?_ _ | with_reducible refine bel_set ?_ (by first | omega | (simp; done) | (simp; omega)) _))
    have k5 : CellsAt ((g1.world).setCell ⟨w.heap.size + 1 + 1, 1, none⟩ (.int .i64 er)) (w.heap.size + 1 + 1) #[.slice A0 n0 c0, .int .i64 er, .int .u32 0, .int .i32 0, .int .i32 0, .int .i32 0, .int .i32 0, .int .i32 0, .int .i32 0, .int .i32 0, .int .i32 0, .int .i32 0, .slice none 0 0, .int .i64 0, .bool false] 87 := (((by repeat (first | with_reducible exact CellsAt.newAt (by first | rfl | (simp; done) | omega) rfl | with_reducible refine CellsAt.alloc ?_ _ | with_reducible refine CellsAt.drewN ?_ _ | with_reducible refine CellsAt.drew ?_ | with_reducible refine CellsAt.grow ?_ _ | with_reducible refine CellsAt.far ?_ (by first | omega | (simp; done) | (simp; omega)) _)) : CellsAt g1.world (w.heap.size + 1 + 1) #[.slice A0 n0 c0, .int .i64 0, .int .u32 0, .int .i32 0, .int .i32 0, .int .i32 0, .int .i32 0, .int .i32 0, .int .i32 0, .int .i32 0, .int .i32 0, .int .i32 0, .slice none 0 0, .int .i64 0, .bool false] 87).set 1 _).eq (by simp)
    have k4 : CellsAt ((g1.world).setCell ⟨w.heap.size + 1 + 1, 1, none⟩ (.int .i64 er)) (w.heap.size + 1) #[.slice none 0 0, .int .i64 0, .int .u32 0, .int .i32 0, .int .i32 0, .int .i32 0, .int .i32 0, .int .i32 0, .int .i32 0, .int .i32 0, .int .i32 0, .int .i32 0, .slice none 0 0, .int .i64 0, .bool false] 87 := (by repeat (first | with_reducible exact CellsAt.newAt (by first | rfl | (simp; done) | omega) rfl | with_reducible refine CellsAt.alloc ?_ _ | with_reducible refine CellsAt.drewN ?_ _ | with_reducible refine CellsAt.drew ?_ | with_reducible refine CellsAt.grow ?_ _ | with_reducible refine CellsAt.far ?_ (by first | omega | (simp; done) | (simp; omega)) _))
    generalize (g1.world).setCell ⟨w.heap.size + 1 + 1, 1, none⟩ (.int .i64 er) = W3 at *
    have l4 := k4.lt
    have l5 := k5.lt
    have f4 : ∀ o, W3.frozen? ⟨w.heap.size + 1, o, none⟩ = false := fun o => k4.froz o
    have kk46 : W3.cell? ⟨(w.heap.size + 1 + 1), 0, none⟩ = some (.slice A0 n0 c0) := k5.at 0 rfl
    have kk47 : W3.cell? ⟨(w.heap.size + 1 + 1), 1, none⟩ = some (.int .i64 er) := k5.at 1 rfl
    have kk48 : W3.cell? ⟨(w.heap.size + 1 + 1), 2, none⟩ = some (.int .u32 0) := k5.at 2 rfl
    have kk49 : W3.cell? ⟨(w.heap.size + 1 + 1), 3, none⟩ = some (.int .i32 0) := k5.at 3 rfl
    have kk50 : W3.cell? ⟨(w.heap.size + 1 + 1), 4, none⟩ = some (.int .i32 0) := k5.at 4 rfl
    have kk51 : W3.cell? ⟨(w.heap.size + 1 + 1), 5, none⟩ = some (.int .i32 0) := k5.at 5 rfl
    have kk52 : W3.cell? ⟨(w.heap.size + 1 + 1), 6, none⟩ = some (.int .i32 0) := k5.at 6 rfl
    have kk53 : W3.cell? ⟨(w.heap.size + 1 + 1), 7, none⟩ = some (.int .i32 0) := k5.at 7 rfl
    have kk54 : W3.cell? ⟨(w.heap.size + 1 + 1), 8, none⟩ = some (.int .i32 0) := k5.at 8 rfl
    have kk55 : W3.cell? ⟨(w.heap.size + 1 + 1), 9, none⟩ = some (.int .i32 0) := k5.at 9 rfl
    have kk56 : W3.cell? ⟨(w.heap.size + 1 + 1), 10, none⟩ = some (.int .i32 0) := k5.at 10 rfl
    have kk57 : W3.cell? ⟨(w.heap.size + 1 + 1), 11, none⟩ = some (.int .i32 0) := k5.at 11 rfl
    have kk58 : W3.cell? ⟨(w.heap.size + 1 + 1), 12, none⟩ = some (.slice none 0 0) := k5.at 12 rfl
    have kk59 : W3.cell? ⟨(w.heap.size + 1 + 1), 13, none⟩ = some (.int .i64 0) := k5.at 13 rfl
    have kk60 : W3.cell? ⟨(w.heap.size + 1 + 1), 14, none⟩ = some (.bool false) := k5.at 14 rfl
    have kk61 : W3.cell? ⟨(w.heap.size + 1), 0, none⟩ = some (.slice none 0 0) := k4.at 0 rfl
    have kk62 : W3.cell? ⟨(w.heap.size + 1), 1, none⟩ = some (.int .i64 0) := k4.at 1 rfl
    have kk63 : W3.cell? ⟨(w.heap.size + 1), 2, none⟩ = some (.int .u32 0) := k4.at 2 rfl
    have kk64 : W3.cell? ⟨(w.heap.size + 1), 3, none⟩ = some (.int .i32 0) := k4.at 3 rfl
    have kk65 : W3.cell? ⟨(w.heap.size + 1), 4, none⟩ = some (.int .i32 0) := k4.at 4 rfl
    have kk66 : W3.cell? ⟨(w.heap.size + 1), 5, none⟩ = some (.int .i32 0) := k4.at 5 rfl
    have kk67 : W3.cell? ⟨(w.heap.size + 1), 6, none⟩ = some (.int .i32 0) := k4.at 6 rfl
    have kk68 : W3.cell? ⟨(w.heap.size + 1), 7, none⟩ = some (.int .i32 0) := k4.at 7 rfl
    have kk69 : W3.cell? ⟨(w.heap.size + 1), 8, none⟩ = some (.int .i32 0) := k4.at 8 rfl
    have kk70 : W3.cell? ⟨(w.heap.size + 1), 9, none⟩ = some (.int .i32 0) := k4.at 9 rfl
    have kk71 : W3.cell? ⟨(w.heap.size + 1), 10, none⟩ = some (.int .i32 0) := k4.at 10 rfl
    have kk72 : W3.cell? ⟨(w.heap.size + 1), 11, none⟩ = some (.int .i32 0) := k4.at 11 rfl
    have kk73 : W3.cell? ⟨(w.heap.size + 1), 12, none⟩ = some (.slice none 0 0) := k4.at 12 rfl
    have kk74 : W3.cell? ⟨(w.heap.size + 1), 13, none⟩ = some (.int .i64 0) := k4.at 13 rfl
    have kk75 : W3.cell? ⟨(w.heap.size + 1), 14, none⟩ = some (.bool false) := k4.at 14 rfl
    have HK4 := Lib.hid k4
    have HW := Lib.hid hW
    clear k4 k5 hW
    go_wp2
    refine bodyPost_ret (v := .agg #[.slice A0 n0 c0, .int .i64 er, .int .u32 0, .int .i32 0, .int .i32 0, .int .i32 0, .int .i32 0, .int .i32 0, .int .i32 0, .int .i32 0, .int .i32 0, .int .i32 0, .slice none 0 0, .int .i64 0, .bool false]) (ret_cells (w.heap.size + 1) #[.slice A0 n0 c0, .int .i64 er, .int .u32 0, .int .i32 0, .int .i32 0, .int .i32 0, .int .i32 0, .int .i32 0, .int .i32 0, .int .i32 0, .int .i32 0, .int .i32 0, .slice none 0 0, .int .i64 0, .bool false] 87 ?_ ?_) rfl ⟨_, _, _, _, _, _, _, _, rfl, ?_⟩
    · exact (((((((((((((((HK4.out.set 0 _).set 1 _).set 2 _).set 3 _).set 4 _).set 5 _).set 6 _).set 7 _).set 8 _).set 9 _).set 10 _).set 11 _).set 12 _).set 13 _).set 14 _).eq (by simp)
    · intro W K
      have kk76 : W.cell? ⟨(w.heap.size + 1), 0, none⟩ = some (.slice A0 n0 c0) := K.at 0 rfl
      have kk77 : W.cell? ⟨(w.heap.size + 1), 1, none⟩ = some (.int .i64 er) := K.at 1 rfl
      have kk78 : W.cell? ⟨(w.heap.size + 1), 2, none⟩ = some (.int .u32 0) := K.at 2 rfl
      have kk79 : W.cell? ⟨(w.heap.size + 1), 3, none⟩ = some (.int .i32 0) := K.at 3 rfl
      have kk80 : W.cell? ⟨(w.heap.size + 1), 4, none⟩ = some (.int .i32 0) := K.at 4 rfl
      have kk81 : W.cell? ⟨(w.heap.size + 1), 5, none⟩ = some (.int .i32 0) := K.at 5 rfl
      have kk82 : W.cell? ⟨(w.heap.size + 1), 6, none⟩ = some (.int .i32 0) := K.at 6 rfl
      have kk83 : W.cell? ⟨(w.heap.size + 1), 7, none⟩ = some (.int .i32 0) := K.at 7 rfl
      have kk84 : W.cell? ⟨(w.heap.size + 1), 8, none⟩ = some (.int .i32 0) := K.at 8 rfl
      have kk85 : W.cell? ⟨(w.heap.size + 1), 9, none⟩ = some (.int .i32 0) := K.at 9 rfl
      have kk86 : W.cell? ⟨(w.heap.size + 1), 10, none⟩ = some (.int .i32 0) := K.at 10 rfl
      have kk87 : W.cell? ⟨(w.heap.size + 1), 11, none⟩ = some (.int .i32 0) := K.at 11 rfl
      have kk88 : W.cell? ⟨(w.heap.size + 1), 12, none⟩ = some (.slice none 0 0) := K.at 12 rfl
      have kk89 : W.cell? ⟨(w.heap.size + 1), 13, none⟩ = some (.int .i64 0) := K.at 13 rfl
      have kk90 : W.cell? ⟨(w.heap.size + 1), 14, none⟩ = some (.bool false) := K.at 14 rfl
      simp [results, Tryz.results30, go_sem, *]
    · have hB := HW.out
      repeat (first | with_reducible exact hB | with_reducible refine bel_set ?_ (by first | omega | (simp; done) | (simp; omega)) _)
end Go.Proofs.YtnhaiecbjipodaaGreatDoor
/- The references' Do of layer 23: what errors it has; nothing panics. -/
namespace Go.Proofs.YtnhaiecbjipodaaGreatDoor
open Go.RowKit
attribute [local go_sem] Grow.cell Grow.froz Grow.lt lt_s1 lt_s2 lt_s3 lt_s4 lt_s5
set_option maxRecDepth 100000 in
set_option maxHeartbeats 4000000 in
theorem do23_no (v : Value) (k : Int) (b : Body) (q x y : Int) (A : Option Addr) (n c : Nat) (w : World) (hk : k < 1 ∨ 6 < k) :
    Calls Tryz.prog 13 #[v, .agg (OpA k b q x y A n c)] w fun e w' => e = .returned (.tuple #[v, .agg #[.int .i64 1, .slice none 0 0, .int .i64 0, .bool false]]) ∧ Below w.heap.size w w' := by
  have h1 : (decide (k < 1) || decide (6 < k)) = true := by simpa using hk
  clear h1
  by_cases hk1 : k < 1
  · go_enter Tryz.func13, Tryz.ntmps13
    go_wp2
    refine bodyPost_ret (v := .tuple #[v, .agg #[.int .i64 1, .slice none 0 0, .int .i64 0, .bool false]]) (ret_cells (w.heap.size + 1) #[.int .i64 1, .slice none 0 0, .int .i64 0, .bool false] 46 ?_ ?_) rfl ⟨rfl, ?_⟩
    · exact (by repeat (first | with_reducible exact CellsAt.newAt (by first | rfl | (simp; done) | omega) rfl | with_reducible refine CellsAt.alloc ?_ _ | with_reducible refine CellsAt.drewN ?_ _ | with_reducible refine CellsAt.drew ?_ | with_reducible refine CellsAt.grow ?_ _ | with_reducible refine CellsAt.far ?_ (by first | omega | (simp; done) | (simp; omega)) _))
    · intro W K
      have kk1 : W.cell? ⟨(w.heap.size + 1), 0, none⟩ = some (.int .i64 1) := K.at 0 rfl
      have kk2 : W.cell? ⟨(w.heap.size + 1), 1, none⟩ = some (.slice none 0 0) := K.at 1 rfl
      have kk3 : W.cell? ⟨(w.heap.size + 1), 2, none⟩ = some (.int .i64 0) := K.at 2 rfl
      have kk4 : W.cell? ⟨(w.heap.size + 1), 3, none⟩ = some (.bool false) := K.at 3 rfl
      simp [results, Tryz.results13, go_sem, *]
    · exact (by repeat (first | with_reducible exact Below.refl _ _ | with_reducible refine bel_alloc ?_ _ | with_reducible refine bel_drewN ?_ _ | with_reducible refine bel_drew ?_ | with_reducible refine bel_grow ?_ _ | with_reducible refine bel_set ?_ (by first | omega | (simp; done) | (simp; omega)) _))
  · have hk6 : 6 < k := by omega
    go_enter Tryz.func13, Tryz.ntmps13
    go_wp2
    refine bodyPost_ret (v := .tuple #[v, .agg #[.int .i64 1, .slice none 0 0, .int .i64 0, .bool false]]) (ret_cells (w.heap.size + 1) #[.int .i64 1, .slice none 0 0, .int .i64 0, .bool false] 46 ?_ ?_) rfl ⟨rfl, ?_⟩
    · exact (by repeat (first | with_reducible exact CellsAt.newAt (by first | rfl | (simp; done) | omega) rfl | with_reducible refine CellsAt.alloc ?_ _ | with_reducible refine CellsAt.drewN ?_ _ | with_reducible refine CellsAt.drew ?_ | with_reducible refine CellsAt.grow ?_ _ | with_reducible refine CellsAt.far ?_ (by first | omega | (simp; done) | (simp; omega)) _))
    · intro W K
      have kk5 : W.cell? ⟨(w.heap.size + 1), 0, none⟩ = some (.int .i64 1) := K.at 0 rfl
      have kk6 : W.cell? ⟨(w.heap.size + 1), 1, none⟩ = some (.slice none 0 0) := K.at 1 rfl
      have kk7 : W.cell? ⟨(w.heap.size + 1), 2, none⟩ = some (.int .i64 0) := K.at 2 rfl
      have kk8 : W.cell? ⟨(w.heap.size + 1), 3, none⟩ = some (.bool false) := K.at 3 rfl
      simp [results, Tryz.results13, go_sem, *]
    · exact (by repeat (first | with_reducible exact Below.refl _ _ | with_reducible refine bel_alloc ?_ _ | with_reducible refine bel_drewN ?_ _ | with_reducible refine bel_drew ?_ | with_reducible refine bel_grow ?_ _ | with_reducible refine bel_set ?_ (by first | omega | (simp; done) | (simp; omega)) _))
set_option maxRecDepth 100000 in
set_option maxHeartbeats 4000000 in
theorem do23_yes (V0 : Option Addr) (n0 c0 : Nat) (k j : Int) (b : Body) (q x y : Int) (A : Option Addr) (n c : Nat) (er : Int) (w : World) (k1 : 1 ≤ k) (k6 : k ≤ 6) (hj : k - 1 = j)
    (HD : ∀ W, Below w.heap.size w W → Calls Tryz.prog 30 #[.slice V0 n0 c0, .agg (OpA j b q x y A n c)] W fun e w' => ∃ V1 n1 c1 B1 m1 d1 cnt f, e = .returned (.agg #[.slice V1 n1 c1, .int .i64 er, .int .u32 0, .int .i32 0, .int .i32 0, .int .i32 0, .int .i32 0, .int .i32 0, .int .i32 0, .int .i32 0, .int .i32 0, .int .i32 0, .slice B1 m1 d1, .int .i64 cnt, .bool f]) ∧ Below W.heap.size W w') :
    Calls Tryz.prog 13 #[.slice V0 n0 c0, .agg (OpA k b q x y A n c)] w fun e w' => ∃ V B m d cnt f, e = .returned (.tuple #[V, .agg #[.int .i64 er, .slice B m d, .int .i64 cnt, .bool f]]) ∧ Below w.heap.size w w' := by
  have hk1 : ¬ k < 1 := by omega
  have hk6 : ¬ 6 < k := by omega
  subst hj
  replace HD := Lib.hid HD
  go_enter Tryz.func13, Tryz.ntmps13
  go_upto_region 4 with (go_at_call 30; refine (HD.out _ (by repeat (first | with_reducible exact Below.refl _ _ | with_reducible refine bel_alloc ?_ _ | with_reducible refine bel_drewN ?_ _ | with_reducible refine bel_drew ?_ | with_reducible refine bel_grow ?_ _ | with_reducible refine bel_set ?_ (by first | omega | (simp; done) | (simp; omega)) _))).mono ?_; rintro e w1 ⟨V1, n1, c1, B1, m1, d1, cnt, f, rfl, hb1⟩; obtain ⟨g1, rfl⟩ := Grow.of hb1; clear hb1)
  have lg : w.heap.size + 1 < g1.world.heap.size := Nat.lt_of_lt_of_le (by simp) g1.le
  have hW : Below w.heap.size w (g1.world.alloc (.cells #[.slice V1 n1 c1, .int .i64 er, .int .u32 0, .int .i32 0, .int .i32 0, .int .i32 0, .int .i32 0, .int .i32 0, .int .i32 0, .int .i32 0, .int .i32 0, .int .i32 0, .slice B1 m1 d1, .int .i64 cnt, .bool f] 87)) := (by repeat (first | with_reducible exact Below.refl _ _ | with_reducible refine bel_alloc ?_ _ | with_reducible refine bel_drewN ?_ _ | with_reducible refine bel_drew ?_ | with_reducible refine bel_grow ?_ _ | with_reducible refine bel_set ?_ (by first | omega | (simp; done) | (simp; omega)) _))
  have k5 : CellsAt (g1.world.alloc (.cells #[.slice V1 n1 c1, .int .i64 er, .int .u32 0, .int .i32 0, .int .i32 0, .int .i32 0, .int .i32 0, .int .i32 0, .int .i32 0, .int .i32 0, .int .i32 0, .int .i32 0, .slice B1 m1 d1, .int .i64 cnt, .bool f] 87)) g1.world.heap.size #[.slice V1 n1 c1, .int .i64 er, .int .u32 0, .int .i32 0, .int .i32 0, .int .i32 0, .int .i32 0, .int .i32 0, .int .i32 0, .int .i32 0, .int .i32 0, .int .i32 0, .slice B1 m1 d1, .int .i64 cnt, .bool f] 87 := (by repeat (first | with_reducible exact CellsAt.newAt (by first | rfl | (simp; done) | omega) rfl | with_reducible refine CellsAt.alloc ?_ _ | with_reducible refine CellsAt.drewN ?_ _ | with_reducible refine CellsAt.drew ?_ | with_reducible refine CellsAt.grow ?_ _ | with_reducible refine CellsAt.far ?_ (by first | omega | (simp; done) | (simp; omega)) _))
  have k4 : CellsAt (g1.world.alloc (.cells #[.slice V1 n1 c1, .int .i64 er, .int .u32 0, .int .i32 0, .int .i32 0, .int .i32 0, .int .i32 0, .int .i32 0, .int .i32 0, .int .i32 0, .int .i32 0, .int .i32 0, .slice B1 m1 d1, .int .i64 cnt, .bool f] 87)) (w.heap.size + 1) #[.int .i64 0, .slice none 0 0, .int .i64 0, .bool false] 46 := (by repeat (first | with_reducible exact CellsAt.newAt (by first | rfl | (simp; done) | omega) rfl | with_reducible refine CellsAt.alloc ?_ _ | with_reducible refine CellsAt.drewN ?_ _ | with_reducible refine CellsAt.drew ?_ | with_reducible refine CellsAt.grow ?_ _ | with_reducible refine CellsAt.far ?_ (by first | omega | (simp; done) | (simp; omega)) _))
  generalize g1.world.alloc (.cells #[.slice V1 n1 c1, .int .i64 er, .int .u32 0, .int .i32 0, .int .i32 0, .int .i32 0, .int .i32 0, .int .i32 0, .int .i32 0, .int .i32 0, .int .i32 0, .int .i32 0, .slice B1 m1 d1, .int .i64 cnt, .bool f] 87) = W3 at *
  generalize g1.world.heap.size = S5 at *
  have l4 := k4.lt
  have l5 := k5.lt
  have f4 : ∀ o, W3.frozen? ⟨w.heap.size + 1, o, none⟩ = false := fun o => k4.froz o
  have kk9 : W3.cell? ⟨S5, 0, none⟩ = some (.slice V1 n1 c1) := k5.at 0 rfl
  have kk10 : W3.cell? ⟨S5, 1, none⟩ = some (.int .i64 er) := k5.at 1 rfl
  have kk11 : W3.cell? ⟨S5, 2, none⟩ = some (.int .u32 0) := k5.at 2 rfl
  have kk12 : W3.cell? ⟨S5, 3, none⟩ = some (.int .i32 0) := k5.at 3 rfl
  have kk13 : W3.cell? ⟨S5, 4, none⟩ = some (.int .i32 0) := k5.at 4 rfl
  have kk14 : W3.cell? ⟨S5, 5, none⟩ = some (.int .i32 0) := k5.at 5 rfl
  have kk15 : W3.cell? ⟨S5, 6, none⟩ = some (.int .i32 0) := k5.at 6 rfl
  have kk16 : W3.cell? ⟨S5, 7, none⟩ = some (.int .i32 0) := k5.at 7 rfl
  have kk17 : W3.cell? ⟨S5, 8, none⟩ = some (.int .i32 0) := k5.at 8 rfl
  have kk18 : W3.cell? ⟨S5, 9, none⟩ = some (.int .i32 0) := k5.at 9 rfl
  have kk19 : W3.cell? ⟨S5, 10, none⟩ = some (.int .i32 0) := k5.at 10 rfl
  have kk20 : W3.cell? ⟨S5, 11, none⟩ = some (.int .i32 0) := k5.at 11 rfl
  have kk21 : W3.cell? ⟨S5, 12, none⟩ = some (.slice B1 m1 d1) := k5.at 12 rfl
  have kk22 : W3.cell? ⟨S5, 13, none⟩ = some (.int .i64 cnt) := k5.at 13 rfl
  have kk23 : W3.cell? ⟨S5, 14, none⟩ = some (.bool f) := k5.at 14 rfl
  have kk24 : W3.cell? ⟨(w.heap.size + 1), 0, none⟩ = some (.int .i64 0) := k4.at 0 rfl
  have kk25 : W3.cell? ⟨(w.heap.size + 1), 1, none⟩ = some (.slice none 0 0) := k4.at 1 rfl
  have kk26 : W3.cell? ⟨(w.heap.size + 1), 2, none⟩ = some (.int .i64 0) := k4.at 2 rfl
  have kk27 : W3.cell? ⟨(w.heap.size + 1), 3, none⟩ = some (.bool false) := k4.at 3 rfl
  have HK4 := Lib.hid k4
  have HW := Lib.hid hW
  clear k4 k5 hW
  go_region
  all_goals
    go_wp2
    refine bodyPost_ret (v := .tuple #[.slice V1 n1 c1, .agg #[.int .i64 er, .slice B1 m1 d1, .int .i64 cnt, .bool f]]) (ret_cells (w.heap.size + 1) #[.int .i64 er, .slice B1 m1 d1, .int .i64 cnt, .bool f] 46 ?_ ?_) rfl ⟨_, _, _, _, _, _, rfl, ?_⟩
    · exact CellsAt.drew (((((HK4.out.set 0 _).set 1 _).set 2 _).set 3 _).eq (by simp))
    · intro W K
      have kk28 : W.cell? ⟨(w.heap.size + 1), 0, none⟩ = some (.int .i64 er) := K.at 0 rfl
      have kk29 : W.cell? ⟨(w.heap.size + 1), 1, none⟩ = some (.slice B1 m1 d1) := K.at 1 rfl
      have kk30 : W.cell? ⟨(w.heap.size + 1), 2, none⟩ = some (.int .i64 cnt) := K.at 2 rfl
      have kk31 : W.cell? ⟨(w.heap.size + 1), 3, none⟩ = some (.bool f) := K.at 3 rfl
      simp [results, Tryz.results13, go_sem, *]
    · repeat (first | with_reducible exact HW.out | with_reducible refine bel_set ?_ (by first | omega | (simp; done) | (simp; omega)) _ | with_reducible refine bel_drew ?_)
/-- The error of the model's operation. -/
def errW (l : List Body) (k : Int) (b : Body) (q : Int) (bs : List Int) : Int :=
  if k = 1 then (addL l b).2 else if k = 2 then errK l q else if k = 3 then errK l q else if k = 4 then 0 else if k = 5 then 0 else if k = 6 then (decL bs).2 else 1
theorem do23_any (v : Value) (l : List Body) (k : Int) (b : Body) (q x y : Int) (A : Option Addr) (n c : Nat) (w : World) (hl : Reads bodyE w v l) (hG : Good l) (hF : ∀ b ∈ l, b.Fit) (hx : I32 x) (hy : I32 y) (bs : List Int) (hr : RB w (.slice A n c) bs) :
    Calls Tryz.prog 13 #[v, .agg (OpA k b q x y A n c)] w fun e w' => ∃ V B m d cnt f, e = .returned (.tuple #[V, .agg #[.int .i64 (errW l k b q bs), .slice B m d, .int .i64 cnt, .bool f]]) ∧ Below w.heap.size w w' := by
  have hn := hG.len
  by_cases hk : k < 1 ∨ 6 < k
  · have : errW l k b q bs = 1 := by unfold errW; rw [if_neg (by omega), if_neg (by omega), if_neg (by omega), if_neg (by omega), if_neg (by omega), if_neg (by omega)]
    rw [this]
    exact (do23_no v k b q x y A n c w hk).mono fun _ _ ⟨h1, h2⟩ => ⟨_, _, _, _, _, _, h1, h2⟩
  obtain ⟨A0, n0, c0, rfl⟩ := formB hl
  have hc : k = 1 ∨ k = 2 ∨ k = 3 ∨ k = 4 ∨ k = 5 ∨ k = 6 := by omega
  rcases hc with rfl | rfl | rfl | rfl | rfl | rfl
  · exact do23_yes A0 n0 c0 1 0 b q x y A n c _ w (by decide) (by decide) (by decide) fun W hb => d22_0 _ l b q x y A n c W (hl.below hb) (by omega)
  · exact do23_yes A0 n0 c0 2 1 b q x y A n c _ w (by decide) (by decide) (by decide) fun W hb => d22_1 _ l b q x y A n c W (hl.below hb) (by omega)
  · exact do23_yes A0 n0 c0 3 2 b q x y A n c _ w (by decide) (by decide) (by decide) fun W hb => d22_2 _ l b q x y A n c W (hl.below hb) (by omega) hG.ok hx hy
  · exact do23_yes A0 n0 c0 4 3 b q x y A n c _ w (by decide) (by decide) (by decide) fun W hb => d22_3 _ l b q x y A n c W (hl.below hb) hG hF
  · exact do23_yes A0 n0 c0 5 4 b q x y A n c _ w (by decide) (by decide) (by decide) fun W hb => d22_4 _ l b q x y A n c W (hl.below hb) hF (by omega)
  · exact do23_yes A0 n0 c0 6 5 b q x y A n c _ w (by decide) (by decide) (by decide) fun W hb => d22_5 _ l b q x y A n c W (hl.below hb) bs (hr.below hb)
end Go.Proofs.YtnhaiecbjipodaaGreatDoor
/- billiardtop.WholeFull: the walk. -/
namespace Go.Proofs.YtnhaiecbjipodaaGreatDoor
open Go.RowKit Go.Shelf Go.Proofs Go.MapKept
attribute [local go_sem] Grow.cell Grow.froz Grow.lt lt_s1 lt_s2 lt_s3 lt_s4 lt_s5
def fullL (key : Int) (k : Nat) : List Body := (List.range k).map fun i : Nat => ballB ((key + (i : Int)) % 4294967296) 0 0
theorem fullL_len (key : Int) (k : Nat) : (fullL key k).length = k := by simp [fullL]
theorem fullL_succ (key : Int) (k : Nat) : fullL key (k + 1) = fullL key k ++ [ballB ((key + (k : Int)) % 4294967296) 0 0] := by
  unfold fullL
  rw [List.range_succ, List.map_append]
  rfl
theorem ball_ok (x : Int) : errOf (ballB x 0 0) = 0 := rfl
theorem fullL_sane (key : Int) (k : Nat) : SaneL (fullL key k) := by
  intro b hb
  obtain ⟨i, _, rfl⟩ := List.mem_map.1 hb
  refine ⟨ball_ok _, ?_, ?_⟩
  · show 0 ≤ (key + (i : Int)) % 4294967296
    omega
  · show (key + (i : Int)) % 4294967296 ≤ 4294967295
    omega
theorem idx_is {l : List Body} {k : Int} : (idx l k).isSome = true ↔ ∃ b ∈ l, b.key = k := by
  unfold idx
  rw [List.findIdx?_isSome]
  simp
theorem full_idx (key x : Int) (k : Nat) (h0 : 0 ≤ x) (h1 : x ≤ 4294967295) (hk : k ≤ 4096) : (idx (fullL key k) x).isSome = decide ((x - key) % 4294967296 < k) := by
  rw [Bool.eq_iff_iff, idx_is, decide_eq_true_eq]
  constructor
  · rintro ⟨b, hb, rfl⟩
    obtain ⟨i, hi, rfl⟩ := List.mem_map.1 hb
    have hi := List.mem_range.1 hi
    show ((key + (i : Int)) % 4294967296 - key) % 4294967296 < k
    omega
  · intro h
    have hm : ((x - key) % 4294967296).toNat < k := by omega
    refine ⟨ballB ((key + (((x - key) % 4294967296).toNat : Int)) % 4294967296) 0 0, List.mem_map.2 ⟨((x - key) % 4294967296).toNat, List.mem_range.2 hm, rfl⟩, ?_⟩
    show (key + (((x - key) % 4294967296).toNat : Int)) % 4294967296 = x
    omega
theorem full_addE (key : Int) {k : Nat} (hk : k < 4096) : addE (fullL key k) (ballB ((key + (k : Int)) % 4294967296) 0 0) = 0 := by
  have h := full_idx key ((key + (k : Int)) % 4294967296) k (by omega) (by omega) (by omega)
  rw [decide_eq_false (by omega)] at h
  unfold addE
  rw [if_neg (by rw [ball_ok]; decide)]
  rw [show (ballB ((key + (k : Int)) % 4294967296) 0 0).key = (key + (k : Int)) % 4294967296 from rfl, h, if_neg (by decide), if_neg (by rw [fullL_len]; omega)]
theorem full_addR (key : Int) {k : Nat} (hk : k < 4096) : addR (fullL key k) (ballB ((key + (k : Int)) % 4294967296) 0 0) = fullL key (k + 1) := by
  unfold addR
  rw [if_pos (full_addE key hk), fullL_succ]
def wantF (key : Int) (b : Body) : Int := if errOf b = 0 then (if (b.key - key) % 4294967296 < 4096 then 10 else 12) else errOf b
theorem full_want (key : Int) (b : Body) (hb : b.Fit) : addE (fullL key 4096) b = wantF key b ∧ addR (fullL key 4096) b = fullL key 4096 := by
  have h := full_idx key b.key 4096 hb.key.1 hb.key.2 (by omega)
  have e : addE (fullL key 4096) b = wantF key b := by
    unfold addE wantF
    by_cases he : errOf b = 0
    · rw [if_neg (by simpa using he), if_pos he, h]
      by_cases hlt : (b.key - key) % 4294967296 < 4096
      · rw [if_pos (decide_eq_true (by exact hlt)), if_pos hlt]
      · rw [if_neg (by simpa using hlt), if_neg hlt, if_pos (by rw [fullL_len]; omega)]
    · rw [if_pos he, if_neg he]
  refine ⟨e, ?_⟩
  unfold addR
  rw [if_neg]
  rw [e]
  unfold wantF
  split
  · split <;> decide
  · assumption
theorem want_ways (key : Int) (b : Body) : ((errOf b == 0) = true ∧ decide ((b.key - key) % 4294967296 < 4096) = true ∧ wantF key b = 10) ∨ ((errOf b == 0) = true ∧ decide ((b.key - key) % 4294967296 < 4096) = false ∧ wantF key b = 12) ∨ ((errOf b == 0) = false ∧ wantF key b = errOf b) := by
  unfold wantF
  by_cases he : errOf b = 0
  · by_cases hlt : (b.key - key) % 4294967296 < 4096
    · left; simp [he, hlt]
    · right; left; rw [if_pos he, if_neg hlt]; exact ⟨by simp [he], decide_eq_false hlt, rfl⟩
  · right; right; rw [if_neg he]; exact ⟨by simp [he], rfl⟩
set_option maxRecDepth 100000 in
set_option maxHeartbeats 4000000 in
theorem wholeFull_any (key : Int) (b : Body) (hb : b.Fit) (w : World) (hg : Glob w) : Calls Tryz.prog 4 #[.int .u32 key, .agg b.arr] w fun e w' => e = .returned (.bool true) ∧ Below w.heap.size w w' := by
  have HGL := Lib.hid hg
  have HFW := Lib.hid (full_want key b hb)
  have HBF := Lib.hid hb
  have HAW := Lib.hid fun W hW => awake28_any W hW
  have HCK : ∀ W, Calls Tryz.prog 17 #[.agg #[.int .u32 b.key, .int .i32 b.radius, .int .i32 b.ax, .int .i32 b.ay, .int .i32 b.inv, .int .i32 b.bounce, .int .i32 b.px, .int .i32 b.py, .int .i32 b.vx, .int .i32 b.vy]] W fun e w' => e = .returned (.int .i64 (errOf b)) ∧ Below W.heap.size W w' := fun W => refCheck_fl b.key b.radius b.ax b.ay b.inv b.bounce b.px b.py b.vx b.vy W
  have HCK := Lib.hid HCK
  clear hg hb
  go_enter Tryz.func4, Tryz.ntmps4
  go_wp2_with fail
  refine (HAW.out _ (HGL.out.alloc _)).mono ?_
  rintro e w1 ⟨rfl, hb⟩
  obtain ⟨g1, rfl⟩ := Grow.of hb
  clear hb
  go_wp2_with fail
  refine (scriptWorld_any (.slice none 0 0) [] _ (HGL.out.below (by repeat (first | with_reducible exact Below.refl _ _ | with_reducible refine bel_alloc ?_ _ | with_reducible refine bel_drewN ?_ _ | with_reducible refine bel_drew ?_ | with_reducible refine bel_grow ?_ _ | with_reducible refine bel_set ?_ (by first | omega | (simp; done) | (simp; omega)) _))) (Reads.none _ _) (fun k hk => by simp [Value.ownBlock] at hk) (fun o ho => by cases ho) (by simp)).mono ?_
  rintro e w2 ⟨p, F, rfl, h2, hf2, hb2⟩
  have hb1 : Below w.heap.size w ((w.alloc (.cells b.arr 27))) := (by repeat (first | with_reducible exact Below.refl _ _ | with_reducible refine bel_alloc ?_ _ | with_reducible refine bel_drewN ?_ _ | with_reducible refine bel_drew ?_ | with_reducible refine bel_grow ?_ _ | with_reducible refine bel_set ?_ (by first | omega | (simp; done) | (simp; omega)) _))
  have hBL : Below (w.heap.size + 1) (w.alloc (.cells b.arr 27)) w2 := by
    have h1 : Below (w.heap.size + 1) (w.alloc (.cells b.arr 27)) g1.world := by have := g1.below; simpa using this
    exact h1.trans (hb2.mono (by simpa using h1.size))
  have hz2 := hBL.size
  simp at hz2
  have hF : ∀ k, F k → w.heap.size + 1 ≤ k := fun k hk => by have := hf2 k hk; have := g1.le; simp at this; omega
  have H2 := Lib.hid h2
  have HB := Lib.hid hBL
  have HF := Lib.hid hF
  have HKB : CellsAt (w.alloc (.cells b.arr 27)) w.heap.size b.arr 27 := CellsAt.newAt rfl rfl
  have HKB := Lib.hid HKB
  clear h2 hf2 hb2 hBL hF hb1
  go_wp2_with fail
  go_loopw [6] (fun i wr => ∃ (k : Nat) (F' : Nat → Prop), k ≤ 4096 ∧ i = .int .u32 k ∧ StoreAt wr p F' (fullL key k) ∧ (∀ j, F' j → w.heap.size + 1 ≤ j) ∧ Below (w.heap.size + 1) (w.alloc (.cells b.arr 27)) wr) (fun i _ => 4096 - (intOf i).toNat)
  case atStart => exact ⟨0, F, by omega, rfl, H2.out, HF.out, HB.out⟩
  case round =>
    obtain ⟨k, F', hk, rfl, hS, hF', hB'⟩ := hrel
    have HS := Lib.hid hS
    have HF' := Lib.hid hF'
    have HB' := Lib.hid hB'
    have hzw := hB'.size
    simp at hzw
    clear hS hF' hB'
    by_cases hlt : k < 4096
    · have hlt' : (k : Int) < 4096 := by omega
      have ew : IntKind.u32.wrap (key + (k : Int)) = (key + (k : Int)) % 4294967296 := IntKind.wrap_u32 _
      go_wp2_with fail
      refine (ball_fl _ _ _ _).mono ?_
      rintro e w1 ⟨rfl, hb⟩
      obtain ⟨g3, rfl⟩ := Grow.of hb
      clear hb
      have hadd := worldAdd_any p (ballB ((key + (k : Int)) % 4294967296) 0 0) g3.world F' (fullL key k) (HS.out.below g3.below)
      rw [full_addE key hlt, full_addR key hlt] at hadd
      have HADD := Lib.hid hadd
      clear hadd
      go_wp2_with fail
      refine HADD.out.mono ?_
      rintro e w4 ⟨rfl, F4, h4, ha4, hf4⟩
      have H4 := Lib.hid h4
      have HF4 : ∀ j, F4 j → w.heap.size + 1 ≤ j := fun j hj => by
        rcases hf4 j hj with h | h
        · exact HF'.out j h
        · have := g3.le; omega
      have HF4 := Lib.hid HF4
      have HB4 := Lib.hid ((HB'.out.trans (g3.below.mono hzw)).trans (ha4.below (by have := g3.le; omega) (fun j hj hf => by have := HF'.out j hf; omega)))
      clear h4 ha4 hf4
      go_wp2_with fail
      go_roundw
      case rel => exact ⟨k + 1, F4, by omega, by go_num, H4.out, HF4.out, HB4.out⟩
      case measure => simp [intOf]; omega
    · obtain rfl : k = 4096 := by omega
      have kb := HKB.out.below HB'.out (by omega)
      have lb := kb.lt
      have kk1 : wr.cell? ⟨w.heap.size, 0, none⟩ = some (.int .u32 b.key) := kb.at 0 rfl
      have kk2 : wr.cell? ⟨w.heap.size, 1, none⟩ = some (.int .i32 b.radius) := kb.at 1 rfl
      have kk3 : wr.cell? ⟨w.heap.size, 2, none⟩ = some (.int .i32 b.ax) := kb.at 2 rfl
      have kk4 : wr.cell? ⟨w.heap.size, 3, none⟩ = some (.int .i32 b.ay) := kb.at 3 rfl
      have kk5 : wr.cell? ⟨w.heap.size, 4, none⟩ = some (.int .i32 b.inv) := kb.at 4 rfl
      have kk6 : wr.cell? ⟨w.heap.size, 5, none⟩ = some (.int .i32 b.bounce) := kb.at 5 rfl
      have kk7 : wr.cell? ⟨w.heap.size, 6, none⟩ = some (.int .i32 b.px) := kb.at 6 rfl
      have kk8 : wr.cell? ⟨w.heap.size, 7, none⟩ = some (.int .i32 b.py) := kb.at 7 rfl
      have kk9 : wr.cell? ⟨w.heap.size, 8, none⟩ = some (.int .i32 b.vx) := kb.at 8 rfl
      have kk10 : wr.cell? ⟨w.heap.size, 9, none⟩ = some (.int .i32 b.vy) := kb.at 9 rfl
      have hadd := worldAdd_any p b wr F' (fullL key 4096) HS.out
      rw [HFW.out.1, HFW.out.2] at hadd
      have HADD := Lib.hid hadd
      have HKB2 := Lib.hid kb
      clear hadd kb HFW
      go_wp2_with fail
      refine HADD.out.mono ?_
      rintro e w4 ⟨rfl, F4, h4, ha4, hf4⟩
      have HF4 : ∀ j, F4 j → w.heap.size + 1 ≤ j := fun j hj => by
        rcases hf4 j hj with h | h
        · exact HF'.out j h
        · omega
      have kb := HKB2.out.alter ha4 (fun hf => by have := HF'.out _ hf; omega)
      have HB4 := Lib.hid (HB'.out.trans (ha4.below hzw (fun j hj hf => by have := HF'.out j hf; omega)))
      have H4 := Lib.hid h4
      have lb := kb.lt
      have kk11 : w4.cell? ⟨w.heap.size, 0, none⟩ = some (.int .u32 b.key) := kb.at 0 rfl
      have kk12 : w4.cell? ⟨w.heap.size, 1, none⟩ = some (.int .i32 b.radius) := kb.at 1 rfl
      have kk13 : w4.cell? ⟨w.heap.size, 2, none⟩ = some (.int .i32 b.ax) := kb.at 2 rfl
      have kk14 : w4.cell? ⟨w.heap.size, 3, none⟩ = some (.int .i32 b.ay) := kb.at 3 rfl
      have kk15 : w4.cell? ⟨w.heap.size, 4, none⟩ = some (.int .i32 b.inv) := kb.at 4 rfl
      have kk16 : w4.cell? ⟨w.heap.size, 5, none⟩ = some (.int .i32 b.bounce) := kb.at 5 rfl
      have kk17 : w4.cell? ⟨w.heap.size, 6, none⟩ = some (.int .i32 b.px) := kb.at 6 rfl
      have kk18 : w4.cell? ⟨w.heap.size, 7, none⟩ = some (.int .i32 b.py) := kb.at 7 rfl
      have kk19 : w4.cell? ⟨w.heap.size, 8, none⟩ = some (.int .i32 b.vx) := kb.at 8 rfl
      have kk20 : w4.cell? ⟨w.heap.size, 9, none⟩ = some (.int .i32 b.vy) := kb.at 9 rfl
      have HKB4 := Lib.hid kb
      have hBW : Below w.heap.size w w4 := (bel_alloc (Below.refl _ _) _).trans (HB4.out.mono (by omega))
      have HBW := Lib.hid hBW
      clear h4 ha4 hf4 kb hBW HF4
      go_wp2_with fail
      refine (HCK.out _).mono ?_
      rintro e w5 ⟨rfl, hb5⟩
      obtain ⟨g5, rfl⟩ := Grow.of hb5
      clear hb5
      have ew2 : IntKind.u32.wrap (b.key - key) = (b.key - key) % 4294967296 := IntKind.wrap_u32 _
      have HSN := Lib.hid fun W (hb : Below w4.heap.size w4 W) => worldSnap_any p W F4 (fullL key 4096) (H4.out.below hb) (fullL_sane key 4096)
      have HVW := Lib.hid fun W (hb : Below w4.heap.size w4 W) => worldView_s p W F4 (fullL key 4096) (H4.out.below hb)
      have HLN := Lib.hid (show (sortB (fullL key 4096)).length = 4096 by rw [(sortB_perm _).length_eq, fullL_len])
      have HWY := want_ways key b
      have zz21 : w.heap.size < g5.world.heap.size := Nat.lt_of_lt_of_le (by first | omega | (simp; done) | (simp; omega)) g5.le
      rcases HWY with ⟨t1, t2, hwv⟩ | ⟨t1, t2, hwv⟩ | ⟨t1, hwv⟩
      all_goals
        rw [hwv]
        have HT1 := Lib.hid hwv
        clear hwv
        go_wp2_with fail
        refine (HSN.out _ (by exact g5.below)).mono ?_
        rintro e w6 ⟨v6, rfl, h6, hb6⟩
        obtain ⟨A6, c6, hv6⟩ := h6.2.form
        rw [bytesL_len, HLN.out] at hv6
        subst hv6
        have HB6 := Lib.hid (g5.below.trans (hb6.mono g5.below.size))
        clear h6 hb6
        go_wp2_with fail
        refine (HVW.out _ HB6.out).mono ?_
        rintro e w7 ⟨v7, rfl, h7, hb7⟩
        obtain ⟨A7, c7, hv7⟩ := h7.form
        rw [HLN.out] at hv7
        subst hv7
        have HB7 := Lib.hid (HBW.out.trans ((HB6.out.trans (hb7.mono HB6.out.size)).mono HBW.out.size))
        clear h7 hb7
        go_wp2_with fail
        go_ret
        exact ⟨rfl, HB7.out⟩
theorem wholeFull_all (w : World) (hg : Glob w) (key : Int) (_h : (Lit.int .u32 key).wf = true) (b : Body) (hb : b.Fit) : Calls Tryz.prog 4 #[.int .u32 key, .agg b.cells] w fun e w' => e = .returned (.bool true) ∧ Below w.heap.size w w' := wholeFull_any key b hb w hg
end Go.Proofs.YtnhaiecbjipodaaGreatDoor
/- WholeErrors: the errors of the two operations are the same; an operation with an error changes nothing. No program in it. -/
namespace Go.Proofs.YtnhaiecbjipodaaGreatDoor
open Go.RowKit
theorem findK_neg {l : List Body} {k : Int} {i : Nat} (h : ¬ ∃ b ∈ l, b.key = k) : findK l k i = -1 := by
  induction l generalizing i with
  | nil => rfl
  | cons b r ih =>
    unfold findK
    rw [if_neg (fun e => h ⟨b, List.mem_cons_self .., e⟩)]
    exact ih fun ⟨b', h1, h2⟩ => h ⟨b', List.mem_cons_of_mem _ h1, h2⟩
theorem findK_sort (l : List Body) (k : Int) : 0 ≤ findK (sortB l) k 0 ↔ (idx l k).isSome = true := by
  rw [idx_is]
  have hm : (∃ b ∈ sortB l, b.key = k) ↔ ∃ b ∈ l, b.key = k := ⟨fun ⟨b, h1, h2⟩ => ⟨b, (sortB_perm l).mem_iff.1 h1, h2⟩, fun ⟨b, h1, h2⟩ => ⟨b, (sortB_perm l).mem_iff.2 h1, h2⟩⟩
  rw [← hm]
  refine ⟨fun h => ?_, fun h => ?_⟩
  · exact Classical.byContradiction fun hn => by rw [findK_neg hn] at h; omega
  · obtain ⟨a, _, e, _⟩ := findK_at (i := 0) h
    rw [e]; omega
theorem getE_ref (l : List Body) (k : Int) : getE l k = errK (sortB l) k := by
  unfold getE errK
  by_cases h : (idx l k).isSome = true
  · have := (findK_sort l k).2 h
    rw [if_pos h, if_neg (by omega)]
  · have : ¬ 0 ≤ findK (sortB l) k 0 := fun h' => h ((findK_sort l k).1 h')
    rw [if_neg h, if_pos (by omega)]
theorem addE_ref (l : List Body) (b : Body) : addE l b = (addL (sortB l) b).2 := by
  unfold addE addL
  have hl : (sortB l).length = l.length := (sortB_perm l).length_eq
  by_cases h0 : errOf b ≠ 0
  · rw [if_pos h0, if_pos h0]
  rw [if_neg h0, if_neg h0]
  by_cases h : (idx l b.key).isSome = true
  · rw [if_pos h, if_pos ((findK_sort l b.key).2 h)]
  rw [if_neg h, if_neg (fun h' => h ((findK_sort l b.key).1 h')), hl]
  by_cases h4 : 4096 ≤ l.length
  · rw [if_pos h4, if_pos h4]
  · rw [if_neg h4, if_neg h4]
theorem doE_ref (l : List Body) (k : Int) (b : Body) (q : Int) (bs : List Int) : doE l k b q bs = errW (sortB l) k b q bs := by
  unfold doE errW
  rw [addE_ref, getE_ref]
theorem getE_none {l : List Body} {k : Int} (h : getE l k ≠ 0) : idx l k = none := by
  unfold getE at h
  by_cases hs : (idx l k).isSome = true
  · rw [if_pos hs] at h; exact absurd rfl h
  · simpa using hs
theorem doL_same (l : List Body) (k : Int) (b : Body) (q x y : Int) (bs : List Int) (h : doE l k b q bs ≠ 0) : doL l k b q x y bs = l := by
  unfold doE at h
  unfold doL
  by_cases k1 : k = 1
  · rw [if_pos k1] at h ⊢; unfold addR; rw [if_neg h]
  rw [if_neg k1] at h ⊢
  by_cases k2 : k = 2
  · rw [if_pos k2] at h ⊢; unfold remR; rw [getE_none h]
  rw [if_neg k2] at h ⊢
  by_cases k3 : k = 3
  · rw [if_pos k3] at h ⊢; unfold impR; rw [getE_none h]
  rw [if_neg k3] at h ⊢
  by_cases k4 : k = 4
  · rw [if_pos k4] at h; exact absurd rfl h
  rw [if_neg k4] at h ⊢
  by_cases k5 : k = 5
  · rw [if_pos k5] at h; exact absurd rfl h
  rw [if_neg k5] at h ⊢
  by_cases k6 : k = 6
  · rw [if_pos k6] at h ⊢; unfold restR; rw [if_neg h]
  rw [if_neg k6]
theorem errOf_small (b : Body) : 0 ≤ errOf b ∧ errOf b ≤ 14 := by
  unfold errOf
  repeat' split
  all_goals decide
theorem firstErr_small (l : List Body) : 0 ≤ firstErr l ∧ firstErr l ≤ 14 := by
  induction l with
  | nil => unfold firstErr; decide
  | cons b r ih =>
    unfold firstErr
    have := errOf_small b
    split
    · exact ih
    · exact this
theorem checkL_small (l : List Body) : 0 ≤ checkL l ∧ checkL l ≤ 14 := by
  have h1 : 0 ≤ eachL l ∧ eachL l ≤ 14 := by
    have := firstErr_small l
    unfold eachL
    split
    · decide
    · exact this
  unfold checkL
  repeat' split
  · exact h1
  · decide
  · decide
theorem doE_range (l : List Body) (k : Int) (b : Body) (q : Int) (bs : List Int) : 0 ≤ doE l k b q bs ∧ doE l k b q bs ≤ 14 := by
  have hg : 0 ≤ getE l q ∧ getE l q ≤ 14 := by unfold getE; split <;> decide
  have ha : 0 ≤ addE l b ∧ addE l b ≤ 14 := by
    have := errOf_small b
    unfold addE
    repeat' split
    · exact this
    all_goals decide
  have hd : 0 ≤ (decL bs).2 ∧ (decL bs).2 ≤ 14 := by
    have := checkL_small (rowsL bs ((bs.length - 8) / 40))
    unfold decL
    repeat' split
    · exact this
    all_goals first | decide | exact ⟨Int.le_refl 0, show (0 : Int) ≤ 14 by decide⟩
  unfold doE
  repeat' split
  · exact ha
  · exact hg
  · exact hg
  · decide
  · decide
  · exact hd
  · decide
end Go.Proofs.YtnhaiecbjipodaaGreatDoor
/- WholeErrors: the walk. -/
namespace Go.Proofs.YtnhaiecbjipodaaGreatDoor
open Go.RowKit Go.Shelf Go.Proofs Go.MapKept
attribute [local go_sem] Grow.cell Grow.froz Grow.lt lt_s1 lt_s2 lt_s3 lt_s4 lt_s5
theorem op23Info : (Tryz.prog.info? 30).map (fun i => (i.zero, i.size, i.bytes)) = some (some (.agg #[.int .i64 0, .int .u32 0, .int .i32 0, .int .i32 0, .int .i32 0, .int .i32 0, .int .i32 0, .int .i32 0, .int .i32 0, .int .i32 0, .int .i32 0, .int .u32 0, .int .i32 0, .int .i32 0, .slice none 0 0]), 15, 88) := by kernel_rfl
def FewN (v : Value) (n : Nat) : Prop := ∃ f, v = .bool f ∧ (f = false → n ≤ 40)
set_option maxRecDepth 100000 in
set_option maxHeartbeats 8000000 in
theorem wholeErr_any (v0 : Value) (ops : List OpD) (o : OpD) (w : World) (hg : Glob w) (hv : Reads opE w v0 ops) (ho : ∀ o ∈ ops, OpOk w (fun k => w.heap.size ≤ k) o) (hox : OpOk w (fun k => w.heap.size ≤ k) o) (hn88 : ops.length * 88 ≤ 140737488351232) :
    Calls Tryz.prog 3 #[v0, .agg (OpA o.k o.b o.q o.x o.y o.A o.n o.c)] w fun e w' => e = .returned (.bool true) ∧ Below w.heap.size w w' := by
  obtain ⟨hvn, A0, c0, rfl, hcell⟩ := hv
  have hv : Reads opE w (.slice A0 ops.length c0) ops := ⟨hvn, A0, c0, rfl, hcell⟩
  have hb1 : Below w.heap.size w (w.alloc (.cells (OpA o.k o.b o.q o.x o.y o.A o.n o.c) 30)) := (by repeat (first | with_reducible exact Below.refl _ _ | with_reducible refine bel_alloc ?_ _ | with_reducible refine bel_drewN ?_ _ | with_reducible refine bel_drew ?_ | with_reducible refine bel_grow ?_ _ | with_reducible refine bel_set ?_ (by first | omega | (simp; done) | (simp; omega)) _))
  have kb : CellsAt (w.alloc (.cells (OpA o.k o.b o.q o.x o.y o.A o.n o.c) 30)) w.heap.size (OpA o.k o.b o.q o.x o.y o.A o.n o.c) 30 := (by repeat (first | with_reducible exact CellsAt.newAt (by first | rfl | (simp; done) | omega) rfl | with_reducible refine CellsAt.alloc ?_ _ | with_reducible refine CellsAt.drewN ?_ _ | with_reducible refine CellsAt.drew ?_ | with_reducible refine CellsAt.grow ?_ _ | with_reducible refine CellsAt.far ?_ (by first | omega | (simp; done) | (simp; omega)) _))
  go_enter Tryz.func3, Tryz.ntmps3
  go_upto_region 1 with fail
  obtain ⟨W1, hW1⟩ : ∃ W1, W1 = w.alloc (.cells (OpA o.k o.b o.q o.x o.y o.A o.n o.c) 30) := ⟨_, rfl⟩
  rw [← hW1] at hb1 kb ⊢
  clear hW1
  have lB := kb.lt
  have HS := Lib.hid (fun W (hb : Below W1.heap.size W1 W) => have h := kb.below hb lB; (show (fun w' : World => w'.cell? ⟨w.heap.size, 0, none⟩ = some (.int .i64 o.k) ∧ w'.cell? ⟨w.heap.size, 1, none⟩ = some (.int .u32 o.b.key) ∧ w'.cell? ⟨w.heap.size, 2, none⟩ = some (.int .i32 o.b.radius) ∧ w'.cell? ⟨w.heap.size, 3, none⟩ = some (.int .i32 o.b.ax) ∧ w'.cell? ⟨w.heap.size, 4, none⟩ = some (.int .i32 o.b.ay) ∧ w'.cell? ⟨w.heap.size, 5, none⟩ = some (.int .i32 o.b.inv) ∧ w'.cell? ⟨w.heap.size, 6, none⟩ = some (.int .i32 o.b.bounce) ∧ w'.cell? ⟨w.heap.size, 7, none⟩ = some (.int .i32 o.b.px) ∧ w'.cell? ⟨w.heap.size, 8, none⟩ = some (.int .i32 o.b.py) ∧ w'.cell? ⟨w.heap.size, 9, none⟩ = some (.int .i32 o.b.vx) ∧ w'.cell? ⟨w.heap.size, 10, none⟩ = some (.int .i32 o.b.vy) ∧ w'.cell? ⟨w.heap.size, 11, none⟩ = some (.int .u32 o.q) ∧ w'.cell? ⟨w.heap.size, 12, none⟩ = some (.int .i32 o.x) ∧ w'.cell? ⟨w.heap.size, 13, none⟩ = some (.int .i32 o.y) ∧ w'.cell? ⟨w.heap.size, 14, none⟩ = some (.slice o.A o.n o.c)) W from ⟨h.at 0 rfl, h.at 1 rfl, h.at 2 rfl, h.at 3 rfl, h.at 4 rfl, h.at 5 rfl, h.at 6 rfl, h.at 7 rfl, h.at 8 rfl, h.at 9 rfl, h.at 10 rfl, h.at 11 rfl, h.at 12 rfl, h.at 13 rfl, h.at 14 rfl⟩))
  have HAW := Lib.hid (fun W (hb : Below W1.heap.size W1 W) => awake28_any W ((hg.below hb1).below hb))
  have HRA := Lib.hid (fun W (hb : Below W1.heap.size W1 W) => (show 0 < ops.length → ∃ ad, A0 = some ad ∧ ∀ j u, (ops.flatMap opE.cells)[j]? = some u → W.cell? (ad.add j) = some u from fun h0 => reads_flat ((hv.below hb1).below hb) h0))
  have HV := Lib.hid hv
  have HB1 := Lib.hid hb1
  have HKB := Lib.hid kb
  have HG := Lib.hid hg
  have HO := Lib.hid ho
  have HOX := Lib.hid hox
  clear hcell hb1 kb hg hv ho hox hvn
  go_cut [22] (fun c wx => FewN c (ops.length + 1) ∧ Below W1.heap.size W1 wx)
  case first =>
    go_upto_region 1 with fail
    go_region_held3 (fun w' : World => w'.cell? ⟨w.heap.size, 0, none⟩ = some (.int .i64 o.k) ∧ w'.cell? ⟨w.heap.size, 1, none⟩ = some (.int .u32 o.b.key) ∧ w'.cell? ⟨w.heap.size, 2, none⟩ = some (.int .i32 o.b.radius) ∧ w'.cell? ⟨w.heap.size, 3, none⟩ = some (.int .i32 o.b.ax) ∧ w'.cell? ⟨w.heap.size, 4, none⟩ = some (.int .i32 o.b.ay) ∧ w'.cell? ⟨w.heap.size, 5, none⟩ = some (.int .i32 o.b.inv) ∧ w'.cell? ⟨w.heap.size, 6, none⟩ = some (.int .i32 o.b.bounce) ∧ w'.cell? ⟨w.heap.size, 7, none⟩ = some (.int .i32 o.b.px) ∧ w'.cell? ⟨w.heap.size, 8, none⟩ = some (.int .i32 o.b.py) ∧ w'.cell? ⟨w.heap.size, 9, none⟩ = some (.int .i32 o.b.vx) ∧ w'.cell? ⟨w.heap.size, 10, none⟩ = some (.int .i32 o.b.vy) ∧ w'.cell? ⟨w.heap.size, 11, none⟩ = some (.int .u32 o.q) ∧ w'.cell? ⟨w.heap.size, 12, none⟩ = some (.int .i32 o.x) ∧ w'.cell? ⟨w.heap.size, 13, none⟩ = some (.int .i32 o.y) ∧ w'.cell? ⟨w.heap.size, 14, none⟩ = some (.slice o.A o.n o.c)) (exact HS.out _ (by repeat (first | with_reducible exact Below.refl _ _ | with_reducible exact HB4 | with_reducible exact HB3 | with_reducible refine bel_alloc ?_ _ | with_reducible refine bel_drew ?_ | with_reducible refine bel_grow ?_ _)))
      (first
        | (go_at_call 6; refine (HAW.out _ (by repeat (first | with_reducible exact Below.refl _ _ | with_reducible exact HB4 | with_reducible exact HB3 | with_reducible refine bel_alloc ?_ _ | with_reducible refine bel_drew ?_ | with_reducible refine bel_grow ?_ _))).mono ?_; rintro e w2 ⟨rfl, hb2⟩; obtain ⟨g1, rfl⟩ := Grow.of hb2; have hz1 : W1.heap.size ≤ g1.world.heap.size := g1.le; clear hb2)
        | (go_at_call 7; refine (few_any _ (ops ++ [o]) _ (hO4.reads (by simp; omega)) (by simp; omega)).mono ?_; rintro e w5 ⟨fv, rfl, hfv, rfl⟩; obtain ⟨f, rfl, hf⟩ := hfv; have HF := Lib.hid hf; clear hf)
        | (refine step_copy (by rfl) opE W1.heap.size (.tmp 14) (.tmp 15) 22 30 _ 88 rfl Tryz.underlying22 op23Info rfl (by decide) _ (by rfl) (by repeat (first | with_reducible exact CellsAt.newAt (by first | rfl | (simp; done) | omega) rfl | with_reducible refine CellsAt.alloc ?_ _ | with_reducible refine CellsAt.drewN ?_ _ | with_reducible refine CellsAt.drew ?_ | with_reducible refine CellsAt.grow ?_ _ | with_reducible refine CellsAt.far ?_ (by first | omega | (simp; done) | (simp; omega)) _)) (by first | exact hz1 | omega | (simp; omega)) ops A0 c0 (by rfl) (HRA.out _ (by repeat (first | with_reducible exact Below.refl _ _ | with_reducible exact HB4 | with_reducible exact HB3 | with_reducible refine bel_alloc ?_ _ | with_reducible refine bel_drew ?_ | with_reducible refine bel_grow ?_ _))) (by omega) ?_; intro v3 w3 hO3 hg3; have HB3 : Below W1.heap.size W1 w3 := Below.grown (by repeat (first | with_reducible exact Below.refl _ _ | with_reducible exact HB4 | with_reducible exact HB3 | with_reducible refine bel_alloc ?_ _ | with_reducible refine bel_drew ?_ | with_reducible refine bel_grow ?_ _)) hg3 (by first | exact hz1 | omega | (simp; omega)) (fun k hk => by simp at hk; omega))
        | (refine step_app (by rfl) opE W1.heap.size (.tmp 16) (.tmp 18) 22 30 _ 88 rfl Tryz.underlying22 op23Info rfl (by decide) _ (by rfl) v3 ops o #[.int .i64 o.k, .int .u32 o.b.key, .int .i32 o.b.radius, .int .i32 o.b.ax, .int .i32 o.b.ay, .int .i32 o.b.inv, .int .i32 o.b.bounce, .int .i32 o.b.px, .int .i32 o.b.py, .int .i32 o.b.vx, .int .i32 o.b.vy, .int .u32 o.q, .int .i32 o.x, .int .i32 o.y, .slice o.A o.n o.c] rfl rfl (by first | ((repeat (first | with_reducible exact CellsAt.newAt (by first | rfl | (simp; done) | omega) rfl | with_reducible refine CellsAt.alloc ?_ _ | with_reducible refine CellsAt.drew ?_ | with_reducible refine CellsAt.grow ?_ _)); done) | (refine CellsAt.of_block ?_ (hg3.block _ (by first | (simp; done) | (simp; omega)) (by first | (simp; done) | (simp; omega))); ((repeat (first | with_reducible exact CellsAt.newAt (by first | rfl | (simp; done) | omega) rfl | with_reducible refine CellsAt.alloc ?_ _ | with_reducible refine CellsAt.drew ?_ | with_reducible refine CellsAt.grow ?_ _)); done))) (hO3.below (by repeat (first | with_reducible exact Below.refl _ _ | with_reducible refine bel_alloc ?_ _ | with_reducible refine bel_drew ?_))) (by first | exact HB3.size | exact Nat.le_trans HB3.size (by simp)) (by omega) ?_; intro v4 w4 hO4 hg4; have HB4 : Below W1.heap.size W1 w4 := Below.grown (by repeat (first | with_reducible exact Below.refl _ _ | with_reducible exact HB4 | with_reducible exact HB3 | with_reducible refine bel_alloc ?_ _ | with_reducible refine bel_drew ?_ | with_reducible refine bel_grow ?_ _)) hg4 (by first | exact HB3.size | exact Nat.le_trans HB3.size (by simp)) (fun k hk => hO3.base_le k hk)))
    all_goals
      go_wp2
      go_meet
      exact ⟨⟨_, rfl, fun h => by have := HF.out (by simpa using h); simpa using this⟩, (by repeat (first | with_reducible exact Below.refl _ _ | with_reducible exact HB4 | with_reducible exact HB3 | with_reducible refine bel_alloc ?_ _ | with_reducible refine bel_drew ?_ | with_reducible refine bel_grow ?_ _))⟩
  case rest =>
    obtain ⟨⟨f, rfl, hf⟩, hbw⟩ := hcut
    obtain ⟨g1, rfl⟩ := Grow.of hbw
    have HF := Lib.hid hf
    clear hf hbw
    cases f
    case true =>
      go_wp2_with (go_at_call 6; refine (HAW.out _ (by repeat (first | with_reducible exact Below.refl _ _ | with_reducible exact HB4 | with_reducible exact HB3 | with_reducible refine bel_alloc ?_ _ | with_reducible refine bel_drew ?_ | with_reducible refine bel_grow ?_ _))).mono ?_; rintro e w2 ⟨rfl, hb2⟩; obtain ⟨g2, rfl⟩ := Grow.of hb2; clear hb2)
      go_ret
      exact ⟨rfl, HB1.out.trans (Below.mono (by repeat (first | with_reducible exact Below.refl _ _ | with_reducible refine bel_alloc ?_ _ | with_reducible refine bel_drewN ?_ _ | with_reducible refine bel_drew ?_ | with_reducible refine bel_grow ?_ _ | with_reducible refine bel_set ?_ (by first | omega | (simp; done) | (simp; omega)) _)) HB1.out.size)⟩
    case false =>
      have hn40 : ops.length + 1 ≤ 40 := HF.out rfl
      have hn : ops.length ≤ 1000000 := by omega
      have hbG : Below w.heap.size w g1.world := HB1.out.trans (g1.below.mono HB1.out.size)
      have HFW := Lib.hid (forward_any (.slice A0 ops.length c0) ops g1.world (HV.out.below hbG) hn)
      go_upto_region 3 with fail
      go_wp2_with fail
      refine HFW.out.mono ?_
      rintro e w2 ⟨v2, rfl, hO2, hb2⟩
      have hB2 : Below w.heap.size w w2 := hbG.trans (hb2.mono hbG.size)
      have hokw : ∀ {o : OpD}, OpOk w (fun k => w.heap.size ≤ k) o → OpOk w2 (fun k => w2.heap.size ≤ k) o := fun {o} h => ⟨h.fit, h.x, h.y, h.rb.below hB2, fun k hk hn2 hk2 => h.ap k hk hn2 (Nat.le_trans hB2.size hk2)⟩
      have HSW := Lib.hid (scriptWorld_any v2 ops w2 (HG.out.below hB2) (hO2.reads (by omega)) hO2.lt (fun o h => hokw (HO.out o h)) hn)
      have HB2 := Lib.hid hB2
      have HB12 := Lib.hid hb2
      clear hO2 hb2 hB2 hokw
      go_wp2_with fail
      refine HSW.out.mono ?_
      rintro e w3 ⟨p, F, rfl, hS3, hF3, hb3⟩
      have hSN : SaneL (runL [] ops) := sane_run (by intro b hb; cases hb) (fun o h => ⟨(HO.out o h).fit, (HO.out o h).rb.2.1⟩)
      have hINV := hS3.inv hSN
      have HSN := Lib.hid hSN
      have HINV := Lib.hid hINV
      obtain ⟨l, hl⟩ : ∃ l, l = runL [] ops := ⟨_, rfl⟩
      rw [← hl] at hS3 HSN HINV
      have HS3 := Lib.hid hS3.bound
      have HF3 := Lib.hid hF3
      have HB3 := Lib.hid (HB2.out.trans (hb3.mono HB2.out.size))
      have HB13 := Lib.hid (HB12.out.trans (hb3.mono HB12.out.size))
      have hz23 := hb3.size
      clear hSN hINV hl hS3 hF3 hb3
      go_upto_region 4 with fail
      have HSNAP := Lib.hid (worldSnap_any p w3 _ l HS3.out HSN.out)
      go_wp2_with fail
      refine HSNAP.out.mono ?_
      rintro e w4 ⟨v4, rfl, hv4, hb4⟩
      have HV4 := Lib.hid hv4
      have HB34 := Lib.hid hb4
      have hz34 := hb4.size
      clear hv4 hb4
      go_upto_region 5 with fail
      have HVIEW := Lib.hid (worldView_s p w4 _ l (HS3.out.below HB34.out))
      go_wp2_with fail
      refine HVIEW.out.mono ?_
      rintro e w5 ⟨v5, rfl, hv5, hb5⟩
      have HV5 := Lib.hid hv5
      have HB35 := Lib.hid (HB34.out.trans (hb5.mono HB34.out.size))
      have HB45 := Lib.hid hb5
      have hz45 := hb5.size
      clear hv5 hb5
      have hB05 : Below w.heap.size w w5 := HB3.out.trans (HB35.out.mono HB3.out.size)
      have hB15 : Below g1.world.heap.size g1.world w5 := HB13.out.trans (HB35.out.mono HB13.out.size)
      have hS5 := HS.out w5 ((g1.below).trans (hB15.mono g1.le))
      have HDO := Lib.hid (do_any o.k o.b o.q o.x o.y o.A o.n o.c w5 p _ l o.bs (HS3.out.below HB35.out) HSN.out (HG.out.below hB05) HOX.out.x HOX.out.y (HOX.out.rb.below hB05))
      obtain ⟨er, her⟩ : ∃ er, er = doE l o.k o.b o.q o.bs := ⟨_, rfl⟩
      rw [← her] at HDO
      have HER := Lib.hid her
      have HB05 := Lib.hid hB05
      have HB15 := Lib.hid hB15
      clear her hB05 hB15
      obtain ⟨s0, s1, s2, s3, s4, s5, s6, s7, s8, s9, s10, s11, s12, s13, s14⟩ := hS5
      go_upto_region 6 with fail
      go_wp2_with fail
      refine HDO.out.mono ?_
      rintro e w6 ⟨A6, n6, c6, cnt6, fl6, rfl, h6⟩
      clear s0 s1 s2 s3 s4 s5 s6 s7 s8 s9 s10 s11 s12 s13 s14
      obtain ⟨F6, hS6, hal6, hF6⟩ := h6
      have hgle := g1.le
      have hz12 := HB12.out.size
      have hz15 := HB15.out.size
      have l05 : w.heap.size < w5.heap.size := by omega
      have nF0 : ¬ (F w.heap.size ∧ w.heap.size < w3.heap.size) := fun h => by have := HF3.out _ h.1; omega
      have K6 : CellsAt w6 w.heap.size #[.int .i64 o.k, .int .u32 o.b.key, .int .i32 o.b.radius, .int .i32 o.b.ax, .int .i32 o.b.ay, .int .i32 o.b.inv, .int .i32 o.b.bounce, .int .i32 o.b.px, .int .i32 o.b.py, .int .i32 o.b.vx, .int .i32 o.b.vy, .int .u32 o.q, .int .i32 o.x, .int .i32 o.y, .slice o.A o.n o.c] 30 := (((HKB.out.below g1.below lB).below HB15.out (by omega)).alter hal6 nF0)
      have l06 : w.heap.size < w6.heap.size := Nat.lt_of_lt_of_le l05 hal6.size
      have hG := sortB_good HINV.out
      have hlen := hG.len
      have hz02 := HB2.out.size
      have HRB6 : RB w6 (.slice o.A o.n o.c) o.bs := (HOX.out.rb.below HB05.out).alter hal6 (fun k hk h0 hF => HOX.out.ap k hk h0 (Nat.le_trans hz02 (HF3.out _ hF.1)))
      have HR5 : Reads bodyE w6 v5 (sortB l) := hal6.reads (HV5.out.reads (by omega)) (fun k hk hF => by have h1 := HV5.out.base_le k hk; have h2 := hF.2; omega)
      have HR4 : RB w6 v4 (bytesL (sortB l)) := ((HV4.out.reads (by rw [bytesL_len]; omega)).below HB45.out).alter hal6 (fun k hk h0 hF => by have h1 := HV4.out.2.base_le k hk; have h2 := hF.2; omega)
      have hdr := fun W (hb : Below w6.heap.size w6 W) => do23_any v5 (sortB l) o.k o.b o.q o.x o.y o.A o.n o.c W (HR5.below hb) hG (fun b hb => (sortB_sane HSN.out b hb).fit) HOX.out.x HOX.out.y o.bs (HRB6.below hb)
      rw [← doE_ref, ← HER.out] at hdr
      have HDR := Lib.hid hdr
      have HS6 := Lib.hid hS6
      have HR4 := Lib.hid HR4
      have HR := Lib.hid (show 0 ≤ er ∧ er ≤ 14 from HER.out ▸ doE_range l o.k o.b o.q o.bs)
      have HB06 := Lib.hid (HB05.out.trans (hal6.below (Nat.le_of_lt l05) (fun k hk h => by have := HF3.out _ h.1; omega)))
      have hz56 := hal6.size
      clear hdr hS6 hF6 hal6 HRB6 HR5 nF0 hG
      have kk1 : w6.cell? ⟨w.heap.size, 0, none⟩ = some (.int .i64 o.k) := K6.at 0 rfl
      have kk2 : w6.cell? ⟨w.heap.size, 1, none⟩ = some (.int .u32 o.b.key) := K6.at 1 rfl
      have kk3 : w6.cell? ⟨w.heap.size, 2, none⟩ = some (.int .i32 o.b.radius) := K6.at 2 rfl
      have kk4 : w6.cell? ⟨w.heap.size, 3, none⟩ = some (.int .i32 o.b.ax) := K6.at 3 rfl
      have kk5 : w6.cell? ⟨w.heap.size, 4, none⟩ = some (.int .i32 o.b.ay) := K6.at 4 rfl
      have kk6 : w6.cell? ⟨w.heap.size, 5, none⟩ = some (.int .i32 o.b.inv) := K6.at 5 rfl
      have kk7 : w6.cell? ⟨w.heap.size, 6, none⟩ = some (.int .i32 o.b.bounce) := K6.at 6 rfl
      have kk8 : w6.cell? ⟨w.heap.size, 7, none⟩ = some (.int .i32 o.b.px) := K6.at 7 rfl
      have kk9 : w6.cell? ⟨w.heap.size, 8, none⟩ = some (.int .i32 o.b.py) := K6.at 8 rfl
      have kk10 : w6.cell? ⟨w.heap.size, 9, none⟩ = some (.int .i32 o.b.vx) := K6.at 9 rfl
      have kk11 : w6.cell? ⟨w.heap.size, 10, none⟩ = some (.int .i32 o.b.vy) := K6.at 10 rfl
      have kk12 : w6.cell? ⟨w.heap.size, 11, none⟩ = some (.int .u32 o.q) := K6.at 11 rfl
      have kk13 : w6.cell? ⟨w.heap.size, 12, none⟩ = some (.int .i32 o.x) := K6.at 12 rfl
      have kk14 : w6.cell? ⟨w.heap.size, 13, none⟩ = some (.int .i32 o.y) := K6.at 13 rfl
      have kk15 : w6.cell? ⟨w.heap.size, 14, none⟩ = some (.slice o.A o.n o.c) := K6.at 14 rfl
      go_upto_region 7 with fail
      go_wp2_with fail
      refine (HDR.out _ (by repeat (first | with_reducible exact Below.refl _ _ | with_reducible exact HB4 | with_reducible exact HB3 | with_reducible refine bel_alloc ?_ _ | with_reducible refine bel_drew ?_ | with_reducible refine bel_grow ?_ _))).mono ?_
      rintro e w7 ⟨V7, B7, m7, d7, cnt7, f7, rfl, hb7⟩
      obtain ⟨g7, rfl⟩ := Grow.of hb7
      clear hb7
      have KO := (CellsAt.new w6 (OutA er A6 n6 c6 cnt6 fl6) 42).grow g7
      have l7 := KO.lt
      have c7 : g7.world.cell? ⟨w6.heap.size, 0, none⟩ = some (.int .i64 er) := KO.at 0 rfl
      obtain ⟨er0, er1⟩ := HR.out
      clear KO HR
      go_upto_region 8 with fail
      by_cases h0 : er = 0
      · subst h0
        go_wp2
        go_ret
        exact ⟨rfl, HB06.out.trans (Below.mono (by repeat (first | with_reducible exact Below.refl _ _ | with_reducible refine bel_alloc ?_ _ | with_reducible refine bel_drewN ?_ _ | with_reducible refine bel_drew ?_ | with_reducible refine bel_grow ?_ _ | with_reducible refine bel_set ?_ (by first | omega | (simp; done) | (simp; omega)) _)) (Nat.le_trans HB05.out.size hz56))⟩
      · have hne : (er == 0) = false := by simpa using h0
        have hL := HS6.out
        rw [doL_same _ _ _ _ _ _ _ (by rw [← HER.out]; exact h0)] at hL
        have HL := Lib.hid hL
        have HSN2 := Lib.hid (fun W (hb : Below w6.heap.size w6 W) => worldSnap_any p W _ l (HL.out.below hb) HSN.out)
        clear hL
        go_upto_region 10 with fail
        go_wp2_with fail
        refine (HSN2.out _ (by repeat (first | with_reducible exact Below.refl _ _ | with_reducible refine bel_alloc ?_ _ | with_reducible refine bel_drewN ?_ _ | with_reducible refine bel_drew ?_ | with_reducible refine bel_grow ?_ _ | with_reducible refine bel_set ?_ (by first | omega | (simp; done) | (simp; omega)) _))).mono ?_
        rintro e w8 ⟨v8, rfl, h8, hb8⟩
        obtain ⟨g8, rfl⟩ := Grow.of hb8
        have H8 := Lib.hid (h8.reads (by rw [bytesL_len]; omega))
        clear h8 hb8
        go_wp2_with fail
        refine (bsame_any _ _ (bytesL (sortB l)) (bytesL (sortB l)) _ H8.out (HR4.out.below (by repeat (first | with_reducible exact Below.refl _ _ | with_reducible refine bel_alloc ?_ _ | with_reducible refine bel_drewN ?_ _ | with_reducible refine bel_drew ?_ | with_reducible refine bel_grow ?_ _ | with_reducible refine bel_set ?_ (by first | omega | (simp; done) | (simp; omega)) _)))).mono ?_
        rintro e w9 ⟨rfl, hb9⟩
        obtain ⟨g9, rfl⟩ := Grow.of hb9
        clear hb9
        rw [decide_eq_true (rfl : bytesL (sortB l) = bytesL (sortB l))]
        go_wp2
        go_ret
        exact ⟨rfl, HB06.out.trans (Below.mono (by repeat (first | with_reducible exact Below.refl _ _ | with_reducible refine bel_alloc ?_ _ | with_reducible refine bel_drewN ?_ _ | with_reducible refine bel_drew ?_ | with_reducible refine bel_grow ?_ _ | with_reducible refine bel_set ?_ (by first | omega | (simp; done) | (simp; omega)) _)) (Nat.le_trans HB05.out.size hz56))⟩
theorem wholeErr_all (w : World) (hg : Glob w) (v0 : Value) (ops : List OpD) (hv : Reads opE w v0 ops) (ho : ∀ o ∈ ops, OpOk w (fun k => w.heap.size ≤ k) o) (hn : ops.length * 88 ≤ 140737488351232) (o : OpD) (hox : OpOk w (fun k => w.heap.size ≤ k) o) :
    Calls Tryz.prog 3 #[v0, .agg (OpA o.k o.b o.q o.x o.y o.A o.n o.c)] w fun e w' => e = .returned (.bool true) ∧ Below w.heap.size w w' := wholeErr_any v0 ops o w hg hv ho hox hn
end Go.Proofs.YtnhaiecbjipodaaGreatDoor
