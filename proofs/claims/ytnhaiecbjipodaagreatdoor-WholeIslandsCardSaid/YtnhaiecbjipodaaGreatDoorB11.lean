/- The contract of contact.Of where two bodies are apart. -/
import Derived.Test.YtnhaiecbjipodaaGreatDoorB10
namespace Go.Proofs.YtnhaiecbjipodaaGreatDoor
open Go.RowKit
attribute [local go_sem] Grow.cell Grow.froz Grow.lt lt_s1 lt_s2 lt_s3 lt_s4 lt_s5

set_option maxRecDepth 100000 in
set_option maxHeartbeats 4000000 in
theorem contactNo_any (a b : Body) (w : World) (ha : Placed a) (hb : Placed b) (hk : a.key < b.key) (ht : touchI a b = false) : Calls Tryz.prog 152 #[.agg a.arr, .agg b.arr] w fun e w' => e = .returned (.tuple #[.agg #[.int .u32 0, .int .u32 0, .int .i32 0, .int .i32 0, .int .i32 0], .bool false]) ∧ Below w.heap.size w w' := by
  have HI := fun w => inOrder_any a b w ha hb hk
  have HM := fun w => measure_any a b w ha hb
  obtain ⟨⟨g0, g1⟩, g2, g3⟩ := gap_bd ha hb
  have HL := fun w => lengthSq_any (gapX a b) (gapY a b) w g0 g1 g2 g3
  obtain ⟨r0, r1⟩ := ha.radius
  obtain ⟨r2, r3⟩ := hb.radius
  have hq := mul_abs (x := a.radius + b.radius) (y := a.radius + b.radius) (X := 8388608) (Y := 8388608) (by omega) (by omega) (by omega) (by omega)
  have hq0 : 0 ≤ (a.radius + b.radius) * (a.radius + b.radius) := Int.mul_nonneg (by omega) (by omega)
  have hge : (a.radius + b.radius) * (a.radius + b.radius) ≤ lenSqI (gapX a b) (gapY a b) := by
    rcases Int.lt_or_le (lenSqI (gapX a b) (gapY a b)) ((a.radius + b.radius) * (a.radius + b.radius)) with h | h
    · rw [(touch_iff a b).2 h] at ht; cases ht
    · exact h
  generalize gapX a b = X at *
  generalize gapY a b = Y at *
  generalize lenSqI X Y = D at *
  obtain ⟨q0, q1⟩ := hq
  clear ha hb ht
  go_enter Tryz.func152, Tryz.ntmps152
  go_wp2_with fail
  refine (HI _).mono ?_
  rintro e w1 ⟨rfl, hb⟩
  obtain ⟨g4, rfl⟩ := Grow.of hb
  clear hb
  have zz1 : w.heap.size < g4.world.heap.size := Nat.lt_of_lt_of_le (by first | omega | (simp; done) | (simp; omega)) g4.le
  have zz2 : w.heap.size + 1 < g4.world.heap.size := Nat.lt_of_lt_of_le (by first | omega | (simp; done) | (simp; omega)) g4.le
  have zz3 : w.heap.size + 1 + 1 < g4.world.heap.size := Nat.lt_of_lt_of_le (by first | omega | (simp; done) | (simp; omega)) g4.le
  go_wp2_with fail
  refine (HM _).mono ?_
  rintro e w1 ⟨rfl, hb⟩
  obtain ⟨g5, rfl⟩ := Grow.of hb
  clear hb
  have zz4 : w.heap.size + 1 + 1 < g5.world.heap.size := Nat.lt_of_lt_of_le (by first | omega | (simp; done) | (simp; omega)) g5.le
  have zz5 : g4.world.heap.size < g5.world.heap.size := Nat.lt_of_lt_of_le (by first | omega | (simp; done) | (simp; omega)) g5.le
  have zz6 : g4.world.heap.size + 1 < g5.world.heap.size := Nat.lt_of_lt_of_le (by first | omega | (simp; done) | (simp; omega)) g5.le
  go_wp2_with fail
  refine (HL _).mono ?_
  rintro e w' ⟨rfl, rfl⟩
  have c0 : CellsAt g5.world (w.heap.size + 1 + 1) #[.int .u32 0, .int .u32 0, .int .i32 0, .int .i32 0, .int .i32 0] 100 := (by repeat (first | with_reducible exact CellsAt.newAt (by first | rfl | (simp; done) | omega) rfl | with_reducible refine CellsAt.alloc ?_ _ | with_reducible refine CellsAt.drewN ?_ _ | with_reducible refine CellsAt.drew ?_ | with_reducible refine CellsAt.grow ?_ _ | with_reducible refine CellsAt.far ?_ (by first | omega | (simp; done) | (simp; omega)) _))
  have kk7 : g5.world.frozen? ⟨w.heap.size + 1 + 1, 0, none⟩ = false := c0.froz 0
  have kk8 : g5.world.frozen? ⟨w.heap.size + 1 + 1, 1, none⟩ = false := c0.froz 1
  have kk9 : g5.world.frozen? ⟨w.heap.size + 1 + 1, 2, none⟩ = false := c0.froz 2
  have kk10 : g5.world.frozen? ⟨w.heap.size + 1 + 1, 3, none⟩ = false := c0.froz 3
  have kk11 : g5.world.frozen? ⟨w.heap.size + 1 + 1, 4, none⟩ = false := c0.froz 4
  have kk12 : g5.world.cell? ⟨w.heap.size + 1 + 1, 0, none⟩ = some (.int .u32 0) := c0.at 0 rfl
  have kk13 : g5.world.cell? ⟨w.heap.size + 1 + 1, 1, none⟩ = some (.int .u32 0) := c0.at 1 rfl
  have kk14 : g5.world.cell? ⟨w.heap.size + 1 + 1, 2, none⟩ = some (.int .i32 0) := c0.at 2 rfl
  have kk15 : g5.world.cell? ⟨w.heap.size + 1 + 1, 3, none⟩ = some (.int .i32 0) := c0.at 3 rfl
  have kk16 : g5.world.cell? ⟨w.heap.size + 1 + 1, 4, none⟩ = some (.int .i32 0) := c0.at 4 rfl
  go_wp2_with fail
  refine bodyPost_ret (v := .tuple #[.agg #[.int .u32 0, .int .u32 0, .int .i32 0, .int .i32 0, .int .i32 0], .bool false]) (ret_cells (w.heap.size + 1 + 1) #[.int .u32 0, .int .u32 0, .int .i32 0, .int .i32 0, .int .i32 0] 100 ?_ ?_) rfl ⟨rfl, (by repeat (first | with_reducible exact Below.refl _ _ | with_reducible refine bel_alloc ?_ _ | with_reducible refine bel_drewN ?_ _ | with_reducible refine bel_drew ?_ | with_reducible refine bel_grow ?_ _ | with_reducible refine bel_set ?_ (by first | omega | (simp; done) | (simp; omega)) _))⟩
  · have c0 : CellsAt g5.world (w.heap.size + 1 + 1) #[.int .u32 0, .int .u32 0, .int .i32 0, .int .i32 0, .int .i32 0] 100 := (by repeat (first | with_reducible exact CellsAt.newAt (by first | rfl | (simp; done) | omega) rfl | with_reducible refine CellsAt.alloc ?_ _ | with_reducible refine CellsAt.drewN ?_ _ | with_reducible refine CellsAt.drew ?_ | with_reducible refine CellsAt.grow ?_ _ | with_reducible refine CellsAt.far ?_ (by first | omega | (simp; done) | (simp; omega)) _))
    first
      | exact c0
      | exact ((((((c0.set 0 _).set 1 _).set 2 _).set 3 _).set 4 _)).eq (by simp)
  · intro W K
    have kk17 : W.cell? ⟨w.heap.size + 1 + 1, 0, none⟩ = some (.int .u32 0) := K.at 0 rfl
    have kk18 : W.cell? ⟨w.heap.size + 1 + 1, 1, none⟩ = some (.int .u32 0) := K.at 1 rfl
    have kk19 : W.cell? ⟨w.heap.size + 1 + 1, 2, none⟩ = some (.int .i32 0) := K.at 2 rfl
    have kk20 : W.cell? ⟨w.heap.size + 1 + 1, 3, none⟩ = some (.int .i32 0) := K.at 3 rfl
    have kk21 : W.cell? ⟨w.heap.size + 1 + 1, 4, none⟩ = some (.int .i32 0) := K.at 4 rfl
    simp [results, Tryz.results152, go_sem, *]
end Go.Proofs.YtnhaiecbjipodaaGreatDoor
