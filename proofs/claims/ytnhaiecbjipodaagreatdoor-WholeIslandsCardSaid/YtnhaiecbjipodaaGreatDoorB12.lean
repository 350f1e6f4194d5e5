/- The contract of contact.Of where two bodies touch. -/
import Derived.Test.YtnhaiecbjipodaaGreatDoorB10
namespace Go.Proofs.YtnhaiecbjipodaaGreatDoor
open Go.RowKit
attribute [local go_sem] Grow.cell Grow.froz Grow.lt lt_s1 lt_s2 lt_s3 lt_s4 lt_s5

set_option maxRecDepth 100000 in
set_option maxHeartbeats 4000000 in
theorem contactYes_any (a b : Body) (w : World) (ha : Placed a) (hb : Placed b) (hk : a.key < b.key) (ht : touchI a b = true) : Calls Tryz.prog 152 #[.agg a.arr, .agg b.arr] w fun e w' => e = .returned (.tuple #[.agg #[.int .u32 (conOf a b).lo, .int .u32 (conOf a b).hi, .int .i32 (conOf a b).nx, .int .i32 (conOf a b).ny, .int .i32 (conOf a b).dep], .bool true]) ∧ Below w.heap.size w w' := by
  have HI := fun w => inOrder_any a b w ha hb hk
  have HM := fun w => measure_any a b w ha hb
  obtain ⟨⟨g0, g1⟩, g2, g3⟩ := gap_bd ha hb
  have HL := fun w => lengthSq_any (gapX a b) (gapY a b) w g0 g1 g2 g3
  have HU := fun w => unit_any (gapX a b) (gapY a b) w g0 g1 g2 g3
  have HN := fun w => (length_any (gapX a b) (gapY a b) w g0 g1 g2 g3).mono (R' := fun e w' => e = .returned (.int .i64 (lengthI (gapX a b) (gapY a b))) ∧ Below w.heap.size w w') (fun _ _ ⟨h1, h2⟩ => ⟨h1, by subst h2; exact Below.refl _ _⟩)
  obtain ⟨r0, r1⟩ := ha.radius
  obtain ⟨r2, r3⟩ := hb.radius
  have hq := mul_abs (x := a.radius + b.radius) (y := a.radius + b.radius) (X := 8388608) (Y := 8388608) (by omega) (by omega) (by omega) (by omega)
  have hlt := (touch_iff a b).1 ht
  obtain ⟨l0, l1⟩ := lenSq_bd g0 g1 g2 g3
  have hlb := isqrtI_bounds l0 (by omega)
  have hc : conOf a b = ⟨a.key, b.key, (unitI (gapX a b) (gapY a b)).1, (unitI (gapX a b) (gapY a b)).2, wrap32 (a.radius + b.radius - lengthI (gapX a b) (gapY a b))⟩ := rfl
  have hll : isqrtI (lenSqI (gapX a b) (gapY a b)) = lengthI (gapX a b) (gapY a b) := rfl
  rw [hll] at hlb
  rw [hc]
  clear hc hll
  generalize gapX a b = X at *
  generalize gapY a b = Y at *
  generalize lenSqI X Y = D at *
  generalize lengthI X Y = L at *
  generalize unitI X Y = U at *
  obtain ⟨q0, q1⟩ := hq
  obtain ⟨l2, l3⟩ := hlb
  clear ha hb ht
  go_enter Tryz.func152, Tryz.ntmps152
  go_wp2_with fail
  refine (HI _).mono ?_
  rintro e w1 ⟨rfl, hb⟩
  obtain ⟨g4, rfl⟩ := Grow.of hb
  clear hb
  have zz1 : w.heap.size < g4.world.heap.size := Nat.lt_of_lt_of_le (by first | omega | (simp; done) | (simp; omega)) g4.le
  have zz2 : w.heap.size + 1 < g4.world.heap.size := Nat.lt_of_lt_of_le (by first | omega | (simp; done) | (simp; omega)) g4.le
  have zz3 : w.heap.size + 1 + 1 < g4.world.heap.size := Nat.lt_of_lt_of_le (by first | omega | (simp; done) | (simp; omega)) g4.le
  go_wp2_with fail
  refine (HM _).mono ?_
  rintro e w1 ⟨rfl, hb⟩
  obtain ⟨g5, rfl⟩ := Grow.of hb
  clear hb
  have zz4 : w.heap.size + 1 + 1 < g5.world.heap.size := Nat.lt_of_lt_of_le (by first | omega | (simp; done) | (simp; omega)) g5.le
  have zz5 : g4.world.heap.size < g5.world.heap.size := Nat.lt_of_lt_of_le (by first | omega | (simp; done) | (simp; omega)) g5.le
  have zz6 : g4.world.heap.size + 1 < g5.world.heap.size := Nat.lt_of_lt_of_le (by first | omega | (simp; done) | (simp; omega)) g5.le
  go_wp2_with fail
  refine (HL _).mono ?_
  rintro e w' ⟨rfl, rfl⟩
  go_wp2_with fail
  refine wp_region_grow_tail 11 (by kernel_rfl) (by kernel_rfl) ?_
  simp only [List.take_succ_cons, List.take_zero]
  repeat (first | go_big_quiet_skip | (go_big_quiet_want; go_big_quiet_op; first | go_big_quiet_on | (go_big_quiet_call (first
      | (go_at_call 183; exact Calls.grow_of (HU _))
      | (go_at_call 184; exact Calls.grow_of (HN _))))))
  refine wpQuiet_nil ?_
  rintro _ ⟨g6, rfl⟩
  simp only [List.drop_succ_cons, List.drop_zero]
  have zz7 : w.heap.size + 1 + 1 < g6.world.heap.size := Nat.lt_of_lt_of_le (by first | omega | (simp; done) | (simp; omega)) g6.le
  have c0 : CellsAt g6.world (w.heap.size + 1 + 1) #[.int .u32 0, .int .u32 0, .int .i32 0, .int .i32 0, .int .i32 0] 100 := (by repeat (first | with_reducible exact CellsAt.newAt (by first | rfl | (simp; done) | omega) rfl | with_reducible refine CellsAt.alloc ?_ _ | with_reducible refine CellsAt.drewN ?_ _ | with_reducible refine CellsAt.drew ?_ | with_reducible refine CellsAt.grow ?_ _ | with_reducible refine CellsAt.far ?_ (by first | omega | (simp; done) | (simp; omega)) _))
  have kk8 : g6.world.frozen? ⟨w.heap.size + 1 + 1, 0, none⟩ = false := c0.froz 0
  have kk9 : g6.world.frozen? ⟨w.heap.size + 1 + 1, 1, none⟩ = false := c0.froz 1
  have kk10 : g6.world.frozen? ⟨w.heap.size + 1 + 1, 2, none⟩ = false := c0.froz 2
  have kk11 : g6.world.frozen? ⟨w.heap.size + 1 + 1, 3, none⟩ = false := c0.froz 3
  have kk12 : g6.world.frozen? ⟨w.heap.size + 1 + 1, 4, none⟩ = false := c0.froz 4
  have kk13 : g6.world.cell? ⟨w.heap.size + 1 + 1, 0, none⟩ = some (.int .u32 0) := c0.at 0 rfl
  have kk14 : g6.world.cell? ⟨w.heap.size + 1 + 1, 1, none⟩ = some (.int .u32 0) := c0.at 1 rfl
  have kk15 : g6.world.cell? ⟨w.heap.size + 1 + 1, 2, none⟩ = some (.int .i32 0) := c0.at 2 rfl
  have kk16 : g6.world.cell? ⟨w.heap.size + 1 + 1, 3, none⟩ = some (.int .i32 0) := c0.at 3 rfl
  have kk17 : g6.world.cell? ⟨w.heap.size + 1 + 1, 4, none⟩ = some (.int .i32 0) := c0.at 4 rfl
  go_wp2_with fail
  refine bodyPost_ret (v := .tuple #[.agg #[.int .u32 a.key, .int .u32 b.key, .int .i32 U.1, .int .i32 U.2, .int .i32 (wrap32 (a.radius + b.radius - L))], .bool true]) (ret_cells (w.heap.size + 1 + 1) #[.int .u32 a.key, .int .u32 b.key, .int .i32 U.1, .int .i32 U.2, .int .i32 (wrap32 (a.radius + b.radius - L))] 100 ?_ ?_) rfl ⟨rfl, (by repeat (first | with_reducible exact Below.refl _ _ | with_reducible refine bel_alloc ?_ _ | with_reducible refine bel_drewN ?_ _ | with_reducible refine bel_drew ?_ | with_reducible refine bel_grow ?_ _ | with_reducible refine bel_set ?_ (by first | omega | (simp; done) | (simp; omega)) _))⟩
  · exact ((((((c0.set 0 _).set 1 _).set 2 _).set 3 _).set 4 _)).eq (by simp)
  · intro W K
    have kk18 : W.cell? ⟨w.heap.size + 1 + 1, 0, none⟩ = some (.int .u32 a.key) := K.at 0 rfl
    have kk19 : W.cell? ⟨w.heap.size + 1 + 1, 1, none⟩ = some (.int .u32 b.key) := K.at 1 rfl
    have kk20 : W.cell? ⟨w.heap.size + 1 + 1, 2, none⟩ = some (.int .i32 U.1) := K.at 2 rfl
    have kk21 : W.cell? ⟨w.heap.size + 1 + 1, 3, none⟩ = some (.int .i32 U.2) := K.at 3 rfl
    have kk22 : W.cell? ⟨w.heap.size + 1 + 1, 4, none⟩ = some (.int .i32 (wrap32 (a.radius + b.radius - L))) := K.at 4 rfl
    simp [results, Tryz.results152, go_sem, *]
end Go.Proofs.YtnhaiecbjipodaaGreatDoor
