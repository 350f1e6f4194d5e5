/- The walk of BodyMirrors: from the contracts of what it calls to its answer. -/
import Derived.Test.YtjjbjecjepalaaaLaw05
import Derived.Test.YtjjbjecjepalaaaGrow
namespace Go.Proofs.Ytjjbjecjepalaaa
open Go.RowKit
attribute [local go_sem] Grow.cell Grow.froz Grow.lt

set_option maxHeartbeats 4000000 in
theorem mirrors_any (k r ax ay m o px py vx vy key : Int) (w : World) (hE : errOf ⟨k, r, ax, ay, m, o, px, py, vx, vy⟩ = 0) (hF : errOf ⟨key, r, wrap32 (-ax), wrap32 (-ay), m, o, wrap32 (-px), wrap32 (-py), wrap32 (-vx), wrap32 (-vy)⟩ = 0)
    (hX : (wrap32 (max ax (wrap32 (-ax)) + r) == wrap32 (max (wrap32 (-ax)) (wrap32 (-wrap32 (-ax))) + r)) = true) (hY : (wrap32 (max ay (wrap32 (-ay)) + r) == wrap32 (max (wrap32 (-ay)) (wrap32 (-wrap32 (-ay))) + r)) = true)
    (hC : ((wrap32 (-ax) == 0 && wrap32 (-ay) == 0) == (ax == 0 && ay == 0)) = true) :
    Calls Try.prog 5 #[.agg #[.int .u32 k, .int .i32 r, .int .i32 ax, .int .i32 ay, .int .i32 m, .int .i32 o, .int .i32 px, .int .i32 py, .int .i32 vx, .int .i32 vy], .int .u32 key] w fun e w' => e = .returned (.bool true) ∧ Below w.heap.size w w' := by
  go_enter Try.func5, Try.ntmps5
  go_wp2_with fail
  refine (awake_any _).mono ?_
  rintro e w1 ⟨rfl, hb⟩
  obtain ⟨g1, rfl⟩ := Grow.of hb
  have l1 : w.heap.size < g1.world.heap.size := Nat.lt_of_lt_of_le (by simp) g1.le
  clear hb
  go_wp2_with fail
  refine (refCheck_fl _ _ _ _ _ _ _ _ _ _ _).mono ?_
  rintro e w1 ⟨rfl, hb⟩
  obtain ⟨g2, rfl⟩ := Grow.of hb
  have l2 : w.heap.size < g2.world.heap.size := Nat.lt_of_lt_of_le l1 g2.le
  clear hb
  go_wp2_with fail
  refine (extent_fl _ _ _ _ _ _ _ _ _ _ _).mono ?_
  rintro e w1 ⟨rfl, hb⟩
  obtain ⟨g3, rfl⟩ := Grow.of hb
  have l3 : w.heap.size < g3.world.heap.size := Nat.lt_of_lt_of_le (by simp; omega) g3.le
  have m3 : g2.world.heap.size < g3.world.heap.size := Nat.lt_of_lt_of_le (by simp) g3.le
  clear hb
  go_wp2_with fail
  refine (extent_fl _ _ _ _ _ _ _ _ _ _ _).mono ?_
  rintro e w1 ⟨rfl, hb⟩
  obtain ⟨g4, rfl⟩ := Grow.of hb
  have l4 : w.heap.size < g4.world.heap.size := Nat.lt_of_lt_of_le l3 g4.le
  have m4 : g2.world.heap.size < g4.world.heap.size := Nat.lt_of_lt_of_le m3 g4.le
  clear hb
  go_wp2_with fail
  refine wp_region_grow (by kernel_rfl) (by kernel_rfl) ?_
  repeat (first | go_big_quiet_skip | (go_big_quiet_want; go_big_quiet_op; first | go_big_quiet_on | (go_big_quiet_call (first
    | (go_at_call 8; exact Calls.grow_of (check_fl _ _ _ _ _ _ _ _ _ _ _))
    | (go_at_call 9; exact Calls.grow_of (isCircle_fl _ _ _ _ _ _ _ _ _ _ _))))))
  refine wpQuiet_nil ?_
  rintro _ ⟨g5, rfl⟩
  go_wp2
  go_ret
  exact ⟨rfl, bel_grow (bel_grow (bel_grow (bel_alloc (bel_grow (bel_grow (new_ok _) g1) g2) _) g3) g4) g5⟩

set_option maxHeartbeats 4000000 in
theorem mirrors_not (k r ax ay m o px py vx vy key : Int) (w : World) (hE : (errOf ⟨k, r, ax, ay, m, o, px, py, vx, vy⟩ == 0) = false) :
    Calls Try.prog 5 #[.agg #[.int .u32 k, .int .i32 r, .int .i32 ax, .int .i32 ay, .int .i32 m, .int .i32 o, .int .i32 px, .int .i32 py, .int .i32 vx, .int .i32 vy], .int .u32 key] w fun e w' => e = .returned (.bool true) ∧ Below w.heap.size w w' := by
  go_enter Try.func5, Try.ntmps5
  go_wp2_with fail
  refine (awake_any _).mono ?_
  rintro e w1 ⟨rfl, hb⟩
  obtain ⟨g1, rfl⟩ := Grow.of hb
  have l1 : w.heap.size < g1.world.heap.size := Nat.lt_of_lt_of_le (by simp) g1.le
  clear hb
  go_wp2_with fail
  refine (refCheck_fl _ _ _ _ _ _ _ _ _ _ _).mono ?_
  rintro e w1 ⟨rfl, hb⟩
  obtain ⟨g2, rfl⟩ := Grow.of hb
  clear hb
  go_wp2_with fail
  refine (awake_any _).mono ?_
  rintro e w1 ⟨rfl, hb⟩
  obtain ⟨g3, rfl⟩ := Grow.of hb
  clear hb
  go_wp2_with fail
  go_ret
  exact ⟨rfl, bel_grow (bel_grow (bel_grow (new_ok _) g1) g2) g3⟩
end Go.Proofs.Ytjjbjecjepalaaa
