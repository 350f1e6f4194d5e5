/- The walk of BodyMatchesReference: from the contracts of what it calls to its answer. -/
import Derived.Test.YtjjbjecjepalaaaChk05
namespace Go.Proofs.Ytjjbjecjepalaaa
open Go.RowKit
attribute [local go_sem] Grow.cell Grow.froz Grow.lt

section
variable (k r ax ay m o px py vx vy : Int) (w : World)
theorem refFirst_fl : Calls Try.prog 13 #[.agg #[.int .u32 k, .int .i32 r, .int .i32 ax, .int .i32 ay, .int .i32 m, .int .i32 o, .int .i32 px, .int .i32 py, .int .i32 vx, .int .i32 vy]] w fun e w' => e = .returned (.agg #[.int .i32 (wrap32 (px - ax)), .int .i32 (wrap32 (py - ay))]) ∧ Below w.heap.size w w' := refFirst_any ⟨k, r, ax, ay, m, o, px, py, vx, vy⟩ w
theorem refSecond_fl : Calls Try.prog 14 #[.agg #[.int .u32 k, .int .i32 r, .int .i32 ax, .int .i32 ay, .int .i32 m, .int .i32 o, .int .i32 px, .int .i32 py, .int .i32 vx, .int .i32 vy]] w fun e w' => e = .returned (.agg #[.int .i32 (wrap32 (px + ax)), .int .i32 (wrap32 (py + ay))]) ∧ Below w.heap.size w w' := refSecond_any ⟨k, r, ax, ay, m, o, px, py, vx, vy⟩ w
end
set_option maxHeartbeats 400000 in
theorem refAbs_any (n : Int) (w : World) (h0 : -2147483647 ≤ n) (h1 : n ≤ 2147483647) :
    Calls Try.prog 15 #[.int .i32 n] w fun e w' => e = .returned (.int .i32 (max n (wrap32 (-n)))) ∧ Below w.heap.size w w' := by
  have HW := Lib.hid (w32 (n := -n) (by omega))
  go_enter Try.func15, Try.ntmps15
  go_wp2
  all_goals
    go_ret
    have := HW.out
    exact ⟨ret_int (by omega), Below.refl _ _⟩

set_option maxHeartbeats 8000000 in
theorem matches_walk (c : Bool) (k r ax ay m o px py vx vy x y : Int) (w : World) (hE : errOf ⟨k, r, ax, ay, m, o, px, py, vx, vy⟩ = 0) (hA : (ax == 0) = c) (b0 : -4194304 ≤ ax) (b1 : ax ≤ 4194304) (b2 : -4194304 ≤ ay) (b3 : ay ≤ 4194304) :
    Calls Try.prog 3 #[.agg #[.int .u32 k, .int .i32 r, .int .i32 ax, .int .i32 ay, .int .i32 m, .int .i32 o, .int .i32 px, .int .i32 py, .int .i32 vx, .int .i32 vy], .agg #[.int .i32 x, .int .i32 y]] w fun e w' => e = .returned (.bool true) ∧ Below w.heap.size w w' := by
  have wr : ∀ n, IntKind.i32.wrap n = wrap32 n := fun n => by simp [wrap32, IntKind.wrap_i32]
  go_enter Try.func3, Try.ntmps3
  go_wp2_with fail
  refine (awake_any _).mono ?_
  rintro e w1 ⟨rfl, hb⟩
  obtain ⟨g1, rfl⟩ := Grow.of hb
  have l1 : w.heap.size < g1.world.heap.size := Nat.lt_of_lt_of_le (by simp; omega) g1.le
  have m1 : w.heap.size + 1 < g1.world.heap.size := Nat.lt_of_lt_of_le (by simp) g1.le
  clear hb
  go_wp2_with fail
  refine (refCheck_fl _ _ _ _ _ _ _ _ _ _ _).mono ?_
  rintro e w1 ⟨rfl, hb⟩
  obtain ⟨g2, rfl⟩ := Grow.of hb
  have l2 : w.heap.size < g2.world.heap.size := Nat.lt_of_lt_of_le l1 g2.le
  have m2 : w.heap.size + 1 < g2.world.heap.size := Nat.lt_of_lt_of_le m1 g2.le
  clear hb
  go_wp2_with fail
  cases c
  all_goals
    refine wp_region_grow (by kernel_rfl) (by kernel_rfl) ?_
    repeat (first | go_big_quiet_skip | (go_big_quiet_want; go_big_quiet_op; first | go_big_quiet_on | (go_big_quiet_call (first
      | (go_at_call 8; exact Calls.grow_of (check_fl _ _ _ _ _ _ _ _ _ _ _))
      | (go_at_call 9; exact Calls.grow_of (isCircle_fl _ _ _ _ _ _ _ _ _ _ _))
      | (go_at_call 10; exact Calls.grow_of (isStatic_fl _ _ _ _ _ _ _ _ _ _ _))))))
    refine wpQuiet_nil ?_
    rintro _ ⟨g3, rfl⟩
    have l3 : w.heap.size < g3.world.heap.size := Nat.lt_of_lt_of_le l2 g3.le
    have m3 : w.heap.size + 1 < g3.world.heap.size := Nat.lt_of_lt_of_le m2 g3.le
    go_wp2_with fail
    refine (ends_fl _ _ _ _ _ _ _ _ _ _ _).mono ?_
    rintro e w1 ⟨rfl, hb⟩
    obtain ⟨g4, rfl⟩ := Grow.of hb
    have l4 : w.heap.size < g4.world.heap.size := Nat.lt_of_lt_of_le l3 g4.le
    have m4 : w.heap.size + 1 < g4.world.heap.size := Nat.lt_of_lt_of_le m3 g4.le
    clear hb
    go_wp2_with fail
    have q1 : w.heap.size < g4.world.heap.size + 1 + 1 := by omega
    have q2 : w.heap.size < g4.world.heap.size + 1 := by omega
    refine (extent_fl _ _ _ _ _ _ _ _ _ _ _).mono ?_
    rintro e w1 ⟨rfl, hb⟩
    obtain ⟨g5, rfl⟩ := Grow.of hb
    have l5 : w.heap.size < g5.world.heap.size := Nat.lt_of_lt_of_le (by simp; omega) g5.le
    have m5 : w.heap.size + 1 < g5.world.heap.size := Nat.lt_of_lt_of_le (by simp; omega) g5.le
    have n5 : g4.world.heap.size < g5.world.heap.size := Nat.lt_of_lt_of_le (by simp; omega) g5.le
    have o5 : g4.world.heap.size + 1 < g5.world.heap.size := Nat.lt_of_lt_of_le (by simp) g5.le
    clear hb
    go_wp2_with fail
    refine wp_region_grow (by kernel_rfl) (by kernel_rfl) ?_
    repeat (first | go_big_quiet_skip | (go_big_quiet_want; go_big_quiet_op; first | go_big_quiet_on | (go_big_quiet_call (first
      | (go_at_call 13; exact Calls.grow_of (refFirst_fl _ _ _ _ _ _ _ _ _ _ _))
      | (go_at_call 14; exact Calls.grow_of (refSecond_fl _ _ _ _ _ _ _ _ _ _ _))
      | (go_at_call 15; exact Calls.grow_of (refAbs_any _ _ (by omega) (by omega)))))))
    refine wpQuiet_nil ?_
    rintro _ ⟨g6, rfl⟩
    have l6 : w.heap.size < g6.world.heap.size := Nat.lt_of_lt_of_le l5 g6.le
    have m6 : w.heap.size + 1 < g6.world.heap.size := Nat.lt_of_lt_of_le m5 g6.le
    have c6 : Below w.heap.size w g6.world := bel_grow (bel_grow (bel_alloc (bel_alloc (bel_grow (bel_grow (bel_grow (bel_grow (bel_alloc (new_ok (w := w) _) _) g1) g2) g3) g4) _) _) g5) g6
    have q3 : w.heap.size < g6.world.heap.size + 1 := by omega
    go_wp2_with (go_at_call 16; refine (refIn_any _ _ _ (by omega) (by omega)).mono ?_; rintro e w3 ⟨rfl, rfl⟩)
    all_goals first
      | (go_ret; exact ⟨rfl, c6⟩)
      | (refine wp_region_grow (by kernel_rfl) (by kernel_rfl) ?_
         repeat (first | go_big_quiet_skip | (go_big_quiet_want; go_big_quiet_op; first | go_big_quiet_on | (go_big_quiet_call ((go_at_call 17; exact Calls.grow_of (moved_fl _ _ _ _ _ _ _ _ _ _ _ _ _))))))
         refine wpQuiet_nil ?_
         rintro _ ⟨g7, rfl⟩
         go_wp2_with fail
         go_ret
         exact ⟨rfl, bel_grow (bel_alloc c6 _) g7⟩)

set_option maxHeartbeats 8000000 in
theorem matches_not (c : Bool) (k r ax ay m o px py vx vy x y : Int) (w : World) (hE : (errOf ⟨k, r, ax, ay, m, o, px, py, vx, vy⟩ == 0) = false) (hA : (ax == 0) = c) :
    Calls Try.prog 3 #[.agg #[.int .u32 k, .int .i32 r, .int .i32 ax, .int .i32 ay, .int .i32 m, .int .i32 o, .int .i32 px, .int .i32 py, .int .i32 vx, .int .i32 vy], .agg #[.int .i32 x, .int .i32 y]] w fun e w' => e = .returned (.bool true) ∧ Below w.heap.size w w' := by
  go_enter Try.func3, Try.ntmps3
  go_wp2_with fail
  refine (awake_any _).mono ?_
  rintro e w1 ⟨rfl, hb⟩
  obtain ⟨g1, rfl⟩ := Grow.of hb
  have l1 : w.heap.size < g1.world.heap.size := Nat.lt_of_lt_of_le (by simp; omega) g1.le
  have m1 : w.heap.size + 1 < g1.world.heap.size := Nat.lt_of_lt_of_le (by simp) g1.le
  clear hb
  go_wp2_with fail
  refine (refCheck_fl _ _ _ _ _ _ _ _ _ _ _).mono ?_
  rintro e w1 ⟨rfl, hb⟩
  obtain ⟨g2, rfl⟩ := Grow.of hb
  have l2 : w.heap.size < g2.world.heap.size := Nat.lt_of_lt_of_le l1 g2.le
  have m2 : w.heap.size + 1 < g2.world.heap.size := Nat.lt_of_lt_of_le m1 g2.le
  clear hb
  go_wp2_with fail
  cases c
  all_goals
    refine wp_region_grow (by kernel_rfl) (by kernel_rfl) ?_
    repeat (first | go_big_quiet_skip | (go_big_quiet_want; go_big_quiet_op; first | go_big_quiet_on | (go_big_quiet_call (first
      | (go_at_call 8; exact Calls.grow_of (check_fl _ _ _ _ _ _ _ _ _ _ _))
      | (go_at_call 9; exact Calls.grow_of (isCircle_fl _ _ _ _ _ _ _ _ _ _ _))
      | (go_at_call 10; exact Calls.grow_of (isStatic_fl _ _ _ _ _ _ _ _ _ _ _))))))
    refine wpQuiet_nil ?_
    rintro _ ⟨g3, rfl⟩
    go_wp2_with fail
    go_ret
    exact ⟨rfl, bel_grow (bel_grow (bel_grow (bel_alloc (new_ok _) _) g1) g2) g3⟩

theorem matches_all (b : Body) (_ : b.Fit) (x y : Int) (_ : I32 x) (_ : I32 y) (w : World) :
    Calls Try.prog 3 #[.agg b.cells, .agg #[.int .i32 x, .int .i32 y]] w fun e w' => e = .returned (.bool true) ∧ Below w.heap.size w w' := by
  by_cases hE : errOf b = 0
  · have hz := errOf_zero.1 hE
    exact matches_walk _ b.key b.radius b.ax b.ay b.inv b.bounce b.px b.py b.vx b.vy x y w hE rfl (by omega) (by omega) (by omega) (by omega)
  · exact matches_not _ b.key b.radius b.ax b.ay b.inv b.bounce b.px b.py b.vx b.vy x y w (by simpa using hE) rfl
end Go.Proofs.Ytjjbjecjepalaaa
