/- The walk of BodyChecks: from the contracts of what it calls to its answer. -/
import Derived.Test.YtjjbjecjepalaaaLaw05
import Derived.Test.YtjjbjecjepalaaaGrow
namespace Go.Proofs.Ytjjbjecjepalaaa
open Go.RowKit
attribute [local go_sem] Grow.cell Grow.froz Grow.lt

theorem ret_bool {a b : Bool} (h : a = b) : Ending.returned (.bool a) = .returned (.bool b) := by rw [h]

set_option maxHeartbeats 4000000 in
theorem checks_walk (k r ax ay m o px py vx vy p n : Int) (w : World) (hE : errOf ⟨k, r, ax, ay, m, o, px, py, vx, vy⟩ = 0) (hp0 : 0 ≤ p) (hp1 : p ≤ 255) :
    Calls Try.prog 4 #[.agg #[.int .u32 k, .int .i32 r, .int .i32 ax, .int .i32 ay, .int .i32 m, .int .i32 o, .int .i32 px, .int .i32 py, .int .i32 vx, .int .i32 vy], .int .u8 p, .int .i32 n] w fun e w' => e = .returned (.bool true) ∧ Below w.heap.size w w' := by
  have HE := Lib.hid hE
  go_enter Try.func4, Try.ntmps4
  go_wp2_with fail
  refine (awake_any _).mono ?_
  rintro e w1 ⟨rfl, hb⟩
  obtain ⟨g1, rfl⟩ := Grow.of hb
  have l1 : w.heap.size < g1.world.heap.size := Nat.lt_of_lt_of_le (by simp) g1.le
  clear hb
  go_wp2_with fail
  refine (refCheck_fl _ _ _ _ _ _ _ _ _ _ _).mono ?_
  rintro e w1 ⟨rfl, hb⟩
  obtain ⟨g2, rfl⟩ := Grow.of hb
  have l2 : w.heap.size < g2.world.heap.size := Nat.lt_of_lt_of_le l1 g2.le
  clear hb
  go_wp2_with (go_at_call 16; refine (refIn_any _ _ _ (by omega) (by omega)).mono ?_; rintro e w3 ⟨rfl, rfl⟩)
  all_goals
    refine (check_fl _ _ _ _ _ _ _ _ _ _ _).mono ?_
    rintro e w4 ⟨rfl, hb⟩
    obtain ⟨g4, rfl⟩ := Grow.of hb
    go_wp2_with fail
    go_ret
    refine ⟨ret_bool ?_, bel_grow (bel_alloc (bel_grow (bel_grow (new_ok _) g1) g2) _) g4⟩
    have hE' := errOf_zero.1 HE.out
    clear hb
    simp only [inB, Bool.and_eq_true, Bool.not_eq_true', decide_eq_true_eq, Bool.and_eq_false_iff, decide_eq_false_iff_not, Bool.not_eq_false'] at *
    rw [beq_iff_eq]
    simp only [errOf, okRadius, okAxis, okMass, okBounce, okPlace, okSpeed, okVec, Bool.and_eq_false_iff, decide_eq_false_iff_not]
    repeat' split
    all_goals omega

set_option maxHeartbeats 4000000 in
theorem checks_not (k r ax ay m o px py vx vy p n : Int) (w : World) (hE : (errOf ⟨k, r, ax, ay, m, o, px, py, vx, vy⟩ == 0) = false) :
    Calls Try.prog 4 #[.agg #[.int .u32 k, .int .i32 r, .int .i32 ax, .int .i32 ay, .int .i32 m, .int .i32 o, .int .i32 px, .int .i32 py, .int .i32 vx, .int .i32 vy], .int .u8 p, .int .i32 n] w fun e w' => e = .returned (.bool true) ∧ Below w.heap.size w w' := by
  go_enter Try.func4, Try.ntmps4
  go_wp2_with fail
  refine (awake_any _).mono ?_
  rintro e w1 ⟨rfl, hb⟩
  obtain ⟨g1, rfl⟩ := Grow.of hb
  have l1 : w.heap.size < g1.world.heap.size := Nat.lt_of_lt_of_le (by simp) g1.le
  clear hb
  go_wp2_with fail
  refine (refCheck_fl _ _ _ _ _ _ _ _ _ _ _).mono ?_
  rintro e w1 ⟨rfl, hb⟩
  obtain ⟨g2, rfl⟩ := Grow.of hb
  clear hb
  go_wp2_with fail
  refine (awake_any _).mono ?_
  rintro e w1 ⟨rfl, hb⟩
  obtain ⟨g3, rfl⟩ := Grow.of hb
  clear hb
  go_wp2_with fail
  go_ret
  exact ⟨rfl, bel_grow (bel_grow (bel_grow (new_ok _) g1) g2) g3⟩

theorem checks_all (b : Body) (_ : b.Fit) (p : Int) (hp : (Lit.int .u8 p).wf = true) (n : Int) (_ : (Lit.int .i32 n).wf = true) (w : World) :
    Calls Try.prog 4 #[.agg b.cells, .int .u8 p, .int .i32 n] w fun e w' => e = .returned (.bool true) ∧ Below w.heap.size w w' := by
  by_cases hE : errOf b = 0
  · simp only [Lit.wf, Bool.and_eq_true, decide_eq_true_eq] at hp
    exact checks_walk b.key b.radius b.ax b.ay b.inv b.bounce b.px b.py b.vx b.vy p n w hE hp.1 hp.2
  · exact checks_not b.key b.radius b.ax b.ay b.inv b.bounce b.px b.py b.vx b.vy p n w (by simpa using hE)
end Go.Proofs.Ytjjbjecjepalaaa
