/- The contract of the reference's Check of a body. -/
import Derived.Test.YtlibkfjafhggkaaRows
import Derived.Test.YtlibkfjafhggkaaData
import Derived.Test.YtlibkfjafhggkaaGrow
import Derived.WalkKit
import Derived.WalkSpells
import Derived.WalkLawsBesides
import Derived.Lib.Hide
namespace Go.Proofs.Ytlibkfjafhggkaa
open Go.RowKit

set_option maxHeartbeats 400000 in
theorem refIn_any (n l : Int) (w : World) (h0 : 0 ≤ l) (h1 : l ≤ 2147483647) :
    Calls Try.prog 32 #[.int .i32 n, .int .i32 l] w fun e w' => e = .returned (.bool (inB n l)) ∧ w = w' := by
  by_cases h : -l ≤ n
  · go_enter Try.func32, Try.ntmps32
    go_wp2
    go_ret
    exact ⟨by simp [inB, *], rfl⟩
  · go_enter Try.func32, Try.ntmps32
    go_wp2
    go_ret
    exact ⟨by simp [inB, *]; omega, rfl⟩

set_option maxHeartbeats 4000000 in
theorem refCheck_any (b : Body) (w : World) :
    Calls Try.prog 30 #[.agg b.cells] w fun e w' => e = .returned (.int .i64 (errOf b)) ∧ Below w.heap.size w w' := by
  show Calls _ _ #[.agg b.arr] w _
  go_enter Try.func30, Try.ntmps30
  go_wp2_with (first | (go_at_call 32; refine (refIn_any _ _ _ (by omega) (by omega)).mono ?_; rintro e w' ⟨rfl, rfl⟩))
  all_goals
    go_ret
    refine ⟨ret_int ?_, new_ok _⟩
    simp only [errOf, okRadius, okAxis, okMass, okBounce, okPlace, okSpeed, okVec]
    simp only [inB, Bool.and_eq_true, Bool.not_eq_true', decide_eq_true_eq, Bool.and_eq_false_iff, decide_eq_false_iff_not, Bool.not_eq_false'] at *
    repeat' split
    all_goals omega
section
variable (k r ax ay m o px py vx vy : Int) (w : World)
theorem refCheck_fl : Calls Try.prog 30 #[.agg #[.int .u32 k, .int .i32 r, .int .i32 ax, .int .i32 ay, .int .i32 m, .int .i32 o, .int .i32 px, .int .i32 py, .int .i32 vx, .int .i32 vy]] w fun e w' => e = .returned (.int .i64 (errOf ⟨k, r, ax, ay, m, o, px, py, vx, vy⟩)) ∧ Below w.heap.size w w' := refCheck_any ⟨k, r, ax, ay, m, o, px, py, vx, vy⟩ w
end
end Go.Proofs.Ytlibkfjafhggkaa
