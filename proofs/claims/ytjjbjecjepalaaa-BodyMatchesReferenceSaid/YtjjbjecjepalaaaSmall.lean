/- The contracts of the small functions over bodies: the program's and the reference's. -/
import Derived.Test.YtjjbjecjepalaaaBody
import Derived.Deep.QuietTactic
import Derived.BigQuiet
import Derived.WalkSmall
namespace Go.Proofs.Ytjjbjecjepalaaa
open Go.RowKit

abbrev Body.arr (b : Body) : Array Value := #[.int .u32 b.key, .int .i32 b.radius, .int .i32 b.ax, .int .i32 b.ay, .int .i32 b.inv, .int .i32 b.bounce, .int .i32 b.px, .int .i32 b.py, .int .i32 b.vx, .int .i32 b.vy]
theorem new_ok {w : World} (o : Obj) : Below w.heap.size w (w.alloc o) := (Below.refl _ _).alloc (Nat.le_refl _) _
theorem bel_alloc {w W : World} (h : Below w.heap.size w W) (o : Obj) : Below w.heap.size w (W.alloc o) := h.alloc h.size o
theorem bel_drewN {w W : World} (h : Below w.heap.size w W) (n : Nat) : Below w.heap.size w (W.drewN n) := ⟨h.os, h.tape, h.output, h.size, h.block⟩
theorem bel_drew {w W : World} (h : Below w.heap.size w W) : Below w.heap.size w W.drew := ⟨h.os, h.tape, h.output, h.size, h.block⟩

set_option maxHeartbeats 400000 in
theorem isCircle_any (b : Body) (w : World) :
    Calls Try.prog 9 #[.agg b.cells] w fun e w' => e = .returned (.bool (b.ax == 0 && b.ay == 0)) ∧ Below w.heap.size w w' := by
  show Calls _ _ #[.agg b.arr] w _
  go_enter Try.func9, Try.ntmps9
  go_wp2
  all_goals
    go_ret
    exact ⟨by simp [*], new_ok _⟩
set_option maxHeartbeats 400000 in
theorem isStatic_any (b : Body) (w : World) :
    Calls Try.prog 10 #[.agg b.cells] w fun e w' => e = .returned (.bool (b.inv == 0)) ∧ Below w.heap.size w w' := by
  show Calls _ _ #[.agg b.arr] w _
  go_enter Try.func10, Try.ntmps10
  go_wp2
  go_ret
  exact ⟨rfl, new_ok _⟩
set_option maxHeartbeats 400000 in
theorem refFirst_any (b : Body) (w : World) :
    Calls Try.prog 13 #[.agg b.cells] w fun e w' => e = .returned (.agg #[.int .i32 (wrap32 (b.px - b.ax)), .int .i32 (wrap32 (b.py - b.ay))]) ∧ Below w.heap.size w w' := by
  show Calls _ _ #[.agg b.arr] w _
  go_enter Try.func13, Try.ntmps13
  go_wp2
  exact bodyPost_ret (v := .agg #[.int .i32 (wrap32 (b.px - b.ax)), .int .i32 (wrap32 (b.py - b.ay))]) (by simp [results, Try.results13, go_sem]) rfl ⟨rfl, bel_alloc (new_ok _) _⟩
set_option maxHeartbeats 400000 in
theorem refSecond_any (b : Body) (w : World) :
    Calls Try.prog 14 #[.agg b.cells] w fun e w' => e = .returned (.agg #[.int .i32 (wrap32 (b.px + b.ax)), .int .i32 (wrap32 (b.py + b.ay))]) ∧ Below w.heap.size w w' := by
  show Calls _ _ #[.agg b.arr] w _
  go_enter Try.func14, Try.ntmps14
  go_wp2
  exact bodyPost_ret (v := .agg #[.int .i32 (wrap32 (b.px + b.ax)), .int .i32 (wrap32 (b.py + b.ay))]) (by simp [results, Try.results14, go_sem]) rfl ⟨rfl, bel_alloc (new_ok _) _⟩
set_option maxHeartbeats 400000 in
theorem ends_any (b : Body) (w : World) :
    Calls Try.prog 11 #[.agg b.cells] w fun e w' => e = .returned (.tuple #[.agg #[.int .i32 (wrap32 (b.px - b.ax)), .int .i32 (wrap32 (b.py - b.ay))], .agg #[.int .i32 (wrap32 (b.px + b.ax)), .int .i32 (wrap32 (b.py + b.ay))]]) ∧ Below w.heap.size w w' := by
  show Calls _ _ #[.agg b.arr] w _
  go_enter Try.func11, Try.ntmps11
  go_wp2
  go_region
  all_goals go_wp2
  all_goals refine bodyPost_ret (v := .tuple #[.agg #[.int .i32 (wrap32 (b.px - b.ax)), .int .i32 (wrap32 (b.py - b.ay))], .agg #[.int .i32 (wrap32 (b.px + b.ax)), .int .i32 (wrap32 (b.py + b.ay))]]) (by simp [results, Try.results11, go_sem]) rfl ⟨rfl, bel_drew (bel_alloc (bel_alloc (new_ok _) _) _)⟩
set_option maxHeartbeats 400000 in
theorem abs_any (n : Int) (w : World) :
    Calls Try.prog 25 #[.int .i32 n] w fun e w' => e = .returned (.int .i32 (max n (wrap32 (-n)))) ∧ w' = w := by
  go_enter Try.func25, Try.ntmps25
  go_wp2
  all_goals
    go_ret
    exact ⟨ret_int (by omega), rfl⟩
set_option maxHeartbeats 400000 in
theorem extent_any (b : Body) (w : World) :
    Calls Try.prog 12 #[.agg b.cells] w fun e w' => e = .returned (.tuple #[.int .i32 (wrap32 (max b.ax (wrap32 (-b.ax)) + b.radius)), .int .i32 (wrap32 (max b.ay (wrap32 (-b.ay)) + b.radius))]) ∧ Below w.heap.size w w' := by
  show Calls _ _ #[.agg b.arr] w _
  go_enter Try.func12, Try.ntmps12
  go_wp2_with fail
  go_quiet ((go_at_call 25; exact Calls.quiet_of_same (abs_any _ _)))
  go_wp2
  go_ret2
  exact ⟨rfl, bel_drewN (new_ok _) _⟩
set_option maxHeartbeats 400000 in
theorem moved_any (b : Body) (x y : Int) (w : World) :
    Calls Try.prog 17 #[.agg b.cells, .agg #[.int .i32 x, .int .i32 y]] w fun e w' => e = .returned (.agg { b with px := wrap32 (b.px + x), py := wrap32 (b.py + y) }.cells) ∧ Below w.heap.size w w' := by
  show Calls _ _ #[.agg b.arr, _] w _
  go_enter Try.func17, Try.ntmps17
  go_wp2
  refine bodyPost_ret (v := .agg { b with px := wrap32 (b.px + x), py := wrap32 (b.py + y) }.cells) (by simp [results, Try.results17, go_sem, Body.cells]) rfl ⟨rfl, bel_alloc (bel_alloc (new_ok _) _) _⟩
set_option maxHeartbeats 400000 in
theorem refIn_any (n l : Int) (w : World) (h0 : 0 ≤ l) (h1 : l ≤ 2147483647) :
    Calls Try.prog 16 #[.int .i32 n, .int .i32 l] w fun e w' => e = .returned (.bool (inB n l)) ∧ w = w' := by
  by_cases h : -l ≤ n
  · go_enter Try.func16, Try.ntmps16
    go_wp2
    go_ret
    exact ⟨by simp [inB, *], rfl⟩
  · go_enter Try.func16, Try.ntmps16
    go_wp2
    go_ret
    exact ⟨by simp [inB, *]; omega, rfl⟩

set_option maxHeartbeats 4000000 in
theorem refCheck_any (b : Body) (w : World) :
    Calls Try.prog 7 #[.agg b.cells] w fun e w' => e = .returned (.int .i64 (errOf b)) ∧ Below w.heap.size w w' := by
  show Calls _ _ #[.agg b.arr] w _
  go_enter Try.func7, Try.ntmps7
  go_wp2_with (first | (go_at_call 16; refine (refIn_any _ _ _ (by omega) (by omega)).mono ?_; rintro e w' ⟨rfl, rfl⟩))
  all_goals
    go_ret
    refine ⟨ret_int ?_, new_ok _⟩
    simp only [errOf, okRadius, okAxis, okMass, okBounce, okPlace, okSpeed, okVec]
    simp only [inB, Bool.and_eq_true, Bool.not_eq_true', decide_eq_true_eq, Bool.and_eq_false_iff, decide_eq_false_iff_not, Bool.not_eq_false'] at *
    repeat' split
    all_goals omega
end Go.Proofs.Ytjjbjecjepalaaa
