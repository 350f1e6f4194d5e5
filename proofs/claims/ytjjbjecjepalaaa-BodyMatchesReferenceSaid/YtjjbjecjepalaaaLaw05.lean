/- awake and the three laws of billiardlaw05: each returns true. -/
import Derived.Test.YtjjbjecjepalaaaSmall
namespace Go.Proofs.Ytjjbjecjepalaaa
open Go.RowKit

section
variable (k r ax ay m o px py vx vy : Int) (w : World)
theorem check_fl : Calls Try.prog 8 #[.agg #[.int .u32 k, .int .i32 r, .int .i32 ax, .int .i32 ay, .int .i32 m, .int .i32 o, .int .i32 px, .int .i32 py, .int .i32 vx, .int .i32 vy]] w fun e w' => e = .returned (.int .i64 (errOf ⟨k, r, ax, ay, m, o, px, py, vx, vy⟩)) ∧ Below w.heap.size w w' := check_any ⟨k, r, ax, ay, m, o, px, py, vx, vy⟩ w
theorem refCheck_fl : Calls Try.prog 7 #[.agg #[.int .u32 k, .int .i32 r, .int .i32 ax, .int .i32 ay, .int .i32 m, .int .i32 o, .int .i32 px, .int .i32 py, .int .i32 vx, .int .i32 vy]] w fun e w' => e = .returned (.int .i64 (errOf ⟨k, r, ax, ay, m, o, px, py, vx, vy⟩)) ∧ Below w.heap.size w w' := refCheck_any ⟨k, r, ax, ay, m, o, px, py, vx, vy⟩ w
theorem isCircle_fl : Calls Try.prog 9 #[.agg #[.int .u32 k, .int .i32 r, .int .i32 ax, .int .i32 ay, .int .i32 m, .int .i32 o, .int .i32 px, .int .i32 py, .int .i32 vx, .int .i32 vy]] w fun e w' => e = .returned (.bool (ax == 0 && ay == 0)) ∧ Below w.heap.size w w' := isCircle_any ⟨k, r, ax, ay, m, o, px, py, vx, vy⟩ w
theorem isStatic_fl : Calls Try.prog 10 #[.agg #[.int .u32 k, .int .i32 r, .int .i32 ax, .int .i32 ay, .int .i32 m, .int .i32 o, .int .i32 px, .int .i32 py, .int .i32 vx, .int .i32 vy]] w fun e w' => e = .returned (.bool (m == 0)) ∧ Below w.heap.size w w' := isStatic_any ⟨k, r, ax, ay, m, o, px, py, vx, vy⟩ w
theorem ends_fl : Calls Try.prog 11 #[.agg #[.int .u32 k, .int .i32 r, .int .i32 ax, .int .i32 ay, .int .i32 m, .int .i32 o, .int .i32 px, .int .i32 py, .int .i32 vx, .int .i32 vy]] w fun e w' => e = .returned (.tuple #[.agg #[.int .i32 (wrap32 (px - ax)), .int .i32 (wrap32 (py - ay))], .agg #[.int .i32 (wrap32 (px + ax)), .int .i32 (wrap32 (py + ay))]]) ∧ Below w.heap.size w w' := ends_any ⟨k, r, ax, ay, m, o, px, py, vx, vy⟩ w
theorem extent_fl : Calls Try.prog 12 #[.agg #[.int .u32 k, .int .i32 r, .int .i32 ax, .int .i32 ay, .int .i32 m, .int .i32 o, .int .i32 px, .int .i32 py, .int .i32 vx, .int .i32 vy]] w fun e w' => e = .returned (.tuple #[.int .i32 (wrap32 (max ax (wrap32 (-ax)) + r)), .int .i32 (wrap32 (max ay (wrap32 (-ay)) + r))]) ∧ Below w.heap.size w w' := extent_any ⟨k, r, ax, ay, m, o, px, py, vx, vy⟩ w
theorem moved_fl (x y : Int) : Calls Try.prog 17 #[.agg #[.int .u32 k, .int .i32 r, .int .i32 ax, .int .i32 ay, .int .i32 m, .int .i32 o, .int .i32 px, .int .i32 py, .int .i32 vx, .int .i32 vy], .agg #[.int .i32 x, .int .i32 y]] w fun e w' => e = .returned (.agg #[.int .u32 k, .int .i32 r, .int .i32 ax, .int .i32 ay, .int .i32 m, .int .i32 o, .int .i32 (wrap32 (px + x)), .int .i32 (wrap32 (py + y)), .int .i32 vx, .int .i32 vy]) ∧ Below w.heap.size w w' := moved_any ⟨k, r, ax, ay, m, o, px, py, vx, vy⟩ x y w
end

theorem keepB {W w1 : World} (hb : Below W.heap.size W w1) (B : Nat) (h : B < W.heap.size) : ∀ o, w1.cell? ⟨B, o, none⟩ = W.cell? ⟨B, o, none⟩ := fun o => hb.cell (p := ⟨B, o, none⟩) h

theorem field_pos (x0 x1 x2 x3 x4 x5 x6 x7 x8 x9 : Value) (w : World) : (Instr.field 26 (.agg #[x0, x1, x2, x3, x4, x5, x6, x7, x8, x9]) 5).run Try.prog w = .ok (.agg #[x6, x7]) w := by kernel_rfl

set_option maxHeartbeats 4000000 in
theorem awake_any (w : World) :
    Calls Try.prog 6 #[] w fun e w' => e = .returned (.bool true) ∧ Below w.heap.size w w' := by
  have e0 : errOf ⟨0, 65536, 0, 0, 0, 0, 0, 0, 0, 0⟩ = 0 := by decide
  have e1 : errOf ⟨0, 0, 0, 0, -1, 0, 0, 0, 0, 0⟩ = 4 := by decide
  have hfld := field_pos
  have v13 : wrap32 13 = 13 := by kernel_rfl
  have v16 : wrap32 16 = 16 := by kernel_rfl
  have v7 : wrap32 7 = 7 := by kernel_rfl
  have v24 : wrap32 24 = 24 := by kernel_rfl
  have v11 : wrap32 11 = 11 := by kernel_rfl
  have v19 : wrap32 19 = 19 := by kernel_rfl
  have x1 : wrap32 (max (-3) (wrap32 3) + 65536) = 65539 := by kernel_rfl
  have x2 : wrap32 (max 4 (wrap32 (-4)) + 65536) = 65540 := by kernel_rfl
  go_enter Try.func6, Try.ntmps6
  go_wp2_with fail
  refine (ends_fl _ _ _ _ _ _ _ _ _ _ _).mono ?_
  rintro e w1 ⟨rfl, hb1⟩
  have c1 := keepB hb1 w.heap.size (by simp; omega)
  have c2 := keepB hb1 (w.heap.size + 1) (by simp)
  have hz1 := hb1.size
  simp at hz1
  have g1 : w.heap.size < w1.heap.size := by omega
  have g2 : w.heap.size + 1 < w1.heap.size := by omega
  have t1 : Below w.heap.size w w1 := (bel_alloc (new_ok _) _).trans (hb1.mono (by simp; omega))
  clear hb1
  go_wp2_with fail
  refine (extent_fl _ _ _ _ _ _ _ _ _ _ _).mono ?_
  rintro e w2 ⟨rfl, hb2⟩
  have c3 := keepB hb2 w.heap.size (by simp; omega)
  have c4 := keepB hb2 (w.heap.size + 1) (by simp; omega)
  have c5 := keepB hb2 w1.heap.size (by simp; omega)
  have c6 := keepB hb2 (w1.heap.size + 1) (by simp)
  have hz2 := hb2.size
  simp at hz2
  have k1 : w.heap.size < w2.heap.size := by omega
  have k2 : w.heap.size + 1 < w2.heap.size := by omega
  have k3 : w1.heap.size < w2.heap.size := by omega
  have k4 : w1.heap.size + 1 < w2.heap.size := by omega
  have t2 : Below w.heap.size w w2 := (bel_alloc (bel_alloc t1 _) _).trans (hb2.mono (by simp; omega))
  clear hb2
  go_wp2_with fail
  refine (check_fl _ _ _ _ _ _ _ _ _ _ _).mono ?_
  rintro e w3 ⟨rfl, hb3⟩
  have t3 : Below w.heap.size w w3 := t2.trans (hb3.mono (by omega))
  have d1 := keepB hb3 w.heap.size k1
  have d2 := keepB hb3 (w.heap.size + 1) k2
  have d3 := keepB hb3 w1.heap.size k3
  have d4 := keepB hb3 (w1.heap.size + 1) k4
  have hz3 := hb3.size
  clear hb3
  go_wp2_with fail
  refine (check_fl _ _ _ _ _ _ _ _ _ _ _).mono ?_
  rintro e w4 ⟨rfl, hb4⟩
  have t4 : Below w.heap.size w w4 := t3.trans (hb4.mono (by omega))
  have hz4 := hb4.size
  have d41 := keepB hb4 w.heap.size (by omega)
  have d42 := keepB hb4 (w.heap.size + 1) (by omega)
  have d43 := keepB hb4 w1.heap.size (by omega)
  have d44 := keepB hb4 (w1.heap.size + 1) (by omega)
  clear hb4
  go_wp2_with fail
  refine (isCircle_fl _ _ _ _ _ _ _ _ _ _ _).mono ?_
  rintro e w5 ⟨rfl, hb5⟩
  have t5 : Below w.heap.size w w5 := t4.trans (hb5.mono (by omega))
  have hz5 := hb5.size
  have d51 := keepB hb5 w.heap.size (by omega)
  have d52 := keepB hb5 (w.heap.size + 1) (by omega)
  have d53 := keepB hb5 w1.heap.size (by omega)
  have d54 := keepB hb5 (w1.heap.size + 1) (by omega)
  clear hb5
  go_wp2_with fail
  refine (isStatic_fl _ _ _ _ _ _ _ _ _ _ _).mono ?_
  rintro e w6 ⟨rfl, hb6⟩
  have t6 : Below w.heap.size w w6 := t5.trans (hb6.mono (by omega))
  have hz6 := hb6.size
  have d61 := keepB hb6 w.heap.size (by omega)
  have d62 := keepB hb6 (w.heap.size + 1) (by omega)
  have d63 := keepB hb6 w1.heap.size (by omega)
  have d64 := keepB hb6 (w1.heap.size + 1) (by omega)
  clear hb6
  go_wp2_with fail
  refine (isCircle_fl _ _ _ _ _ _ _ _ _ _ _).mono ?_
  rintro e w7 ⟨rfl, hb7⟩
  have t7 : Below w.heap.size w w7 := t6.trans (hb7.mono (by omega))
  have hz7 := hb7.size
  have d71 := keepB hb7 w.heap.size (by omega)
  have d72 := keepB hb7 (w.heap.size + 1) (by omega)
  have d73 := keepB hb7 w1.heap.size (by omega)
  have d74 := keepB hb7 (w1.heap.size + 1) (by omega)
  clear hb7
  go_wp2_with fail
  refine (isStatic_fl _ _ _ _ _ _ _ _ _ _ _).mono ?_
  rintro e w8 ⟨rfl, hb8⟩
  have t8 : Below w.heap.size w w8 := t7.trans (hb8.mono (by omega))
  have hz8 := hb8.size
  have d81 := keepB hb8 w.heap.size (by omega)
  have d82 := keepB hb8 (w.heap.size + 1) (by omega)
  have d83 := keepB hb8 w1.heap.size (by omega)
  have d84 := keepB hb8 (w1.heap.size + 1) (by omega)
  clear hb8
  go_wp2_with fail
  refine (moved_fl _ _ _ _ _ _ _ _ _ _ _ _ _).mono ?_
  rintro e w9 ⟨rfl, hb9⟩
  have t9 : Below w.heap.size w w9 := t8.trans (hb9.mono (by omega))
  have hz9 := hb9.size
  have d91 := keepB hb9 w.heap.size (by omega)
  have d92 := keepB hb9 (w.heap.size + 1) (by omega)
  have d93 := keepB hb9 w1.heap.size (by omega)
  have d94 := keepB hb9 (w1.heap.size + 1) (by omega)
  clear hb9
  go_wp2_with fail
  go_ret
  exact ⟨rfl, t9⟩
end Go.Proofs.Ytjjbjecjepalaaa
