/- BodyMirrors: for every body and key the law returns true; its arguments read as before. No condition. -/
import Derived.Test.YtjjbjecjepalaaaMir05
import Derived.Test.YtjjbjecjepalaaaOpen
namespace Go.Proofs.Ytjjbjecjepalaaa
open Go.ChangeShapes Go.WideShapes Go.ChangeAt Go.RowKit
open Go.ChangeMaps (open_string shut_string)

theorem w32 {n : Int} (h : -2147483648 ≤ n ∧ n ≤ 2147483647) : wrap32 n = n := IntWalk.wrap32_in n h
theorem errOf_zero {b : Body} : errOf b = 0 ↔ (4096 ≤ b.radius ∧ b.radius ≤ 4194304) ∧ (-4194304 ≤ b.ax ∧ b.ax ≤ 4194304 ∧ -4194304 ≤ b.ay ∧ b.ay ≤ 4194304) ∧ (0 ≤ b.inv ∧ b.inv ≤ 1048576) ∧ (0 ≤ b.bounce ∧ b.bounce ≤ 65536) ∧ (-1073741824 ≤ b.px ∧ b.px ≤ 1073741824 ∧ -1073741824 ≤ b.py ∧ b.py ≤ 1073741824) ∧ (-16777216 ≤ b.vx ∧ b.vx ≤ 16777216 ∧ -16777216 ≤ b.vy ∧ b.vy ≤ 16777216) := by
  simp only [errOf, okRadius, okAxis, okMass, okBounce, okPlace, okSpeed, okVec, Bool.and_eq_false_iff, decide_eq_false_iff_not]
  constructor
  · intro h
    repeat' split at h
    all_goals first | omega | contradiction
  · intro h
    repeat' rw [if_neg (by omega)]

theorem mirrors_all (b : Body) (key : Int) (w : World) :
    Calls Try.prog 5 #[.agg b.cells, .int .u32 key] w fun e w' => e = .returned (.bool true) ∧ Below w.heap.size w w' := by
  by_cases hE : errOf b = 0
  · have hz := errOf_zero.1 hE
    have e1 : wrap32 (-b.ax) = -b.ax := w32 (by omega)
    have e2 : wrap32 (-b.ay) = -b.ay := w32 (by omega)
    have e3 : wrap32 (-b.px) = -b.px := w32 (by omega)
    have e4 : wrap32 (-b.py) = -b.py := w32 (by omega)
    have e5 : wrap32 (-b.vx) = -b.vx := w32 (by omega)
    have e6 : wrap32 (-b.vy) = -b.vy := w32 (by omega)
    refine mirrors_any b.key b.radius b.ax b.ay b.inv b.bounce b.px b.py b.vx b.vy key w hE ?_ ?_ ?_ ?_
    · rw [e1, e2, e3, e4, e5, e6]
      exact errOf_zero.2 (by simp only; omega)
    · rw [e1, show wrap32 (- -b.ax) = b.ax from by rw [w32 (by omega)]; omega]
      rw [show max b.ax (-b.ax) = max (-b.ax) b.ax from by omega]
      simp
    · rw [e2, show wrap32 (- -b.ay) = b.ay from by rw [w32 (by omega)]; omega]
      rw [show max b.ay (-b.ay) = max (-b.ay) b.ay from by omega]
      simp
    · rw [e1, e2]
      have : ∀ a : Int, (-a == 0) = (a == 0) := fun a => by
        rw [Bool.eq_iff_iff]; simp
      rw [this, this]
      simp
  · exact mirrors_not b.key b.radius b.ax b.ay b.inv b.bounce b.px b.py b.vx b.vy key w (by simpa using hE)

theorem own : ownKnob Try.prog.godebug = none := by kernel_rfl
theorem laidOut : laidOutB Try.prog = true := by kernel_rfl
set_option maxRecDepth 100000 in
theorem mirrors_lifted (os : Os) (started : os.Started) (H : Type) (enc : TypeId × Value → H) :
    ReturnsInHanded {} Try.checked os 5 .any (Rows.bodyMirrorsSpec.pre6 enc Try.prog Try.f5 Rows.bodyMirrorsRow.domain false) (Rows.bodyMirrorsSpec.post enc Try.prog Try.f5 false true false false) := by
  refine returnsInHanded_of_change_sized (C := Try.checked) own started (by kernel_rfl) Try.func5
    (ChangeSpec.witness6 (enc := enc) (C := Try.checked) false ⟨#[], #[.agg #[.int .u32 0, .int .i32 0, .int .i32 0, .int .i32 0, .int .i32 0, .int .i32 0, .int .i32 0, .int .i32 0, .int .i32 0, .int .i32 0], .int .u32 0], []⟩ 8 (by kernel_rfl) (by kernel_rfl) (by kernel_rfl) (by kernel_rfl)) ?_
  intro W base args ds gs before hval0 hW hcnd hsz0 _
  have hval : ∀ (j : Nat) t v, Try.f5.params[j]? = some t → args[j]? = some v → Value.okWide Try.prog W .any base t v := hval0
  have hW' := hW
  obtain ⟨p, q, hA0, hV, rfl, hfz, hnd⟩ := hW
  have hA : DataW.TrodAll enc Try.prog W 0 (fun _ => true) true Try.f5.params.toList args.toList ds p := hA0
  rw [Try.params5] at hA hval
  obtain ⟨v0, vs0, d0, ds0, p0, q0, hargs, rfl, rfl, h0, r0⟩ := trodAll_cons hA
  obtain ⟨v1, vs1, d1, ds1, p1, q1, rfl, rfl, rfl, h1, r1⟩ := trodAll_cons r0
  obtain ⟨rfl, rfl, rfl⟩ := trodAll_nil r1
  obtain rfl : args = #[v0, v1] := by cases args; simp_all
  obtain ⟨rfl, rfl⟩ := trodVars_none hV
  have lt0 : ∀ x ∈ p0, x.block < W.heap.size := by obtain ⟨m, hm⟩ := h0; exact DataW.trod_lt m _ _ _ hm
  have lt1 : ∀ x ∈ p1, x.block < W.heap.size := by obtain ⟨m, hm⟩ := h1; exact DataW.trod_lt m _ _ _ hm
  have k0 := h0
  have k1 := h1
  obtain ⟨b, rfl, hb⟩ := open_body (hval 0 26 v0 rfl rfl) h0
  obtain ⟨a1, rfl, rfl, rfl, w1⟩ := open_int Try.underlying22 (hval 1 22 v1 rfl rfl) h1
  clear hA0 hval0 hsz0
  refine (mirrors_all b a1 W).mono fun e W' ⟨he, bel⟩ => ?_
  subst he
  exact ⟨_, rfl, _, _, _, [], _, [], hW', trodAll_mk1 (shut_bool Try.underlying4 _), trodAll_mk2 (Below.trod laidOut (by kernel_rfl) (of_decide_eq_true (by kernel_rfl)) k0 bel lt0) (Below.trod laidOut (by kernel_rfl) (of_decide_eq_true (by kernel_rfl)) k1 bel lt1), rfl, bel.frame _, fun h => by cases h⟩
theorem mirrors_over : Rows.bodyMirrorsRow.holds Try.pinned (OpenSpec.ofChange Rows.bodyMirrorsSpec) :=
  OpenClaim.holds_of_wide 5 Try.f5 rfl rfl rfl rfl rfl rfl rfl ⟨rfl, rfl, rfl, rfl, rfl⟩ rfl rfl rfl rfl rfl (by kernel_rfl) Try.func5 (by kernel_rfl)
    (of_decide_eq_true (by kernel_rfl)) (by unfold Func.isWrapper; first | (rw [if_pos (by decide +kernel)]; kernel_rfl) | (rw [if_neg (by decide +kernel)]; exact ⟨rfl, rfl⟩))
    (fun os started H enc _ => mirrors_lifted os started H enc)
theorem bodyMirrors_holds : Rows.BodyMirrorsSaid := mirrors_over
#print axioms bodyMirrors_holds
end Go.Proofs.Ytjjbjecjepalaaa
