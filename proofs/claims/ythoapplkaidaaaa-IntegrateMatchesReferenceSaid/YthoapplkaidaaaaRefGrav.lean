/- The contract of the reference's Gravity. -/
import Derived.Test.YthoapplkaidaaaaView
import Derived.Test.YthoapplkaidaaaaGrav
namespace Go.Proofs.Ythoapplkaidaaaa
open Go.RowKit
attribute [local go_sem] Grow.cell Grow.froz Grow.lt

theorem map_take {α β : Type} (f : α → β) {l : List α} {k : Nat} (hk : k < l.length) : (l.take (k + 1)).map f = (l.take k).map f ++ [f l[k]] := by
  rw [List.take_succ_eq_append_getElem hk, List.map_append]; rfl
theorem any_take {α : Type} (f : α → Bool) {l : List α} {k : Nat} (hk : k < l.length) : (l.take (k + 1)).any f = ((l.take k).any f || f l[k]) := by
  rw [List.take_succ_eq_append_getElem hk, List.any_append]; simp
def Small (b : Body) : Prop := 0 ≤ b.inv ∧ b.inv ≤ 1048576 ∧ -16777216 ≤ b.vx ∧ b.vx ≤ 16777216 ∧ -16777216 ≤ b.vy ∧ b.vy ≤ 16777216 ∧ -1073741824 ≤ b.px ∧ b.px ≤ 1073741824 ∧ -1073741824 ≤ b.py ∧ b.py ≤ 1073741824
theorem small_of {b : Body} (h : errOf b = 0) : Small b := by
  have := errOf_zero.1 h
  unfold Small; omega

set_option maxHeartbeats 4000000 in
theorem refGravity_any (v : Value) (l : List Body) (w : World) (hl : Reads bodyE w v l) (hn : l.length ≤ 1000000) (hV : ∀ b ∈ l, Small b) :
    Calls Try.prog 12 #[v] w fun e w' => ∃ v', e = .returned (.tuple #[v', .bool (l.any gravC)]) ∧ Reads bodyE w' v' (l.map gravB) ∧ Below w.heap.size w w' := by
  obtain ⟨A, c, b1, o1, rfl, hA, hx⟩ := hl.bodies
  have hA := Lib.hid hA
  have hx := Lib.hid hx
  have HV := Lib.hid hV
  clear hl hV
  go_enter Try.func12, Try.ntmps12
  go_wp2
  go_loopw [4, 5, 6] (fun v d i wr => ∃ k : Nat, k ≤ l.length ∧ i = .int .i64 k ∧ ∃ f : Bool, f = (l.take k).any gravC ∧ d = .bool f ∧ Own bodyE 37 wr w.heap.size v ((l.take k).map gravB) ∧ Below w.heap.size w wr) (fun _ _ i _ => l.length - (intOf i).toNat)
  case atStart => exact ⟨0, by omega, rfl, false, by simp, rfl, by simpa using Own.nil _ _ _ _, Below.refl _ _⟩
  case round =>
    obtain ⟨k, hk, rfl, f, hf, rfl, hown, hbel⟩ := hrel
    have HF := Lib.hid hf
    clear hf
    have hz := hbel.size
    by_cases hlt : k < l.length
    · obtain ⟨eA, zA⟩ := hA.out (by omega)
      have ix := fun w => idx_body (c := c) eA hlt w
      clear eA
      obtain ⟨q0, q1, q2, q3, q4, q5, q6, q7, q8, q9⟩ := (hx.out k hlt).below hbel
      have hS := HV.out l[k] (List.getElem_mem hlt)
      obtain ⟨s0, s1, s2, s3, s4, s5, s6, s7, s8, s9⟩ := hS
      by_cases hm : 0 < l[k].inv
      · have hg : gravB l[k] = { l[k] with vy := clampI (l[k].vy - 1024) 16777216 } := by
          unfold gravB; rw [if_neg (by simp; omega)]
        have hc : gravC l[k] = !(clampI (l[k].vy - 1024) 16777216 == l[k].vy - 1024) := by
          unfold gravC
          rw [show (l[k].inv == 0) = false from by simp; omega]; rfl
        have HG := Lib.hid hg
        have HC := Lib.hid hc
        clear hg hc
        obtain ⟨cb0, cb1⟩ := clampI_le (n := l[k].vy - 1024) (l := 16777216) (by omega)
        cases f
        all_goals
          go_wp2_with fail
          refine (refLimit_any _ _ _ (by omega) (by omega)).mono ?_
          rintro e w1 ⟨rfl, rfl⟩
          go_wp2_with (at_builtin; refine own_append bodyE w.heap.size rfl (.tmp 41) (.tmp 43) 22 37 _ 40 rfl Try.underlying22 bodyInfo rfl (by decide) _ ((l.take k).map gravB) (gravB l[k]) _ (by rw [HG.out]; rfl) rfl (by first | rfl | simp [go_sem]) (hown.alloc _) (bel_alloc hbel _) (by simp; omega) (by simp; omega) ?_; intro v1 w2 own1 bel1 gr1 sz1)
          go_roundw
          case rel => exact ⟨k + 1, by omega, by go_num, _, rfl, congrArg Value.bool (by rw [any_take gravC hlt, ← HF.out, HC.out]; rfl), by rw [map_take gravB hlt]; exact own1, bel1⟩
          case measure => simp [intOf]; omega
      · have hm0 : l[k].inv = 0 := by omega
        have hg : gravB l[k] = l[k] := by
          unfold gravB; rw [if_pos (by simp [hm0])]
        have hc : gravC l[k] = false := by simp [gravC, hm0]
        have hlt0 : l[k].inv ≤ 0 := by omega
        have HG := Lib.hid hg
        have HC := Lib.hid hc
        clear hg hc hm0 hm
        go_wp2_with (at_builtin; refine own_append bodyE w.heap.size rfl (.tmp 41) (.tmp 43) 22 37 _ 40 rfl Try.underlying22 bodyInfo rfl (by decide) _ ((l.take k).map gravB) (gravB l[k]) _ (by rw [HG.out]; rfl) rfl (by first | rfl | simp [go_sem]) (hown.alloc _) (bel_alloc hbel _) (by simp; omega) (by simp; omega) ?_; intro v1 w2 own1 bel1 gr1 sz1)
        go_roundw
        case rel => exact ⟨k + 1, by omega, by go_num, f, by rw [any_take gravC hlt, ← HF.out, HC.out]; simp, rfl, by rw [map_take gravB hlt]; exact own1, bel1⟩
        case measure => simp [intOf]; omega
    · have hkl : k = l.length := by omega
      have HN := Lib.hid hkl
      clear hkl
      go_wp2
      go_ret2
      exact ⟨_, ret_flag (by rw [HF.out, HN.out, List.take_length]), by have := hown.reads (by simp; omega); rw [HN.out, List.take_length] at this; exact this, hbel⟩
end Go.Proofs.Ythoapplkaidaaaa
