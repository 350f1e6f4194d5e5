/- The contract of the reference's Move. -/
import Derived.Test.YthoapplkaidaaaaMove
namespace Go.Proofs.Ythoapplkaidaaaa
open Go.RowKit
attribute [local go_sem] Grow.cell Grow.froz Grow.lt

theorem idx_refShift {A : Option Addr} {b off k len c : Nat} (hA : A = some ⟨b, off, none⟩) (hk : k < len) (w : World) :
    (Instr.indexAt 23 (.slice A len c) (.int .i64 (k : Int))).run Try.prog w = .ok (.pointer (some ⟨b, off + k * 2, none⟩)) w := by
  subst hA
  have hk' : (k : Int) < (len : Int) := by omega
  go_simp
theorem floor_q (n d : Int) (w : World) (m : Nat) (h0 : -9223372036854775807 ≤ n) (h2 : n ≤ 9223372036854775807) (h1 : 1 ≤ d) (h3 : d ≤ 2147483647) :
    Calls Try.prog 29 #[.int .i64 n, .int .i64 d] (w.drewN m) fun e w' => e = .returned (.int .i64 (n / d)) ∧ ∃ m', w' = w.drewN m' :=
  Calls.quiet_of_same ((refFloor_any n d _ h0 h2 h1 h3).mono fun _ _ h => ⟨h.1, h.2.symm⟩)

theorem floor_q2 (n d : Int) (w : World) (a m : Nat) (h0 : -9223372036854775807 ≤ n) (h2 : n ≤ 9223372036854775807) (h1 : 1 ≤ d) (h3 : d ≤ 2147483647) :
    Calls Try.prog 29 #[.int .i64 n, .int .i64 d] (w.drewN (a + m)) fun e w' => e = .returned (.int .i64 (n / d)) ∧ ∃ m', w' = w.drewN (a + m') :=
  (refFloor_any n d _ h0 h2 h1 h3).mono fun _ _ h => ⟨h.1, m, h.2.symm⟩

theorem own_far (v : Value) : v.ownBlock = none ∨ v.ownBlock ≠ none := by cases v.ownBlock <;> simp
theorem moveC_yes {b : Body} {s : Int × Int} (h : clampI (b.px + s.1 + b.vx / 64) 1073741824 = b.px + s.1 + b.vx / 64) : moveC b s = (clampI (b.py + s.2 + b.vy / 64) 1073741824 != b.py + s.2 + b.vy / 64) := by
  unfold moveC moveX
  rw [h]; simp [bne]
theorem moveC_no {b : Body} {s : Int × Int} (h : ¬ clampI (b.px + s.1 + b.vx / 64) 1073741824 = b.px + s.1 + b.vx / 64) : moveC b s = true := by
  unfold moveC moveX
  rw [show (clampI (b.px + s.1 + b.vx / 64) 1073741824 == b.px + s.1 + b.vx / 64) = false from by simpa using h]; rfl

set_option maxHeartbeats 2000000 in
set_option maxRecDepth 100000 in
theorem refMove_any (v u : Value) (l : List Body) (s : List (Int × Int)) (w : World) (hl : Reads bodyE w v l) (hn : l.length ≤ 1000000) (hV : ∀ b ∈ l, Small b)
    (hu : Reads shiftE w u s) (hs : s.length = l.length) (hO : ∀ x ∈ s, ShiftOk x) :
    Calls Try.prog 15 #[v, u] w fun e w' => ∃ v', e = .returned (.tuple #[v', .bool (movC l s)]) ∧ Reads bodyE w' v' (movL l s) ∧ Below w.heap.size w w' := by
  obtain ⟨A, c, b1, o1, rfl, hA, hy⟩ := hl.bodies
  obtain ⟨S, cc, sb, so, rfl, hS, hx⟩ := hu.form
  have hA := Lib.hid hA
  have hy := Lib.hid hy
  have HV := Lib.hid hV
  have HS := Lib.hid hs
  have HSA := Lib.hid hS
  have HX := Lib.hid hx
  have HO := Lib.hid hO
  clear hl hV hs hS hx hO hu
  go_enter Try.func15, Try.ntmps15
  go_wp2
  go_loopw [6, 7, 8] (fun v d i wr => ∃ k : Nat, k ≤ l.length ∧ i = .int .i64 k ∧ ∃ f : Bool, f = movC (l.take k) s ∧ d = .bool f ∧ Own bodyE 37 wr w.heap.size v (movL (l.take k) s) ∧ Below w.heap.size w wr) (fun _ _ i _ => l.length - (intOf i).toNat)
  case atStart => exact ⟨0, by omega, rfl, false, by simp [movC], rfl, by simpa [movL] using Own.nil _ _ _ _, Below.refl _ _⟩
  case round =>
    obtain ⟨k, hk, rfl, f, hf, rfl, hown, hbel⟩ := hrel
    have HF := Lib.hid hf
    clear hf
    have hz := hbel.size
    have hlen : (movL (l.take k) s).length ≤ k := by simp [movL]; omega
    by_cases hlt : k < l.length
    · have hks : k < s.length := by have := HS.out; omega
      obtain ⟨eA, zA⟩ := hA.out (by omega)
      have ix := fun w => idx_body (c := c) eA hlt w
      clear eA
      obtain ⟨eS, zS⟩ := HSA.out (by omega)
      have iy := fun w => idx_refShift (c := cc) eS hks w
      clear eS
      obtain ⟨q0, q1, q2, q3, q4, q5, q6, q7, q8, q9⟩ := (hy.out k hlt).below hbel
      have ht := shift_at (w := wr) (fun j u hu => (keepB hbel sb zS _).trans (HX.out k hks j u hu))
      have t0 : wr.cell? ⟨sb, so + k * 2, none⟩ = some (.int .i64 s[k].1) := ht.1
      have t1 : wr.cell? ⟨sb, so + k * 2 + 1, none⟩ = some (.int .i64 s[k].2) := ht.2
      clear ht
      obtain ⟨s0, s1, s2, s3, s4, s5, s6, s7, s8, s9⟩ := HV.out l[k] (List.getElem_mem hlt)
      obtain ⟨x0, x1, y0, y1⟩ := HO.out s[k] (List.getElem_mem hks)
      have zS' : sb < wr.heap.size := by omega
      have hX := clampI_le (n := l[k].px + s[k].1 + l[k].vx / 64) (l := 1073741824) (by omega)
      have hY := clampI_le (n := l[k].py + s[k].2 + l[k].vy / 64) (l := 1073741824) (by omega)
      obtain ⟨d0, d1⟩ := hX
      obtain ⟨d2, d3⟩ := hY
      have X0 := Lib.hid (rfl : moveX l[k].px s[k].1 l[k].vx = l[k].px + s[k].1 + l[k].vx / 64)
      by_cases hc : clampI (l[k].px + s[k].1 + l[k].vx / 64) 1073741824 = l[k].px + s[k].1 + l[k].vx / 64
      · have HC := Lib.hid hc
        have hc' : (clampI (l[k].px + s[k].1 + l[k].vx / 64) 1073741824 != l[k].px + s[k].1 + l[k].vx / 64) = false := by simp [hc]
        clear hc
        cases f
        all_goals
          go_wp2_with fail
          go_quiet ((go_at_call 29; exact floor_q _ _ _ _ (by omega) (by omega) (by omega) (by omega)))
          go_wp2_with fail
          go_quiet ((go_at_call 29; exact floor_q2 _ _ _ _ _ (by omega) (by omega) (by omega) (by omega)))
          go_wp2_with (first
            | (go_at_call 27; refine (refLimit_any _ _ _ (by omega) (by omega)).mono ?_; rintro e w1 ⟨rfl, rfl⟩)
            | (at_builtin; refine own_append bodyE w.heap.size rfl (.tmp 79) (.tmp 81) 22 37 _ 40 rfl Try.underlying22 bodyInfo rfl (by decide) _ (movL (l.take k) s) (moveB l[k] s[k]) _ (by rfl) rfl (by first | rfl | simp [go_sem]) (hown.kept (grown_setn (grown_setn (grown_drewN (grown_alloc (grown_refl wr none) _) _) (by omega) _) (by omega) _) (own_far _)) (Below.setCell (Below.setCell (bel_drewN (bel_alloc hbel _) _) (by simp; omega) _) (by simp; omega) _) (by simp; omega) (by omega) ?_; intro v1 w2 own1 bel1 gr1 sz1))
          go_roundw
          case rel => exact ⟨k + 1, by omega, by go_num, _, rfl, congrArg Value.bool (by rw [movC_take hlt hks, ← HF.out, moveC_yes HC.out]; rfl), by rw [movL_take hlt hks]; exact own1, bel1⟩
          case measure => simp [intOf]; omega
      · have HC := Lib.hid hc
        have hc' : (clampI (l[k].px + s[k].1 + l[k].vx / 64) 1073741824 != l[k].px + s[k].1 + l[k].vx / 64) = true := by simpa using hc
        clear hc
        cases f
        all_goals
          go_wp2_with fail
          go_quiet ((go_at_call 29; exact floor_q _ _ _ _ (by omega) (by omega) (by omega) (by omega)))
          go_wp2_with fail
          go_quiet ((go_at_call 29; exact floor_q2 _ _ _ _ _ (by omega) (by omega) (by omega) (by omega)))
          go_wp2_with (first
            | (go_at_call 27; refine (refLimit_any _ _ _ (by omega) (by omega)).mono ?_; rintro e w1 ⟨rfl, rfl⟩)
            | (at_builtin; refine own_append bodyE w.heap.size rfl (.tmp 79) (.tmp 81) 22 37 _ 40 rfl Try.underlying22 bodyInfo rfl (by decide) _ (movL (l.take k) s) (moveB l[k] s[k]) _ (by rfl) rfl (by first | rfl | simp [go_sem]) (hown.kept (grown_setn (grown_setn (grown_drewN (grown_alloc (grown_refl wr none) _) _) (by omega) _) (by omega) _) (own_far _)) (Below.setCell (Below.setCell (bel_drewN (bel_alloc hbel _) _) (by simp; omega) _) (by simp; omega) _) (by simp; omega) (by omega) ?_; intro v1 w2 own1 bel1 gr1 sz1))
          go_roundw
          case rel => exact ⟨k + 1, by omega, by go_num, _, rfl, congrArg Value.bool (by rw [movC_take hlt hks, ← HF.out, moveC_no HC.out]; rfl), by rw [movL_take hlt hks]; exact own1, bel1⟩
          case measure => simp [intOf]; omega
    · have hkl : k = l.length := by omega
      have HN := Lib.hid hkl
      clear hkl
      go_wp2
      go_ret2
      exact ⟨_, ret_flag (by rw [HF.out, HN.out, List.take_length]), by have := hown.reads (by omega); rw [HN.out, List.take_length] at this; exact this, hbel⟩
end Go.Proofs.Ythoapplkaidaaaa
