/- The contracts of the reference's Encode and Decode. -/
import Derived.Test.YtlibkfjafhggkaaRef21
import Derived.Test.YtlibkfjafhggkaaDec
namespace Go.Proofs.Ytlibkfjafhggkaa
open Go.RowKit
attribute [local go_sem] Grow.cell Grow.froz Grow.lt
attribute [local go_sem ↓] Go.wp_at_zero Go.wp_at_succ

set_option maxHeartbeats 2000000 in
theorem refEncode_any (v : Value) (l : List Body) (w : World) (hl : Reads bodyE w v l) (hf : ∀ b ∈ l, b.Fit) :
    Calls Try.prog 10 #[v] w fun e w' => ∃ v', e = .returned (.tuple #[v', .int .i64 (encL l).2]) ∧ OB w' w.heap.size v' (encL l).1 ∧ Below w.heap.size w w' := by
  have HR := Lib.hid hl
  have HFIT := Lib.hid hf
  obtain ⟨A, c, b1, o1, rfl, _, _⟩ := hl.bodies
  clear hl hf
  by_cases he : checkL l = 0
  · have HE := Lib.hid he
    have he' : (checkL l == 0) = true := by simpa using he
    have hlen := each_len (check_each he)
    clear he
    go_enter Try.func10, Try.ntmps10
    go_wp2_with fail
    refine (refCheck7_any _ l _ (by exact HR.out)).mono ?_
    rintro e w1 ⟨rfl, hb⟩
    obtain ⟨g0, rfl⟩ := Grow.of hb
    clear hb
    go_wp2_with fail
    refine (bytes_any _ l _ (by exact HR.out.grow g0) HFIT.out hlen).mono ?_
    rintro e w1 ⟨v1, rfl, hr, hb⟩
    obtain ⟨g1, rfl⟩ := Grow.of hb
    have HB := Lib.hid hr
    clear hb hr
    go_wp2_with fail
    go_ret2
    exact ⟨_, ret_vi (by rw [enc_ok HE.out]), by rw [enc_ok HE.out]; exact ob_base HB.out g0.le, bel_grow (bel_grow (Below.refl _ _) g0) g1⟩
  · have HE := Lib.hid he
    have he' : (checkL l == 0) = false := by simpa using he
    clear he
    go_enter Try.func10, Try.ntmps10
    go_wp2_with fail
    refine (refCheck7_any _ l _ (by exact HR.out)).mono ?_
    rintro e w1 ⟨rfl, hb⟩
    obtain ⟨g0, rfl⟩ := Grow.of hb
    clear hb
    go_wp2_with fail
    go_ret2
    exact ⟨.slice none 0 0, ret_vi (by rw [enc_err HE.out]), by rw [enc_err HE.out]; exact OB.nil _ _, bel_grow (Below.refl _ _) g0⟩

structure Rec (base : Nat) (w0 : World) (b1 o p : Nat) (b : List Int) (w : World) (v : Value) (l : List Body) : Prop where
  own : Own bodyE 46 w base v l
  bel : Below base w0 w
  size : base ≤ w.heap.size
  cells : ∀ j, j < 40 → w.cell? ⟨b1, o + p + j, none⟩ = some (.int .u8 (byteAt b (p + j)))
section
variable {base b1 o p : Nat} {b : List Int} {w0 w w' : World} {v : Value} {l : List Body}
theorem Rec.drewN (h : Rec base w0 b1 o p b w v l) (n : Nat) : Rec base w0 b1 o p b (w.drewN n) v l := ⟨h.own.below (bel_drewN (Below.refl _ _) n), ⟨h.bel.os, h.bel.tape, h.bel.output, h.bel.size, h.bel.block⟩, h.size, h.cells⟩
theorem Rec.drew (h : Rec base w0 b1 o p b w v l) : Rec base w0 b1 o p b w.drew v l := ⟨h.own.below (bel_drew (Below.refl _ _)), ⟨h.bel.os, h.bel.tape, h.bel.output, h.bel.size, h.bel.block⟩, h.size, h.cells⟩
theorem sgn_rec (h : Rec base w0 b1 o p b w v l) (hf : ∀ a ∈ b, 0 ≤ a ∧ a ≤ 255) (j c : Nat) (hj : j + 4 ≤ 40) :
    Calls Try.prog 24 #[.slice (some ⟨b1, o + p + j, none⟩) 4 c] w fun e w' => e = .returned (.int .i32 (sg (numAt b (p + j)))) ∧ Rec base w0 b1 o p b w' v l :=
  (signed_any b1 (o + p + j) 4 c _ _ _ _ w (Nat.le_refl _) (byteAt_fit hf _) (byteAt_fit hf _) (byteAt_fit hf _) (byteAt_fit hf _)
    (h.cells j (by omega)) (by rw [Nat.add_assoc]; exact h.cells (j + 1) (by omega)) (by rw [Nat.add_assoc]; exact h.cells (j + 2) (by omega)) (by rw [Nat.add_assoc]; exact h.cells (j + 3) (by omega))).mono
    fun _ _ ⟨he, k, hw⟩ => ⟨he, by subst hw; exact h.drewN k⟩
theorem num_rec (h : Rec base w0 b1 o p b w v l) (hf : ∀ a ∈ b, 0 ≤ a ∧ a ≤ 255) (c : Nat) :
    Calls Try.prog 23 #[.slice (some ⟨b1, o + p, none⟩) 4 c] w fun e w' => e = .returned (.int .i64 (numAt b p)) ∧ Rec base w0 b1 o p b w' v l :=
  (number_any b1 (o + p) 4 c _ _ _ _ w (Nat.le_refl _) (byteAt_fit hf _) (byteAt_fit hf _) (byteAt_fit hf _) (byteAt_fit hf _)
    (h.cells 0 (by omega)) (h.cells 1 (by omega)) (h.cells 2 (by omega)) (h.cells 3 (by omega))).mono
    fun _ _ ⟨he, k, hw⟩ => ⟨he, by subst hw; exact h.drewN k⟩

theorem step_body {P : Program} (hP : P = Try.prog) {ops : Array Oper} {q : Oper} {a : Act} {K : Act → World → Prop} {Q : Exit → Act → World → Prop} {E : Prop} (hgd : q.guard = none) (s y : Operand)
    (ho : q.op = .call { callee := .builtin .append, args := #[s, y], argTypes := #[22, 22] }) (x : Body) (cs : Array Value) (hcs : cs.toList = bodyE.cells x)
    (H : Rec base w0 b1 o p b w v l) (hs : a.eval s = v) (hx : a.eval y = .slice (some ⟨w.heap.size, 0, none⟩) 1 1) (hl : (l.length + 1) * 40 ≤ 140737488355328)
    (h : ∀ v1 w1, Own bodyE 46 w1 base v1 (l ++ [x]) → Below base w0 w1 → K (a.put q.dst v1) w1) :
    if Region.wanted q (yielded ops a.tmps) = true then Oper.wp P q a (w.alloc (.cells cs 46)) K Q else E := by
  subst hP
  have hw : Region.wanted q (yielded ops a.tmps) = true := by simp [Region.wanted, hgd]
  rw [if_pos hw]
  obtain ⟨i0, hi, hz0, hz1, hz2⟩ := info_parts bodyInfo
  have hlen : l.length + 1 ≤ 140737488355328 := by omega
  refine wp_append_lies (w.alloc (.cells cs 46)) s y 22 ho base 46 i0 _ 10 40 Try.underlying22 hi hz0 hz1 hz2 rfl (by decide) v l.length (l.flatMap bodyE.cells) hs (Own.alloc H.own _) ⟨w.heap.size, 0, none⟩ 1 1 (bodyE.cells x) hx rfl
      (fun j u hu => World.news_of_block (cs := cs) (t := 46) (fr := (0, 0)) (heap_alloc_new w _) j u (by rw [hcs]; exact hu)) (bodyE.one x) (by decide) (by simp only [maxLen]; omega) hl (by have := H.size; simp; omega) _ rfl ?_
  intro g cap w1 hown hg hat hlt
  refine h _ w1 ?_ ((H.bel.alloc H.size _).grown hg (by have := H.size; simp; omega) (fun k hk => Own.base_le H.own k hk))
  unfold Own
  rw [List.length_append, List.flatMap_append, show [x].flatMap bodyE.cells = bodyE.cells x from by simp]
  exact hown
end


/-- Four bytes at a place, read by number. -/
theorem num4_at {w : World} {b : List Int} {b1 o c n p : Nat} (hx : ∀ i (hi : i < b.length), w.cell? ⟨b1, o + i, none⟩ = some (.int .u8 b[i])) (hf : ∀ a ∈ b, 0 ≤ a ∧ a ≤ 255) (hp : p + 4 ≤ b.length) (hn : 4 ≤ n) :
    Calls Try.prog 23 #[.slice (some ⟨b1, o + p, none⟩) n c] w fun e w'' => e = .returned (.int .i64 (numAt b p)) ∧ ∃ k, w'' = w.drewN k :=
  number_any b1 (o + p) n c _ _ _ _ w hn (byteAt_fit hf _) (byteAt_fit hf _) (byteAt_fit hf _) (byteAt_fit hf _)
    (by rw [hx p (by omega), byteAt_get]) (by rw [Nat.add_assoc, hx (p + 1) (by omega), byteAt_get]) (by rw [Nat.add_assoc, hx (p + 2) (by omega), byteAt_get]) (by rw [Nat.add_assoc, hx (p + 3) (by omega), byteAt_get])

set_option maxHeartbeats 8000000 in
set_option maxRecDepth 100000 in
theorem refDecode_any (v : Value) (b : List Int) (w : World) (hb : RB w v b) :
    Calls Try.prog 12 #[v] w fun e w' => ∃ v', e = .returned (.tuple #[v', .int .i64 (decL b).2]) ∧ Reads bodyE w' v' (decL b).1 ∧ Below w.heap.size w w' := by
  have q := hb.1
  have HR := Lib.hid hb
  obtain ⟨A, c, b1, o1, rfl, hc, hcm, hA, hx⟩ := hb.form
  have hA := Lib.hid hA
  have hx := Lib.hid hx
  clear hb
  by_cases h8 : b.length < 8
  · have hi8 : (b.length : Int) < 8 := by omega
    have H8 := Lib.hid h8
    clear h8
    go_enter Try.func12, Try.ntmps12
    go_wp2
    go_ret2
    have hw : wellB b = false := by unfold wellB; rw [decide_eq_false (by have := H8.out; omega)]; rfl
    exact ⟨.slice none 0 0, ret_vi (by rw [dec_bad hw]), by rw [dec_bad hw]; exact Reads.none _ _, Below.refl _ _⟩
  · have hi8 : 8 ≤ (b.length : Int) := by omega
    have hc0 : ¬ c = 0 := by omega
    have hc4 : ¬ c = 4 := by omega
    have hci : 8 ≤ (c : Int) := by omega
    obtain ⟨rfl, zA⟩ := hA.out (by omega)
    clear hA
    have kc := magic_run (c := c) (by omega) hx.out
    by_cases hm : b.take 4 = magicL
    · have g4 := num4_at (c := c - 4) (n := 4) (p := 4) (o := o1) hx.out HR.out.2.1 (by omega) (by omega)
      obtain ⟨n, hn⟩ : ∃ n, n = numAt b 4 := ⟨_, rfl⟩
      have hr := numAt_range HR.out.2.1 4
      rw [← hn] at g4 hr
      obtain ⟨r0, r1⟩ := hr
      obtain ⟨N, rfl⟩ := Int.eq_ofNat_of_zero_le r0
      have G4 := Lib.hid g4
      have HN := Lib.hid hn
      rw [hm, magic_str] at kc
      have HM := Lib.hid hm
      clear hm hn g4
      by_cases hs : b.length = 8 + N * 40
      · have hs2 : ((b.length : Int) != 8 + 40 * (N : Int)) = false := by rw [bne_eq_false_iff_eq]; omega
        have hs3 : decide ((b.length : Int) < 8) = false := decide_eq_false (by omega)
        have HS := Lib.hid hs
        clear hs
        go_enter Try.func12, Try.ntmps12
        go_wp2_with fail
        refine G4.out.mono ?_
        rintro e w' ⟨rfl, k, rfl⟩
        go_wp2_with fail
        go_loopw [4, 5] (fun v i wr => ∃ k : Nat, k ≤ N ∧ i = .int .i64 ((8 + k * 40 : Nat) : Int) ∧ Own bodyE 46 wr w.heap.size v (rowsL b k) ∧ Below w.heap.size w wr) (fun _ i _ => b.length - (intOf i).toNat)
        case atStart => exact ⟨0, by omega, rfl, Own.nil _ _ _ _, bel_drewN (Below.refl _ _) _⟩
        case round =>
          obtain ⟨k, hk, rfl, ho, hbel⟩ := hrel
          have hz1 := hbel.size
          have ho1 := Lib.hid ho
          have hbel1 := Lib.hid hbel
          clear ho hbel
          obtain ⟨p, hp⟩ : ∃ p, p = 8 + k * 40 := ⟨_, rfl⟩
          rw [← hp]
          by_cases hlt : k < N
          · have hp' : p + 40 ≤ b.length := by have := HS.out; omega
            have zA' : b1 < wr.heap.size := by omega
            have hp1 : (p : Int) + 40 ≤ b.length := by omega
            have hp2 : (p : Int) + 40 ≤ c := by omega
            have hp3 : ((p : Int) + 40).toNat = p + 40 := by omega
            have hp4 : ¬ c = p := by omega
            have hp5 : (p : Int) < b.length := by omega
            have hp6 : p + 40 - p = 40 := by omega
            have HP := Lib.hid hp
            clear hp
            go_wp2_with fail
            have HC : Rec w.heap.size w b1 o1 p b wr u4 (rowsL b k) := ⟨ho1.out, hbel1.out, hz1, fun j hj => by
              rw [hbel1.out.cell (p := ⟨b1, o1 + p + j, none⟩) zA, Nat.add_assoc, hx.out (p + j) (by omega), byteAt_get]⟩
            have HC := HC.drew
            have hr0 := numAt_range HR.out.2.1 p
            obtain ⟨d, hd⟩ : ∃ d, d = c - p := ⟨_, rfl⟩
            have hd40 : 40 ≤ d := by omega
            rw [← hd]
            have HD := Lib.hid hd
            clear hd
            have k4 : (4 : Int) ≤ d := by omega
            have k8 : (8 : Int) ≤ d := by omega
            have k12 : (12 : Int) ≤ d := by omega
            have k16 : (16 : Int) ≤ d := by omega
            have k20 : (20 : Int) ≤ d := by omega
            have k24 : (24 : Int) ≤ d := by omega
            have k28 : (28 : Int) ≤ d := by omega
            have k32 : (32 : Int) ≤ d := by omega
            have k36 : (36 : Int) ≤ d := by omega
            have k40 : (40 : Int) ≤ d := by omega
            have m0 : ¬ d = 0 := by omega
            have m4 : ¬ d = 4 := by omega
            have m8 : ¬ d = 8 := by omega
            have m12 : ¬ d = 12 := by omega
            have m16 : ¬ d = 16 := by omega
            have m20 : ¬ d = 20 := by omega
            have m24 : ¬ d = 24 := by omega
            have m28 : ¬ d = 28 := by omega
            have m32 : ¬ d = 32 := by omega
            have m36 : ¬ d = 36 := by omega
            have W0 : IntKind.u32.wrap (numAt b p) = numAt b p := u32_wrap_id _ hr0.1 (by omega)
            have HF := Lib.hid HR.out.2.1
            clear hp1 hp2 hp3 hp4 hp5 hp6 hs2 hs3
            have hrl : ((rowsL b k).length + 1) * 40 ≤ 140737488355328 := by simp [rowsL]; omega
            go_region_held3 (fun w' => True) (trivial)
              (first
                | (go_at_call 23; refine (num_rec HC HF.out _).mono ?_; rintro e w1 ⟨rfl, HC⟩)
                | (go_at_call 24; refine (sgn_rec HC HF.out _ _ (by omega)).mono ?_; rintro e w1 ⟨rfl, HC⟩)
                | (refine step_body rfl (by rfl) _ _ (by rfl) (bodyAt b p) _ (by rfl) HC (by rfl) (by first | rfl | simp [go_sem]) hrl ?_; intro v1 w1 HO HB))
            have HO1 := Lib.hid HO
            have HB1 := Lib.hid HB
            clear HO HB HC W0 hr0 k4 k8 k12 k16 k20 k24 k28 k32 k36 k40 m0 m4 m8 m12 m16 m20 m24 m28 m32 m36 hrl
            have hp1 : (p : Int) + 40 ≤ b.length := by omega
            go_wp2
            go_roundw
            case rel => exact ⟨k + 1, by omega, congrArg (Value.int .i64) (by have := HP.out; omega), by rw [rows_succ, ← HP.out]; exact HO1.out, HB1.out⟩
            case measure => simp [intOf]; omega
          · have hkn : k = N := by omega
            have hpl : (b.length : Int) ≤ p := by have := HS.out; omega
            have HK := Lib.hid hkn
            have HRD := Lib.hid (ho1.out.reads (by simp [rowsL]; omega))
            obtain ⟨A2, c2, rfl⟩ := ho1.out.form
            have hw : wellB b = true := by unfold wellB; rw [decide_eq_true HM.out, decide_eq_true (p := (b.length : Int) = _) (by rw [← HN.out]; have := HS.out; omega), decide_eq_true (by omega)]; rfl
            have hrows : rowsL b ((b.length - 8) / 40) = rowsL b k := by rw [show (b.length - 8) / 40 = k from by have := HS.out; omega]
            have HW := Lib.hid hw
            have HROWS := Lib.hid hrows
            clear hkn hw hrows hp
            by_cases he : checkL (rowsL b k) = 0
            · have HE := Lib.hid he
              have he' : (checkL (rowsL b k) == 0) = true := by simpa using he
              clear he
              go_wp2_with fail
              refine (refCheck7_any _ (rowsL b k) _ (by exact HRD.out)).mono ?_
              rintro e w1 ⟨rfl, hb⟩
              obtain ⟨g0, rfl⟩ := Grow.of hb
              clear hb
              go_wp2_with fail
              go_ret2
              exact ⟨_, ret_vi (by rw [dec_ok HW.out (by rw [HROWS.out]; exact HE.out)]), by rw [dec_ok HW.out (by rw [HROWS.out]; exact HE.out), HROWS.out]; exact HRD.out.grow g0, bel_grow hbel1.out g0⟩
            · have HE := Lib.hid he
              have he' : (checkL (rowsL b k) == 0) = false := by simpa using he
              clear he
              go_wp2_with fail
              refine (refCheck7_any _ (rowsL b k) _ (by exact HRD.out)).mono ?_
              rintro e w1 ⟨rfl, hb⟩
              obtain ⟨g0, rfl⟩ := Grow.of hb
              clear hb
              go_wp2_with fail
              go_ret2
              exact ⟨.slice none 0 0, ret_vi (by rw [dec_err HW.out (by rw [HROWS.out]; exact HE.out), HROWS.out]), by rw [dec_err HW.out (by rw [HROWS.out]; exact HE.out)]; exact Reads.none _ _, bel_grow hbel1.out g0⟩
      · have hs' : ((b.length : Int) == 8 + 40 * (N : Int)) = false := by rw [beq_eq_false_iff_ne]; omega
        have hs2 : ((b.length : Int) != 8 + 40 * (N : Int)) = true := by rw [bne_iff_ne]; omega
        have HS := Lib.hid hs
        clear hs
        go_enter Try.func12, Try.ntmps12
        go_wp2_with fail
        refine G4.out.mono ?_
        rintro e w' ⟨rfl, k, rfl⟩
        go_wp2_with fail
        go_ret2
        have hw : wellB b = false := by unfold wellB; rw [decide_eq_false (p := (b.length : Int) = _) (by rw [← HN.out]; have := HS.out; omega)]; simp
        exact ⟨.slice none 0 0, ret_vi (by rw [dec_bad hw]), by rw [dec_bad hw]; exact Reads.none _ _, bel_drewN (Below.refl _ _) _⟩
    · obtain ⟨s, hs⟩ : ∃ s, strOfNums (b.take 4) = s := ⟨_, rfl⟩
      have hne : s ≠ ⟨#[66, 73, 76, 49]⟩ := hs ▸ magic_ne (fun a ha => HR.out.2.1 a (List.mem_of_mem_take ha)) hm
      have hne := magic_list hne
      rw [hs] at kc
      clear hs
      have HM := Lib.hid hm
      clear hm
      go_enter Try.func12, Try.ntmps12
      go_wp2
      go_ret2
      have hw : wellB b = false := by unfold wellB; rw [decide_eq_false HM.out]; simp
      exact ⟨.slice none 0 0, ret_vi (by rw [dec_bad hw]), by rw [dec_bad hw]; exact Reads.none _ _, Below.refl _ _⟩
end Go.Proofs.Ytlibkfjafhggkaa
