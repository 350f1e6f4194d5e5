/- The walk of CodecApart. -/
import Derived.Test.YtlibkfjafhggkaaAwake21
import Derived.Test.YtlibkfjafhggkaaCodecPure
import Derived.Deep.DeepCutAuto
namespace Go.Proofs.Ytlibkfjafhggkaa
open Go.RowKit
attribute [local go_sem] Grow.cell Grow.froz Grow.lt

theorem bytes_dec {l m : List Body} (hl : ∀ b ∈ l, b.Fit) (hm : ∀ b ∈ m, b.Fit) : decide (bytesL l = bytesL m) = decide (l = m) := by
  by_cases h : l = m
  · subst h; simp
  · rw [decide_eq_false h, decide_eq_false (fun e => h (bytes_inj hl hm e))]

set_option maxHeartbeats 4000000 in
set_option maxRecDepth 100000 in
theorem capart_walk (v u : Value) (l m : List Body) (w : World) (hl : Reads bodyE w v l) (hf : ∀ x ∈ l, x.Fit) (hm : Reads bodyE w u m) (hg : ∀ x ∈ m, x.Fit) :
    Calls Try.prog 7 #[v, u] w fun e w' => e = .returned (.bool true) ∧ Below w.heap.size w w' := by
  have q := hl.1
  have q2 := hm.1
  have HL := Lib.hid hl
  have HM := Lib.hid hm
  have HF := Lib.hid hf
  have HG := Lib.hid hg
  obtain ⟨A, c, b1, o1, rfl, _, _⟩ := hl.bodies
  obtain ⟨A', c', b1', o1', rfl, _, _⟩ := hm.bodies
  clear hl hm hf hg
  by_cases h12 : (100 : Int) < l.length ∨ (100 : Int) < m.length
  · have e12 : ((100 : Int) < l.length) ∨ ((l.length : Int) ≤ 100 ∧ (100 : Int) < m.length) := by omega
    clear h12
    rcases e12 with h1 | ⟨h1, h2⟩
    all_goals
      go_enter Try.func7, Try.ntmps7
      go_wp2_with fail
      refine (awake21_any _).mono ?_
      rintro e w1 ⟨rfl, hb⟩
      obtain ⟨g1, rfl⟩ := Grow.of hb
      clear hb
      go_wp2_with fail
      refine (awake21_any _).mono ?_
      rintro e w1 ⟨rfl, hb⟩
      obtain ⟨g2, rfl⟩ := Grow.of hb
      clear hb
      go_wp2
      go_ret
      exact ⟨rfl, bel_grow (bel_grow (Below.refl _ _) g1) g2⟩
  · have h1' : (l.length : Int) ≤ 100 := by omega
    have h2' : (m.length : Int) ≤ 100 := by omega
    clear h12
    by_cases hc : checkL l = 0
    · have HC := Lib.hid hc
      clear hc
      by_cases hd : checkL m = 0
      · have HD := Lib.hid hd
        have hx := bytesL_len l
        have hy := bytesL_len m
        have HX := Lib.hid hx
        have HY := Lib.hid hy
        clear hx hy hd
        obtain ⟨x, hxx⟩ : ∃ x, x = bytesL l := ⟨_, rfl⟩
        obtain ⟨y, hyy⟩ : ∃ y, y = bytesL m := ⟨_, rfl⟩
        rw [← hxx] at HX
        rw [← hyy] at HY
        have HXX := Lib.hid hxx
        have HYY := Lib.hid hyy
        clear hxx hyy
        go_enter Try.func7, Try.ntmps7
        go_wp2_with fail
        refine (awake21_any _).mono ?_
        rintro e w1 ⟨rfl, hb⟩
        obtain ⟨g1, rfl⟩ := Grow.of hb
        clear hb
        go_wp2_with fail
        refine (refCheck7_any _ l _ (by exact HL.out.grow g1)).mono ?_
        rintro e w1 ⟨he, hb⟩
        rw [HC.out] at he
        subst he
        obtain ⟨g2, rfl⟩ := Grow.of hb
        clear hb
        go_wp2_with fail
        refine (refCheck7_any _ m _ (by exact (HM.out.grow g1).grow g2)).mono ?_
        rintro e w1 ⟨he, hb⟩
        rw [HD.out] at he
        subst he
        obtain ⟨g3, rfl⟩ := Grow.of hb
        clear hb
        have L3 := Lib.hid (((HL.out.grow g1).grow g2).grow g3)
        have M3 := Lib.hid (((HM.out.grow g1).grow g2).grow g3)
        have C3 := Lib.hid (bel_grow (bel_grow (bel_grow (Below.refl w.heap.size w) g1) g2) g3)
        go_wp2_with fail
        refine (encode_any _ l _ L3.out HF.out).mono ?_
        rintro e w1 ⟨v4, he, hr, hb⟩
        rw [enc_ok HC.out, ← HXX.out] at he hr
        subst he
        obtain ⟨g4, rfl⟩ := Grow.of hb
        have X4 := Lib.hid (hr.reads (by have := HX.out; simp only; omega))
        obtain ⟨A4, c4, rfl⟩ := hr.2.form
        have L4 := Lib.hid (L3.out.grow g4)
        have M4 := Lib.hid (M3.out.grow g4)
        have C4 := Lib.hid (bel_grow C3.out g4)
        clear hb hr L3 M3 C3
        go_wp2_with fail
        refine (encode_any _ m _ M4.out HG.out).mono ?_
        rintro e w1 ⟨v5, he, hr, hb⟩
        rw [enc_ok HD.out, ← HYY.out] at he hr
        subst he
        obtain ⟨g5, rfl⟩ := Grow.of hb
        have Y5 := Lib.hid (hr.reads (by have := HY.out; simp only; omega))
        obtain ⟨A5, c5, rfl⟩ := hr.2.form
        have X5 := Lib.hid (X4.out.grow g5)
        have L5 := Lib.hid (L4.out.grow g5)
        have M5 := Lib.hid (M4.out.grow g5)
        have C5 := Lib.hid (bel_grow C4.out g5)
        clear hb hr L4 M4 C4 X4
        go_wp2_with fail
        refine (bsame_any _ _ _ _ _ X5.out Y5.out).mono ?_
        rintro e w1 ⟨he, hb⟩
        rw [HXX.out, HYY.out, bytes_dec HF.out HG.out] at he
        obtain ⟨r, hr⟩ : ∃ r, r = decide (l = m) := ⟨_, rfl⟩
        rw [← hr] at he
        have HRR := Lib.hid hr
        subst he
        obtain ⟨g6, rfl⟩ := Grow.of hb
        have L6 := Lib.hid (L5.out.grow g6)
        have M6 := Lib.hid (M5.out.grow g6)
        have C6 := Lib.hid (bel_grow C5.out g6)
        clear hb hr L5 M5 C5
        go_wp2_with fail
        refine (same_any _ _ _ _ _ L6.out M6.out).mono ?_
        rintro e w1 ⟨he, hb⟩
        rw [← HRR.out] at he
        subst he
        obtain ⟨g7, rfl⟩ := Grow.of hb
        have C7 := Lib.hid (bel_grow C6.out g7)
        clear hb L6 M6 C6
        have hxl := HX.out
        have hyl := HY.out
        have X' : (x.length : Int) = 8 + (l.length : Int) * 40 := by omega
        have Y' : (y.length : Int) = 8 + 40 * (m.length : Int) := by omega
        clear hxl hyl
        cases r
        all_goals
          go_wp2_with fail
          refine (size_any l.length _ (by omega)).mono ?_
          rintro e w1 ⟨rfl, rfl⟩
          go_wp2
          go_ret
          exact ⟨rfl, C7.out⟩
      · have hd' : (checkL m == 0) = false := by rw [beq_eq_false_iff_ne]; exact hd
        have hd2 : (checkL m != 0) = true := by rw [bne_iff_ne]; exact hd
        clear hd
        go_enter Try.func7, Try.ntmps7
        go_wp2_with fail
        refine (awake21_any _).mono ?_
        rintro e w1 ⟨rfl, hb⟩
        obtain ⟨g1, rfl⟩ := Grow.of hb
        clear hb
        go_wp2_with fail
        refine (refCheck7_any _ l _ (by exact HL.out.grow g1)).mono ?_
        rintro e w1 ⟨he, hb⟩
        rw [HC.out] at he
        subst he
        obtain ⟨g2, rfl⟩ := Grow.of hb
        clear hb
        go_wp2_with fail
        refine (refCheck7_any _ m _ (by exact (HM.out.grow g1).grow g2)).mono ?_
        rintro e w1 ⟨rfl, hb⟩
        obtain ⟨g3, rfl⟩ := Grow.of hb
        clear hb
        go_wp2_with fail
        refine (awake21_any _).mono ?_
        rintro e w1 ⟨rfl, hb⟩
        obtain ⟨g4, rfl⟩ := Grow.of hb
        clear hb
        go_wp2
        go_ret
        exact ⟨rfl, bel_grow (bel_grow (bel_grow (bel_grow (Below.refl _ _) g1) g2) g3) g4⟩
    · have hc' : (checkL l == 0) = false := by rw [beq_eq_false_iff_ne]; exact hc
      have hc2 : (checkL l != 0) = true := by rw [bne_iff_ne]; exact hc
      clear hc
      go_enter Try.func7, Try.ntmps7
      go_wp2_with fail
      refine (awake21_any _).mono ?_
      rintro e w1 ⟨rfl, hb⟩
      obtain ⟨g1, rfl⟩ := Grow.of hb
      clear hb
      go_wp2_with fail
      refine (refCheck7_any _ l _ (by exact HL.out.grow g1)).mono ?_
      rintro e w1 ⟨rfl, hb⟩
      obtain ⟨g2, rfl⟩ := Grow.of hb
      clear hb
      go_wp2_with fail
      refine (awake21_any _).mono ?_
      rintro e w1 ⟨rfl, hb⟩
      obtain ⟨g4, rfl⟩ := Grow.of hb
      clear hb
      go_wp2
      go_ret
      exact ⟨rfl, bel_grow (bel_grow (bel_grow (Below.refl _ _) g1) g2) g4⟩
theorem codecApart_all (w : World) (v0 : Value) (l0 : List Body) (s0 : Reads bodyE w v0 l0) (f0 : ∀ b ∈ l0, b.Fit) (_ : l0.length * 40 ≤ 140737488351232) (v1 : Value) (l1 : List Body) (s1 : Reads bodyE w v1 l1) (f1 : ∀ b ∈ l1, b.Fit) (_ : l1.length * 40 ≤ 140737488351232) :
    Calls Try.prog 7 #[v0, v1] w fun e w' => e = .returned (.bool true) ∧ Below w.heap.size w w' :=
  capart_walk v0 v1 l0 l1 w s0 f0 s1 f1
end Go.Proofs.Ytlibkfjafhggkaa
