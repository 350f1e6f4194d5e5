/- The walk of CodecMatchesReference. -/
import Derived.Test.YtlibkfjafhggkaaAwake21
namespace Go.Proofs.Ytlibkfjafhggkaa
open Go.RowKit
attribute [local go_sem] Grow.cell Grow.froz Grow.lt

set_option maxHeartbeats 4000000 in
set_option maxRecDepth 100000 in
theorem cmatch_walk (v u : Value) (l : List Body) (b : List Int) (w : World) (hl : Reads bodyE w v l) (hf : ∀ x ∈ l, x.Fit) (hb : RB w u b) :
    Calls Try.prog 3 #[v, u] w fun e w' => e = .returned (.bool true) ∧ Below w.heap.size w w' := by
  have q := hl.1
  have q2 := hb.1
  have HL := Lib.hid hl
  have HB := Lib.hid hb
  have HF := Lib.hid hf
  obtain ⟨A, c, b1, o1, rfl, _, _⟩ := hl.bodies
  obtain ⟨A', c', b1', o1', rfl, _, _⟩ := hb.form
  clear hl hb hf
  by_cases h1 : (100 : Int) < l.length
  · go_enter Try.func3, Try.ntmps3
    go_wp2_with fail
    refine (awake21_any _).mono ?_
    rintro e w1 ⟨rfl, hb⟩
    obtain ⟨g1, rfl⟩ := Grow.of hb
    clear hb
    go_wp2_with fail
    refine (awake21_any _).mono ?_
    rintro e w1 ⟨rfl, hb⟩
    obtain ⟨g2, rfl⟩ := Grow.of hb
    clear hb
    go_wp2
    go_ret
    exact ⟨rfl, bel_grow (bel_grow (Below.refl _ _) g1) g2⟩
  · have h1' : (l.length : Int) ≤ 100 := by omega
    by_cases h2 : (5000 : Int) < b.length
    · go_enter Try.func3, Try.ntmps3
      go_wp2_with fail
      refine (awake21_any _).mono ?_
      rintro e w1 ⟨rfl, hb⟩
      obtain ⟨g1, rfl⟩ := Grow.of hb
      clear hb
      go_wp2_with fail
      refine (awake21_any _).mono ?_
      rintro e w1 ⟨rfl, hb⟩
      obtain ⟨g2, rfl⟩ := Grow.of hb
      clear hb
      go_wp2
      go_ret
      exact ⟨rfl, bel_grow (bel_grow (Below.refl _ _) g1) g2⟩
    · have h2' : (b.length : Int) ≤ 5000 := by omega
      clear h1 h2
      obtain ⟨x, ex, hx⟩ : ∃ x ex, encL l = (x, ex) := ⟨_, _, rfl⟩
      obtain ⟨y, ey, hy⟩ : ∃ y ey, decL b = (y, ey) := ⟨_, _, rfl⟩
      have HX := Lib.hid hx
      have HY := Lib.hid hy
      clear hx hy
      go_enter Try.func3, Try.ntmps3
      go_wp2_with fail
      refine (awake21_any _).mono ?_
      rintro e w1 ⟨rfl, hb⟩
      obtain ⟨g1, rfl⟩ := Grow.of hb
      clear hb
      go_wp2_with fail
      refine (encode_any _ l _ (by exact HL.out.grow g1) HF.out).mono ?_
      rintro e w1 ⟨v1, he, hr, hb⟩
      rw [HX.out] at he hr
      subst he
      obtain ⟨g2, rfl⟩ := Grow.of hb
      have hxl : x.length ≤ 10000 := by
        have : x = (encL l).1 := by rw [HX.out]
        rw [this]; unfold encL; split
        · simp
        · rw [bytesL_len]; omega
      have R2 := Lib.hid (hr.reads (by simp only; omega))
      clear hb hr
      go_wp2_with fail
      refine (refEncode_any _ l _ (by exact (HL.out.grow g1).grow g2) HF.out).mono ?_
      rintro e w1 ⟨v2, he, hr, hb⟩
      rw [HX.out] at he hr
      subst he
      obtain ⟨g3, rfl⟩ := Grow.of hb
      have S3 := Lib.hid (hr.reads (by simp only; omega))
      have R3 := Lib.hid (R2.out.grow g3)
      clear hb hr R2
      go_wp2_with fail
      refine (decode_any _ b _ (by exact ((HB.out.grow g1).grow g2).grow g3)).mono ?_
      rintro e w1 ⟨v3, he, hr, hb⟩
      rw [HY.out] at he hr
      subst he
      obtain ⟨g4, rfl⟩ := Grow.of hb
      have S4 := Lib.hid (S3.out.grow g4)
      have R4 := Lib.hid (R3.out.grow g4)
      have T4 := Lib.hid hr
      clear hb hr R3 S3
      go_wp2_with fail
      refine (refDecode_any _ b _ (by exact (((HB.out.grow g1).grow g2).grow g3).grow g4)).mono ?_
      rintro e w1 ⟨v4, he, hr, hb⟩
      rw [HY.out] at he hr
      subst he
      obtain ⟨g5, rfl⟩ := Grow.of hb
      have S5 := Lib.hid (S4.out.grow g5)
      have R5 := Lib.hid (R4.out.grow g5)
      have T5 := Lib.hid (T4.out.grow g5)
      have U5 := Lib.hid hr
      clear hb hr R4 S4 T4
      go_wp2_with fail
      refine (bsame_any _ _ _ _ _ R5.out S5.out).mono ?_
      rintro e w1 ⟨he, hb⟩
      rw [decide_eq_true rfl] at he
      subst he
      obtain ⟨g6, rfl⟩ := Grow.of hb
      have T6 := Lib.hid (T5.out.grow g6)
      have U6 := Lib.hid (U5.out.grow g6)
      clear hb R5 S5 T5 U5
      go_wp2_with fail
      refine (same_any _ _ _ _ _ T6.out U6.out).mono ?_
      rintro e w1 ⟨he, hb⟩
      rw [decide_eq_true rfl] at he
      subst he
      obtain ⟨g7, rfl⟩ := Grow.of hb
      clear hb T6 U6
      go_wp2_with fail
      refine (size_any l.length _ (by omega)).mono ?_
      rintro e w1 ⟨rfl, rfl⟩
      go_wp2_with fail
      refine (bytes_any _ l _ (by exact ((((((HL.out.grow g1).grow g2).grow g3).grow g4).grow g5).grow g6).grow g7) HF.out (by omega)).mono ?_
      rintro e w1 ⟨v8, rfl, hr, hb⟩
      obtain ⟨g8, rfl⟩ := Grow.of hb
      obtain ⟨A8, c8, rfl⟩ := hr.2.form
      have hz := bytesL_len l
      rw [hz]
      clear hb hr hz
      go_wp2
      go_ret
      exact ⟨rfl, bel_grow (bel_grow (bel_grow (bel_grow (bel_grow (bel_grow (bel_grow (bel_grow (Below.refl _ _) g1) g2) g3) g4) g5) g6) g7) g8⟩
theorem codecMatchesReference_all (w : World) (v0 : Value) (l0 : List Body) (s0 : Reads bodyE w v0 l0) (f0 : ∀ b ∈ l0, b.Fit) (_ : l0.length * 40 ≤ 140737488351232) (v1 : Value) (l1 : List Int) (s1 : RB w v1 l1) (_ : ∀ b ∈ l1, True) (_ : l1.length * 1 ≤ 140737488351232) :
    Calls Try.prog 3 #[v0, v1] w fun e w' => e = .returned (.bool true) ∧ Below w.heap.size w w' :=
  cmatch_walk v0 v1 l0 l1 w s0 f0 s1
end Go.Proofs.Ytlibkfjafhggkaa
