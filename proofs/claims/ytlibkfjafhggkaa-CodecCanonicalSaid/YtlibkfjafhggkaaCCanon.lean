/- The walk of CodecCanonical. -/
import Derived.Test.YtlibkfjafhggkaaAwake21
import Derived.Test.YtlibkfjafhggkaaCodecPure
import Derived.Deep.DeepCutAuto
namespace Go.Proofs.Ytlibkfjafhggkaa
open Go.RowKit
attribute [local go_sem] Grow.cell Grow.froz Grow.lt

theorem enc_len {l : List Body} {x : List Int} {e : Int} (h : encL l = (x, e)) (hl : l.length ≤ 1000) : x.length ≤ 100000 := by
  have : x = (encL l).1 := by rw [h]
  rw [this]; unfold encL; split
  · simp
  · rw [bytesL_len]; omega

set_option maxHeartbeats 4000000 in
set_option maxRecDepth 100000 in
theorem ccanon_walk (v u : Value) (l : List Body) (b : List Int) (w : World) (hl : Reads bodyE w v l) (hf : ∀ x ∈ l, x.Fit) (hb : RB w u b) :
    Calls Try.prog 4 #[v, u] w fun e w' => e = .returned (.bool true) ∧ Below w.heap.size w w' := by
  have q := hl.1
  have q2 := hb.1
  have HL := Lib.hid hl
  have HB := Lib.hid hb
  have HF := Lib.hid hf
  obtain ⟨A, c, b1, o1, rfl, _, _⟩ := hl.bodies
  obtain ⟨A', c', b1', o1', rfl, _, _⟩ := hb.form
  clear hl hb hf
  by_cases h12 : (100 : Int) < l.length ∨ (5000 : Int) < b.length
  · have e12 : ((100 : Int) < l.length) ∨ ((l.length : Int) ≤ 100 ∧ (5000 : Int) < b.length) := by omega
    clear h12
    rcases e12 with h1 | ⟨h1, h2⟩
    all_goals
      go_enter Try.func4, Try.ntmps4
      go_wp2_with fail
      refine (awake21_any _).mono ?_
      rintro e w1 ⟨rfl, hb⟩
      obtain ⟨g1, rfl⟩ := Grow.of hb
      clear hb
      go_wp2_with fail
      refine (awake21_any _).mono ?_
      rintro e w1 ⟨rfl, hb⟩
      obtain ⟨g2, rfl⟩ := Grow.of hb
      clear hb
      go_wp2
      go_ret
      exact ⟨rfl, bel_grow (bel_grow (Below.refl _ _) g1) g2⟩
  · have h1' : (l.length : Int) ≤ 100 := by omega
    have h2' : (b.length : Int) ≤ 5000 := by omega
    clear h12
    obtain ⟨x, ex, hx⟩ : ∃ x ex, encL l = (x, ex) := ⟨_, _, rfl⟩
    obtain ⟨y, ey, hy⟩ : ∃ y ey, decL b = (y, ey) := ⟨_, _, rfl⟩
    obtain ⟨fy, ny, oy, hyl⟩ := dec_facts HB.out.2.1 hy
    have FY := Lib.hid fy
    have NY := Lib.hid ny
    have OY := Lib.hid oy
    have hxl := enc_len hx (by omega)
    have HX := Lib.hid hx
    have HY := Lib.hid hy
    clear hx hy fy ny oy
    go_enter Try.func4, Try.ntmps4
    go_wp2_with fail
    refine (awake21_any _).mono ?_
    rintro e w1 ⟨rfl, hb⟩
    obtain ⟨g1, rfl⟩ := Grow.of hb
    clear hb
    go_wp2_with fail
    refine (encode_any _ l _ (by exact HL.out.grow g1) HF.out).mono ?_
    rintro e w1 ⟨v1, he, hr, hb⟩
    rw [HX.out] at he hr
    subst he
    obtain ⟨g2, rfl⟩ := Grow.of hb
    have R2 := Lib.hid (hr.reads (by simp only; omega))
    obtain ⟨A2, c2, rfl⟩ := hr.2.form
    clear hb hr
    have hxx : (ex = 0 ∧ decL x = (l, 0)) ∨ ((ex == 0) = false ∧ x = []) := by
      by_cases hc : checkL l = 0
      · have h := HX.out
        rw [enc_ok hc] at h
        simp only [Prod.mk.injEq] at h
        exact .inl ⟨h.2.symm, by rw [← h.1, dec_bytes HF.out, if_pos hc]⟩
      · have h := HX.out
        rw [enc_err hc] at h
        simp only [Prod.mk.injEq] at h
        exact .inr ⟨by rw [beq_eq_false_iff_ne, ← h.2]; exact hc, h.1.symm⟩
    have HXX := Lib.hid hxx
    clear hxx
    go_upto_if 32 with fail
    go_cut [] (fun wx => Below g2.world.heap.size g2.world wx)
    case first => as_aux_lemma =>
      rcases HXX.out with ⟨rfl, hd⟩ | ⟨h0, rfl⟩
      · have HD := Lib.hid hd
        clear hd
        go_wp2_with fail
        refine (decode_any _ x _ (by exact R2.out)).mono ?_
        rintro e w1 ⟨v3, he, hr, hb⟩
        rw [HD.out] at he hr
        subst he
        obtain ⟨g3, rfl⟩ := Grow.of hb
        have R3 := Lib.hid hr
        clear hb hr
        go_wp2_with fail
        refine (same_any _ _ _ _ _ R3.out (((HL.out.grow g1).grow g2).grow g3)).mono ?_
        rintro e w1 ⟨he, hb⟩
        rw [decide_eq_true rfl] at he
        subst he
        obtain ⟨g4, rfl⟩ := Grow.of hb
        clear hb
        go_wp2
        go_meet
        exact bel_grow (bel_grow (Below.refl _ _) g3) g4
      · go_wp2
        go_meet
        exact Below.refl _ _
    case rest => as_aux_lemma =>
    obtain ⟨g3, rfl⟩ := Grow.of hcut
    clear hcut
    go_wp2_with fail
    refine (decode_any _ b _ (by exact ((HB.out.grow g1).grow g2).grow g3)).mono ?_
    rintro e w1 ⟨v4, he, hr, hb⟩
    rw [HY.out] at he hr
    subst he
    obtain ⟨g4, rfl⟩ := Grow.of hb
    have R4 := Lib.hid hr
    obtain ⟨A4, c4, b4, o4, rfl, _, _⟩ := hr.bodies
    clear hb hr
    by_cases hey : ey = 0
    · obtain ⟨he1, he2⟩ := OY.out hey
      subst hey
      have HE1 := Lib.hid he1
      have HE2 := Lib.hid he2
      clear he1 he2
      go_wp2_with fail
      refine (encode_any _ y _ R4.out FY.out).mono ?_
      rintro e w1 ⟨v5, he, hr, hb⟩
      rw [HE1.out] at he hr
      subst he
      obtain ⟨g5, rfl⟩ := Grow.of hb
      have R5 := Lib.hid (hr.reads (by simp only; omega))
      clear hb hr
      go_wp2_with fail
      refine (bsame_any _ _ _ _ _ R5.out ((((HB.out.grow g1).grow g2).grow g3).grow g4 |>.grow g5)).mono ?_
      rintro e w1 ⟨he, hb⟩
      rw [decide_eq_true rfl] at he
      subst he
      obtain ⟨g6, rfl⟩ := Grow.of hb
      clear hb
      go_wp2_with fail
      refine (refCheck7_any _ y _ ((R4.out.grow g5).grow g6)).mono ?_
      rintro e w1 ⟨he, hb⟩
      rw [HE2.out] at he
      subst he
      obtain ⟨g7, rfl⟩ := Grow.of hb
      clear hb
      go_wp2
      go_ret
      exact ⟨rfl, bel_grow (bel_grow (bel_grow (bel_grow (bel_grow (bel_grow (bel_grow (Below.refl _ _) g1) g2) g3) g4) g5) g6) g7⟩
    · obtain rfl := NY.out hey
      have hey' : (ey == 0) = false := by rw [beq_eq_false_iff_ne]; exact hey
      clear hey
      go_wp2
      go_ret
      exact ⟨rfl, bel_grow (bel_grow (bel_grow (bel_grow (Below.refl _ _) g1) g2) g3) g4⟩
theorem codecCanonical_all (w : World) (v0 : Value) (l0 : List Body) (s0 : Reads bodyE w v0 l0) (f0 : ∀ b ∈ l0, b.Fit) (_ : l0.length * 40 ≤ 140737488351232) (v1 : Value) (l1 : List Int) (s1 : RB w v1 l1) (_ : ∀ b ∈ l1, True) (_ : l1.length * 1 ≤ 140737488351232) :
    Calls Try.prog 4 #[v0, v1] w fun e w' => e = .returned (.bool true) ∧ Below w.heap.size w w' :=
  ccanon_walk v0 v1 l0 l1 w s0 f0 s1
end Go.Proofs.Ytlibkfjafhggkaa
