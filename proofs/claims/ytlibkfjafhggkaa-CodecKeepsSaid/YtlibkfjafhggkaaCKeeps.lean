/- The walk of CodecKeeps. -/
import Derived.Test.YtlibkfjafhggkaaCCut
namespace Go.Proofs.Ytlibkfjafhggkaa
open Go.RowKit
attribute [local go_sem] Grow.cell Grow.froz Grow.lt

theorem Reads.cellA {α : Type} {E : Enc α} {w : World} {A : Option Addr} {n c : Nat} {l : List α} (h : Reads E w (.slice A n c) l) : 0 < l.length → ∃ ad, A = some ad ∧ ∀ j u, (l.flatMap E.cells)[j]? = some u → w.cell? (ad.add j) = some u := by
  intro h0
  obtain ⟨A', c', b, off, e, hA, hx⟩ := h.form
  simp only [Value.slice.injEq] at e
  obtain ⟨rfl, rfl, rfl⟩ := e
  obtain ⟨rfl, _⟩ := hA h0
  refine ⟨_, rfl, fun j u hu => ?_⟩
  have hp := E.pos
  have hj : j < l.length * E.sz := by rw [← flat_len E l]; exact (List.getElem?_eq_some_iff.1 hu).1
  have hq : j / E.sz < l.length := (Nat.div_lt_iff_lt_mul hp).2 hj
  have hr : j % E.sz < E.sz := Nat.mod_lt _ hp
  have hlen : (E.cells l[j / E.sz]).length = E.sz := E.len _
  have hu2 : (E.cells l[j / E.sz])[j % E.sz]? = some u := by
    have := flat_get E l (j / E.sz) l[j / E.sz] (j % E.sz) ((E.cells l[j / E.sz])[j % E.sz]'(by omega)) (List.getElem?_eq_getElem hq) (List.getElem?_eq_getElem _)
    rw [show j / E.sz * E.sz + j % E.sz = j from by rw [Nat.mul_comm]; exact Nat.div_add_mod j E.sz, hu] at this
    rw [List.getElem?_eq_getElem (by omega), ← this]
  have := hx (j / E.sz) hq (j % E.sz) u hu2
  rw [show (⟨b, off, Option.none⟩ : Addr).add j = ⟨b, off + j, Option.none⟩ from by unfold Addr.add; split <;> simp_all]
  rwa [show off + j / E.sz * E.sz + j % E.sz = off + j from by have : j / E.sz * E.sz + j % E.sz = j := by rw [Nat.mul_comm]; exact Nat.div_add_mod j E.sz
                                                               omega] at this
theorem RB.toReads {w : World} {v : Value} {l : List Int} (h : RB w v l) : Reads byteE w v l := by
  obtain ⟨h1, _, A, c, e, _, _, h5⟩ := h
  refine ⟨h1, A, c, e, fun i a ha => ?_⟩
  obtain ⟨b, off, hA, hc⟩ := h5 i a ha
  refine ⟨b, off, hA, fun j u hu => ?_⟩
  have hj : j = 0 := by have := (List.getElem?_eq_some_iff.1 hu).1; simp [byteE] at this; exact this
  subst hj
  obtain rfl : Value.int .u8 a = u := by simpa [byteE] using hu
  simpa [byteE] using hc

set_option maxHeartbeats 4000000 in
set_option maxRecDepth 100000 in
theorem ckeeps_walk (v u : Value) (l : List Body) (b : List Int) (w : World) (hl : Reads bodyE w v l) (hf : ∀ x ∈ l, x.Fit) (hb : RB w u b) :
    Calls Try.prog 6 #[v, u] w fun e w' => e = .returned (.bool true) ∧ Below w.heap.size w w' := by
  have q := hl.1
  have q2 := hb.1
  have HL := Lib.hid hl
  have HB := Lib.hid hb
  have HF := Lib.hid hf
  obtain ⟨A, c, b1, o1, rfl, _, _⟩ := hl.bodies
  obtain ⟨A', c', b1', o1', rfl, _, _⟩ := hb.form
  clear hl hb hf
  by_cases h12 : (100 : Int) < l.length ∨ (5000 : Int) < b.length
  · have e12 : ((100 : Int) < l.length) ∨ ((l.length : Int) ≤ 100 ∧ (5000 : Int) < b.length) := by omega
    clear h12
    rcases e12 with h1 | ⟨h1, h2⟩
    all_goals
      go_enter Try.func6, Try.ntmps6
      go_wp2_with fail
      refine (awake21_any _).mono ?_
      rintro e w1 ⟨rfl, hb⟩
      obtain ⟨g1, rfl⟩ := Grow.of hb
      clear hb
      go_wp2_with fail
      refine (awake21_any _).mono ?_
      rintro e w1 ⟨rfl, hb⟩
      obtain ⟨g2, rfl⟩ := Grow.of hb
      clear hb
      go_wp2
      go_ret
      exact ⟨rfl, bel_grow (bel_grow (Below.refl _ _) g1) g2⟩
  · have h1' : (l.length : Int) ≤ 100 := by omega
    have h2' : (b.length : Int) ≤ 5000 := by omega
    clear h12
    obtain ⟨X, ex, hx⟩ : ∃ x ex, encL l = (x, ex) := ⟨_, _, rfl⟩
    have hxl : X.length ≤ 10000 := by
      have : X = (encL l).1 := by rw [hx]
      rw [this]; unfold encL; split
      · simp
      · rw [bytesL_len]; omega
    have HX := Lib.hid hx
    clear hx
    go_enter Try.func6, Try.ntmps6
    go_wp2_with fail
    refine (awake21_any _).mono ?_
    rintro e w1 ⟨rfl, hb⟩
    obtain ⟨g1, rfl⟩ := Grow.of hb
    clear hb
    have L1 := Lib.hid (HL.out.grow g1)
    have B1 := Lib.hid (HB.out.grow g1)
    have C1 := Lib.hid (bel_grow (Below.refl w.heap.size w) g1)
    have K1 := Lib.hid ((L1.out.alloc (.cells #[] 46)).cellA)
    have N1 := Lib.hid (heap_alloc_new g1.world (.cells #[] 46))
    go_wp2_with (first
      | (at_builtin; refine copy_law bodyE g1.world.heap.size rfl (.tmp 27) (.tmp 28) 22 46 _ 40 (by rfl) Try.underlying22 bodyInfo rfl (by decide) g1.world.heap.size N1.out (Nat.le_refl _) l A c rfl rfl K1.out (by omega) ?_; intro v1 ga O1)
      | (at_builtin; refine copy_law byteE ga.world.heap.size rfl (.tmp 30) (.tmp 31) 23 byteT (.int .u8 0) 1 (by rfl) Try.underlying23 byte_info rfl (by decide) ga.world.heap.size (heap_alloc_new ga.world (.cells #[] byteT)) (Nat.le_refl _) b A' c' rfl rfl ((((B1.out.alloc (.cells #[] 46)).grow ga).alloc (.cells #[] byteT)).toReads.cellA) (by omega) ?_; intro v2 gb O2))
    have L2 := Lib.hid ((((L1.out.alloc (.cells #[] 46)).grow ga).alloc (.cells #[] byteT)).grow gb)
    have B2 := Lib.hid ((((B1.out.alloc (.cells #[] 46)).grow ga).alloc (.cells #[] byteT)).grow gb)
    have C2 := Lib.hid (bel_grow (bel_alloc (bel_grow (bel_alloc C1.out (.cells #[] 46)) ga) (.cells #[] byteT)) gb)
    have S2 := Lib.hid (((O1.reads (by omega)).alloc (.cells #[] byteT)).grow gb)
    have T2 := Lib.hid ((show OB gb.world ga.world.heap.size v2 b from ⟨HB.out.2.1, O2⟩).reads (by omega))
    clear L1 B1 C1 K1 N1 O1 O2
    refine (decode_any _ b _ B2.out).mono ?_
    rintro e w1 ⟨v3, rfl, hr, hb⟩
    obtain ⟨g3, rfl⟩ := Grow.of hb
    have L3 := Lib.hid (L2.out.grow g3)
    have B3 := Lib.hid (B2.out.grow g3)
    have C3 := Lib.hid (bel_grow C2.out g3)
    have S3 := Lib.hid (S2.out.grow g3)
    have T3 := Lib.hid (T2.out.grow g3)
    clear hb hr L2 B2 C2 S2 T2
    go_wp2_with fail
    refine (encode_any _ l _ S3.out HF.out).mono ?_
    rintro e w1 ⟨v4, he, hr, hb⟩
    rw [HX.out] at he hr
    subst he
    obtain ⟨A4, c4, rfl⟩ := hr.2.form
    have O4 := Lib.hid hr
    have HB4 := Lib.hid hb
    clear hb hr
    go_wp2_with fail
    go_loopw [9] (fun i wr => ∃ k : Nat, k ≤ X.length ∧ i = .int .i64 k ∧ (∃ ys : List Int, ys.length = X.length ∧ OB wr g3.world.heap.size (.slice A4 X.length c4) ys) ∧ Below g3.world.heap.size g3.world wr) (fun i _ => X.length - (intOf i).toNat)
    case atStart => exact ⟨0, by omega, rfl, ⟨X, rfl, O4.out⟩, HB4.out⟩
    case round =>
      obtain ⟨k, hk, rfl, ⟨ys, hyl, ho⟩, hbel⟩ := hrel
      by_cases hlt : k < X.length
      · obtain ⟨p, cp, hv, hpb, hpc, hpl, hpx, hpf⟩ := ho.pos (by omega)
        simp only [Value.slice.injEq] at hv
        obtain ⟨rfl, _, rfl⟩ := hv
        obtain ⟨x0, hx0⟩ : ∃ x0, x0 = ys[k] := ⟨_, rfl⟩
        have hxr : 0 ≤ x0 ∧ x0 ≤ 255 := by rw [hx0]; exact ho.1 _ (List.getElem_mem _)
        obtain ⟨x00, x01⟩ := hxr
        have hcell : wr.cell? ⟨p, k, none⟩ = some (.int .u8 x0) := by rw [hpx k (by omega), hx0]
        have hfroz := hpf k
        have BS := Lib.hid (hbel.setCell hpb (p := ⟨p, k, none⟩) (.int .u8 ((x0 + 1) % 256)))
        have OS := Lib.hid (ob_set (i := k) ho hyl.symm (show 0 ≤ (x0 + 1) % 256 ∧ (x0 + 1) % 256 ≤ 255 by omega))
        have YL := Lib.hid hyl
        clear hyl ho hbel hpx hpf hx0 hpb
        go_wp2
        go_roundw
        case rel => exact ⟨k + 1, by omega, by go_num, ⟨_, by rw [List.length_set]; exact YL.out, OS.out⟩, BS.out⟩
        case measure => simp [intOf]; omega
      · obtain ⟨g5, rfl⟩ := Grow.of hbel
        have L5 := Lib.hid (L3.out.grow g5)
        have B5 := Lib.hid (B3.out.grow g5)
        have C5 := Lib.hid (bel_grow C3.out g5)
        have S5 := Lib.hid (S3.out.grow g5)
        have T5 := Lib.hid (T3.out.grow g5)
        clear hbel ho hyl L3 B3 C3 S3 T3 O4 HB4
        go_wp2_with fail
        refine (encode_any _ l _ S5.out HF.out).mono ?_
        rintro e w1 ⟨v6, he, hr, hb⟩
        rw [HX.out] at he hr
        subst he
        obtain ⟨g6, rfl⟩ := Grow.of hb
        have Y6 := Lib.hid (hr.reads (by simp only; omega))
        have L6 := Lib.hid (L5.out.grow g6)
        have B6 := Lib.hid (B5.out.grow g6)
        have C6 := Lib.hid (bel_grow C5.out g6)
        have S6 := Lib.hid (S5.out.grow g6)
        have T6 := Lib.hid (T5.out.grow g6)
        clear hb hr L5 B5 C5 S5 T5
        go_wp2_with fail
        refine (refEncode_any _ l _ L6.out HF.out).mono ?_
        rintro e w1 ⟨v7, he, hr, hb⟩
        rw [HX.out] at he hr
        subst he
        obtain ⟨g7, rfl⟩ := Grow.of hb
        have Z7 := Lib.hid (hr.reads (by simp only; omega))
        have Y7 := Lib.hid (Y6.out.grow g7)
        have L7 := Lib.hid (L6.out.grow g7)
        have B7 := Lib.hid (B6.out.grow g7)
        have C7 := Lib.hid (bel_grow C6.out g7)
        have S7 := Lib.hid (S6.out.grow g7)
        have T7 := Lib.hid (T6.out.grow g7)
        clear hb hr L6 B6 C6 S6 T6 Y6
        go_wp2_with fail
        refine (same_any _ _ _ _ _ S7.out L7.out).mono ?_
        rintro e w1 ⟨he, hb⟩
        rw [decide_eq_true rfl] at he
        subst he
        obtain ⟨g8, rfl⟩ := Grow.of hb
        clear hb
        go_wp2_with fail
        refine (bsame_any _ _ _ _ _ (B7.out.grow g8) (T7.out.grow g8)).mono ?_
        rintro e w1 ⟨he, hb⟩
        rw [decide_eq_true rfl] at he
        subst he
        obtain ⟨g9, rfl⟩ := Grow.of hb
        clear hb
        go_wp2_with fail
        refine (bsame_any _ _ _ _ _ ((Y7.out.grow g8).grow g9) ((Z7.out.grow g8).grow g9)).mono ?_
        rintro e w1 ⟨he, hb⟩
        rw [decide_eq_true rfl] at he
        subst he
        obtain ⟨g10, rfl⟩ := Grow.of hb
        clear hb
        go_wp2
        go_ret
        exact ⟨rfl, bel_grow (bel_grow (bel_grow C7.out g8) g9) g10⟩
theorem codecKeeps_all (w : World) (v0 : Value) (l0 : List Body) (s0 : Reads bodyE w v0 l0) (f0 : ∀ b ∈ l0, b.Fit) (_ : l0.length * 40 ≤ 140737488351232) (v1 : Value) (l1 : List Int) (s1 : RB w v1 l1) (_ : ∀ b ∈ l1, True) (_ : l1.length * 1 ≤ 140737488351232) :
    Calls Try.prog 6 #[v0, v1] w fun e w' => e = .returned (.bool true) ∧ Below w.heap.size w w' :=
  ckeeps_walk v0 v1 l0 l1 w s0 f0 s1
end Go.Proofs.Ytlibkfjafhggkaa
