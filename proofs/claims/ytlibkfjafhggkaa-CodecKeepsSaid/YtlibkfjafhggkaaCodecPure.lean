/- Plain facts of the encoding: what is encoded is decoded, and back. -/
import Derived.Test.YtlibkfjafhggkaaDec
namespace Go.Proofs.Ytlibkfjafhggkaa
open Go.RowKit

theorem byteAt_right (pre r : List Int) (j : Nat) : byteAt (pre ++ r) (pre.length + j) = byteAt r j := by
  simp [byteAt, List.getD, List.getElem?_append_right]
theorem byteAt_left {pre r : List Int} {j : Nat} (h : j < pre.length) : byteAt (pre ++ r) j = byteAt pre j := by
  simp [byteAt, List.getD, List.getElem?_append_left h]
theorem numAt_right (pre r : List Int) (j : Nat) : numAt (pre ++ r) (pre.length + j) = numAt r j := by
  unfold numAt
  rw [byteAt_right, Nat.add_assoc, byteAt_right, Nat.add_assoc, byteAt_right, Nat.add_assoc, byteAt_right]
theorem bodyAt_right (pre r : List Int) : bodyAt (pre ++ r) pre.length = bodyAt r 0 := by
  unfold bodyAt
  rw [show numAt (pre ++ r) pre.length = numAt r 0 from numAt_right pre r 0]
  simp only [numAt_right, Nat.zero_add]
theorem body_rec {b : Body} (h : b.Fit) (suf : List Int) : bodyAt (recL b ++ suf) 0 = b := by
  have e0 : numAt (recL b ++ suf) 0 = b.key := num4_word _
  have e1 : numAt (recL b ++ suf) 4 = ug b.radius := num4_word _
  have e2 : numAt (recL b ++ suf) 8 = ug b.ax := num4_word _
  have e3 : numAt (recL b ++ suf) 12 = ug b.ay := num4_word _
  have e4 : numAt (recL b ++ suf) 16 = ug b.inv := num4_word _
  have e5 : numAt (recL b ++ suf) 20 = ug b.bounce := num4_word _
  have e6 : numAt (recL b ++ suf) 24 = ug b.px := num4_word _
  have e7 : numAt (recL b ++ suf) 28 = ug b.py := num4_word _
  have e8 : numAt (recL b ++ suf) 32 = ug b.vx := num4_word _
  have e9 : numAt (recL b ++ suf) 36 = ug b.vy := num4_word _
  unfold bodyAt
  simp only [Nat.zero_add, e0, e1, e2, e3, e4, e5, e6, e7, e8, e9, bodyOf, sg_ug h.radius, sg_ug h.ax, sg_ug h.ay, sg_ug h.inv, sg_ug h.bounce, sg_ug h.px, sg_ug h.py, sg_ug h.vx, sg_ug h.vy]
theorem rows_recs : ∀ (l : List Body) (pre : List Int), (∀ b ∈ l, b.Fit) → (List.range l.length).map (fun i => bodyAt (pre ++ l.flatMap recL) (pre.length + i * 40)) = l
  | [], _, _ => rfl
  | x :: r, pre, h => by
    rw [List.length_cons, List.range_succ_eq_map, List.map_cons, List.map_map, List.flatMap_cons]
    have h0 : bodyAt (pre ++ (recL x ++ r.flatMap recL)) (pre.length + 0 * 40) = x := by
      rw [Nat.zero_mul, Nat.add_zero, bodyAt_right]
      exact body_rec (h x (by simp)) _
    have h1 := rows_recs r (pre ++ recL x) (fun b hb => h b (by simp [hb]))
    rw [h0]
    congr 1
    refine Eq.trans ?_ h1
    refine List.map_congr_left fun i _ => ?_
    rw [← List.append_assoc, List.length_append, recL_len]
    show bodyAt _ (pre.length + (i + 1) * 40) = _
    rw [show pre.length + (i + 1) * 40 = pre.length + 40 + i * 40 from by omega]
theorem headL_len (n : Nat) : (headL n).length = 8 := rfl
theorem rows_bytes {l : List Body} (h : ∀ b ∈ l, b.Fit) : rowsL (bytesL l) l.length = l := rows_recs l (headL l.length) h
theorem num_bytes (l : List Body) : numAt (bytesL l) 4 = (l.length : Int) := num4_word _
theorem well_bytes (l : List Body) : wellB (bytesL l) = true := by
  unfold wellB
  rw [num_bytes, bytesL_len, decide_eq_true (by omega : 8 ≤ 8 + l.length * 40), decide_eq_true (by omega : ((8 + l.length * 40 : Nat) : Int) = 8 + (l.length : Int) * 40)]
  rfl
theorem dec_bytes {l : List Body} (h : ∀ b ∈ l, b.Fit) : decL (bytesL l) = if checkL l = 0 then (l, 0) else ([], checkL l) := by
  have hr : rowsL (bytesL l) (((bytesL l).length - 8) / 40) = l := by
    rw [bytesL_len, show (8 + l.length * 40 - 8) / 40 = l.length from by omega]
    exact rows_bytes h
  by_cases hc : checkL l = 0
  · rw [if_pos hc, dec_ok (well_bytes l) (by rw [hr]; exact hc), hr]
  · rw [if_neg hc, dec_err (well_bytes l) (by rw [hr]; exact hc), hr]

section
variable {b : List Int}
theorem chunk4 (hf : ∀ a ∈ b, 0 ≤ a ∧ a ≤ 255) {p : Nat} (h : p + 4 ≤ b.length) : (b.drop p).take 4 = word4 (numAt b p) := by
  unfold numAt
  rw [word4_num (byteAt_fit hf _) (byteAt_fit hf _) (byteAt_fit hf _)]
  refine List.ext_getElem (by simp; omega) fun i h1 h2 => ?_
  simp only [List.getElem_take, List.getElem_drop]
  rw [byteAt_get (by simp at h1; omega)]
  have hi : i < 4 := by simpa using h2
  obtain rfl | rfl | rfl | rfl : i = 0 ∨ i = 1 ∨ i = 2 ∨ i = 3 := by omega
  all_goals rfl
theorem chunk_next {p m n : Nat} : (b.drop p).take (m + n) = (b.drop p).take m ++ (b.drop (p + m)).take n := by
  rw [List.take_add, List.drop_drop]
theorem chunk40 (hf : ∀ a ∈ b, 0 ≤ a ∧ a ≤ 255) {p : Nat} (h : p + 40 ≤ b.length) : recL (bodyAt b p) = (b.drop p).take 40 := by
  have hr := fun q => numAt_range hf q
  have e : recL (bodyAt b p) = word4 (numAt b p) ++ (word4 (numAt b (p + 4)) ++ (word4 (numAt b (p + 8)) ++ (word4 (numAt b (p + 12)) ++ (word4 (numAt b (p + 16)) ++ (word4 (numAt b (p + 20)) ++ (word4 (numAt b (p + 24)) ++ (word4 (numAt b (p + 28)) ++ (word4 (numAt b (p + 32)) ++ word4 (numAt b (p + 36)))))))))) := by
    simp only [recL, fieldsL, bodyAt, bodyOf, ug_sg (hr _), List.flatMap_cons, List.flatMap_nil, List.append_nil]
  rw [e, ← chunk4 hf (p := p) (by omega), ← chunk4 hf (p := p + 4) (by omega), ← chunk4 hf (p := p + 8) (by omega), ← chunk4 hf (p := p + 12) (by omega), ← chunk4 hf (p := p + 16) (by omega), ← chunk4 hf (p := p + 20) (by omega), ← chunk4 hf (p := p + 24) (by omega), ← chunk4 hf (p := p + 28) (by omega), ← chunk4 hf (p := p + 32) (by omega), ← chunk4 hf (p := p + 36) (by omega)]
  rw [show (40 : Nat) = 4 + 36 from rfl, chunk_next, show (36 : Nat) = 4 + 32 from rfl, chunk_next, show (32 : Nat) = 4 + 28 from rfl, chunk_next, show (28 : Nat) = 4 + 24 from rfl, chunk_next, show (24 : Nat) = 4 + 20 from rfl, chunk_next,
    show (20 : Nat) = 4 + 16 from rfl, chunk_next, show (16 : Nat) = 4 + 12 from rfl, chunk_next, show (12 : Nat) = 4 + 8 from rfl, chunk_next, show (8 : Nat) = 4 + 4 from rfl, chunk_next]
theorem recs_rows (hf : ∀ a ∈ b, 0 ≤ a ∧ a ≤ 255) : ∀ n, 8 + n * 40 ≤ b.length → (rowsL b n).flatMap recL = (b.drop 8).take (n * 40)
  | 0, _ => by simp [rowsL]
  | n + 1, h => by
    rw [rows_succ, List.flatMap_append, recs_rows hf n (by omega), show (n + 1) * 40 = n * 40 + 40 from by omega, chunk_next]
    congr 1
    simp only [List.flatMap_cons, List.flatMap_nil, List.append_nil]
    exact chunk40 hf (by omega)
theorem well_parts (h : wellB b = true) : 8 ≤ b.length ∧ b.take 4 = magicL ∧ (b.length : Int) = 8 + numAt b 4 * 40 := by
  unfold wellB at h
  simp only [Bool.and_eq_true, decide_eq_true_eq] at h
  exact ⟨h.1, h.2.1, h.2.2⟩
theorem rows_len (n : Nat) : (rowsL b n).length = n := by simp [rowsL]
/-- Bytes that are decoded are the encoding of the result. -/
theorem bytes_rows (hf : ∀ a ∈ b, 0 ≤ a ∧ a ≤ 255) (h : wellB b = true) : bytesL (rowsL b ((b.length - 8) / 40)) = b := by
  obtain ⟨h8, hm, hn⟩ := well_parts h
  have hr := numAt_range hf 4
  obtain ⟨N, hN⟩ := Int.eq_ofNat_of_zero_le hr.1
  rw [hN] at hn
  have hlen : b.length = 8 + N * 40 := by omega
  have hq : (b.length - 8) / 40 = N := by omega
  rw [hq]
  unfold bytesL
  rw [rows_len, recs_rows hf N (by omega)]
  have h1 : headL N = b.take 8 := by
    unfold headL
    rw [show (8 : Nat) = 4 + 4 from rfl, List.take_add, hm, chunk4 hf (by omega), hN]
    rfl
  rw [h1, List.take_of_length_le (l := b.drop 8) (by simp; omega), List.take_append_drop]
theorem rows_fit (hf : ∀ a ∈ b, 0 ≤ a ∧ a ≤ 255) (n : Nat) : ∀ x ∈ rowsL b n, x.Fit := by
  intro x hx
  obtain ⟨i, _, rfl⟩ := List.mem_map.1 hx
  exact ⟨numAt_range hf _, sg_fit _, sg_fit _, sg_fit _, sg_fit _, sg_fit _, sg_fit _, sg_fit _, sg_fit _, sg_fit _⟩
theorem dec_facts (hf : ∀ a ∈ b, 0 ≤ a ∧ a ≤ 255) {y : List Body} {e : Int} (h : decL b = (y, e)) : (∀ x ∈ y, x.Fit) ∧ (¬ e = 0 → y = []) ∧ (e = 0 → encL y = (b, 0) ∧ checkL y = 0) ∧ y.length * 40 ≤ b.length := by
  by_cases hw : wellB b = true
  · have hl := well_parts hw
    by_cases hc : checkL (rowsL b ((b.length - 8) / 40)) = 0
    · rw [dec_ok hw hc] at h
      simp only [Prod.mk.injEq] at h
      obtain ⟨rfl, rfl⟩ := h
      refine ⟨rows_fit hf _, fun h => absurd rfl h, fun _ => ⟨by rw [enc_ok hc, bytes_rows hf hw], hc⟩, by rw [rows_len]; omega⟩
    · rw [dec_err hw hc] at h
      simp only [Prod.mk.injEq] at h
      obtain ⟨rfl, rfl⟩ := h
      exact ⟨by simp, fun _ => rfl, fun h => absurd h hc, by simp⟩
  · rw [dec_bad (by simpa using hw)] at h
    simp only [Prod.mk.injEq] at h
    obtain ⟨rfl, rfl⟩ := h
    exact ⟨by simp, fun _ => rfl, fun h => absurd h (by decide), by simp⟩
end

theorem bytes_inj {l m : List Body} (hl : ∀ b ∈ l, b.Fit) (hm : ∀ b ∈ m, b.Fit) (h : bytesL l = bytesL m) : l = m := by
  have hn : l.length = m.length := by
    have := congrArg (fun b => numAt b 4) h
    simp only [num_bytes] at this
    omega
  rw [← rows_bytes hl, h, hn, rows_bytes hm]

theorem well_take (l : List Body) {k : Nat} (hk : k < (bytesL l).length) : wellB ((bytesL l).take k) = false := by
  have hl := bytesL_len l
  have hlen : ((bytesL l).take k).length = k := by rw [List.length_take]; omega
  unfold wellB
  rw [hlen]
  by_cases h8 : 8 ≤ k
  · have e : numAt ((bytesL l).take k) 4 = l.length := by
      rw [← num_bytes l]
      have hb : ∀ j, j < 8 → byteAt ((bytesL l).take k) j = byteAt (bytesL l) j := fun j hj => by
        simp [byteAt, List.getD, List.getElem?_take_of_lt (show j < k by omega)]
      unfold numAt
      rw [hb 4 (by omega), hb 5 (by omega), hb 6 (by omega), hb 7 (by omega)]
    rw [e, decide_eq_false (p := (k : Int) = _) (by omega)]
    simp
  · rw [decide_eq_false h8]; rfl
theorem well_more (l : List Body) : wellB (bytesL l ++ [0]) = false := by
  have hl := bytesL_len l
  have e : numAt (bytesL l ++ [0]) 4 = l.length := by
    rw [← num_bytes l]
    unfold numAt
    rw [byteAt_left (by omega), byteAt_left (by omega), byteAt_left (by omega), byteAt_left (by omega)]
  unfold wellB
  rw [e, List.length_append, hl, decide_eq_false (p := ((8 + l.length * 40 + [0].length : Nat) : Int) = _) (by simp; omega)]
  simp
theorem well_set (l : List Body) {i : Nat} {y : Int} (hi : i < 4) (hne : y ≠ byteAt (bytesL l) (4 + i)) (hf : ∀ a ∈ bytesL l, 0 ≤ a ∧ a ≤ 255) : wellB ((bytesL l).set (4 + i) y) = false := by
  have hl := bytesL_len l
  have hg : ∀ j, byteAt ((bytesL l).set (4 + i) y) (4 + j) = if i = j then y else byteAt (bytesL l) (4 + j) := fun j => by
    by_cases h : i = j
    · subst h
      simp [byteAt, List.getD, show 4 + i < (bytesL l).length by omega]
    · rw [if_neg h]
      simp [byteAt, List.getD, List.getElem?_set_ne (show 4 + i ≠ 4 + j by omega)]
  have hn : numAt ((bytesL l).set (4 + i) y) 4 ≠ numAt (bytesL l) 4 := by
    intro e
    unfold numAt at e
    have g0 := hg 0
    have g1 := hg 1
    have g2 := hg 2
    have g3 := hg 3
    simp only [Nat.add_zero, Nat.reduceAdd] at g0 g1 g2 g3 e
    rw [g0, g1, g2, g3] at e
    have f0 := byteAt_fit hf 4
    have f1 := byteAt_fit hf 5
    have f2 := byteAt_fit hf 6
    have f3 := byteAt_fit hf 7
    unfold num4 at e
    obtain rfl | rfl | rfl | rfl : i = 0 ∨ i = 1 ∨ i = 2 ∨ i = 3 := by omega
    all_goals
      simp at e hne
      omega
  rw [num_bytes] at hn
  unfold wellB
  rw [List.length_set, hl, decide_eq_false (p := ((8 + l.length * 40 : Nat) : Int) = _) (by omega)]
  simp
theorem bytes_fit {l : List Body} (h : ∀ b ∈ l, b.Fit) (hn : l.length ≤ 4294967295) : ∀ a ∈ bytesL l, 0 ≤ a ∧ a ≤ 255 := by
  intro a ha
  unfold bytesL headL at ha
  rcases List.mem_append.1 ha with ha | ha
  · rcases List.mem_append.1 ha with ha | ha
    · exact magic_fit a ha
    · exact word4_fit (by omega) (by omega) a ha
  · obtain ⟨b, hb, ha⟩ := List.mem_flatMap.1 ha
    obtain ⟨f, hf, ha⟩ := List.mem_flatMap.1 ha
    have := fields_fit (h b hb) f hf
    exact word4_fit this.1 this.2 a ha
end Go.Proofs.Ytlibkfjafhggkaa
