/- Plain facts for the laws of layer 19: no program in them. -/
import Derived.Test.YthoapplkaidaaaaAwake19
namespace Go.Proofs.Ythoapplkaidaaaa
open Go.RowKit

theorem putStep_mem {b x y : Body} {s : List Body × Bool} (h : y ∈ (putStep b s x).1) : y ∈ s.1 ∨ y = b ∨ y = x := by
  unfold putStep at h
  obtain ⟨a, d⟩ := s
  by_cases h1 : (!d && decide (b.key ≤ x.key)) = true
  · simp only [h1, if_true] at h
    by_cases h2 : x.key = b.key
    · simp [h2] at h
      rcases h with h | h
      · exact .inl h
      · exact .inr (.inl h)
    · simp [h2] at h
      rcases h with h | h | h
      · exact .inl h
      · exact .inr (.inl h)
      · exact .inr (.inr h)
  · rw [if_neg h1] at h
    by_cases h2 : x.key = b.key
    · simp [h2] at h
      exact .inl h
    · simp [h2] at h
      rcases h with h | h
      · exact .inl h
      · exact .inr (.inr h)
theorem putFold_mem {b y : Body} : ∀ {l : List Body} {s : List Body × Bool}, y ∈ (l.foldl (putStep b) s).1 → y ∈ s.1 ∨ y = b ∨ y ∈ l
  | [], _, h => .inl h
  | x :: r, s, h => by
    rcases putFold_mem (l := r) h with h | h | h
    · rcases putStep_mem h with h | h | h
      · exact .inl h
      · exact .inr (.inl h)
      · exact .inr (.inr (by simp [h]))
    · exact .inr (.inl h)
    · exact .inr (.inr (by simp [h]))
theorem putL_mem {l : List Body} {b y : Body} {gone : Bool} (h : y ∈ putL l b gone) : y = b ∨ y ∈ l := by
  unfold putL at h
  simp only at h
  split at h
  · rcases putFold_mem h with h | h | h
    · simp at h
    · exact .inl h
    · exact .inr h
  · rcases List.mem_append.1 h with h | h
    · rcases putFold_mem h with h | h | h
      · simp at h
      · exact .inl h
      · exact .inr h
    · exact .inl (by simpa using h)
theorem addL_mem {l : List Body} {b y : Body} (h : y ∈ (addL l b).1) : y ∈ l ∨ (y = b ∧ errOf b = 0) := by
  unfold addL at h
  split at h
  · exact .inl h
  · rename_i he
    have he' : errOf b = 0 := by simpa using he
    split at h
    · exact .inl h
    · split at h
      · exact .inl h
      · rcases putL_mem h with h | h
        · exact .inr ⟨h, he'⟩
        · exact .inl h
theorem allFold_mem {y : Body} : ∀ {l s : List Body}, y ∈ l.foldl (fun s b => (addL s b).1) s → y ∈ s ∨ (y ∈ l ∧ errOf y = 0)
  | [], _, h => .inl h
  | x :: r, s, h => by
    rcases allFold_mem (l := r) h with h | ⟨h, he⟩
    · rcases addL_mem h with h | ⟨h, he⟩
      · exact .inl h
      · subst h; exact .inr ⟨by simp, he⟩
    · exact .inr ⟨by simp [h], he⟩
theorem allFold_len : ∀ (l s : List Body), (l.foldl (fun s b => (addL s b).1) s).length ≤ s.length + l.length
  | [], s => by simp
  | x :: r, s => by
    have h1 := allFold_len r (addL s x).1
    have h2 := addL_len s x
    simp only [List.foldl_cons, List.length_cons]
    omega
theorem view_facts {l : List Body} (h : (viewL l).2 = true) : (∀ b ∈ (viewL l).1, errOf b = 0 ∧ b ∈ l) ∧ (viewL l).1.length ≤ 40 := by
  unfold viewL at h ⊢
  split at h
  · exact absurd h (by simp)
  · rename_i hl
    rw [if_neg hl]
    simp only at h ⊢
    have h0 : (sortL l).2 = 0 := by simpa using h
    unfold sortL at h0 ⊢
    split at h0
    · rename_i he; exact absurd h0 he
    · rename_i he
      rw [if_neg he]
      split at h0
      · exact absurd h0 (by decide)
      · rename_i hlt
        rw [if_neg hlt]
        refine ⟨fun b hb => ?_, ?_⟩
        · rcases allFold_mem hb with h | h
          · simp at h
          · exact ⟨h.2, h.1⟩
        · have := allFold_len l []
          simp only [allL]
          simp at this
          omega
theorem view_small {l : List Body} (h : (viewL l).2 = true) : ∀ b ∈ (viewL l).1, Small b := fun b hb => small_of ((view_facts h).1 b hb).1

theorem moveB_small {b : Body} {s : Int × Int} (h : Small b) : Small (moveB b s) := by
  have h1 := clampI_le (n := moveX b.px s.1 b.vx) (l := 1073741824) (by omega)
  have h2 := clampI_le (n := moveX b.py s.2 b.vy) (l := 1073741824) (by omega)
  unfold Small moveB at *
  simp only
  omega
theorem movL_len {l : List Body} {s : List (Int × Int)} (h : s.length = l.length) : (movL l s).length = l.length := by simp [movL, h]
theorem movL_get {l : List Body} {s : List (Int × Int)} {i : Nat} (hl : i < l.length) (hs : i < s.length) (h : i < (movL l s).length) : (movL l s)[i] = moveB l[i] s[i] := by simp [movL]
theorem movL_small {l : List Body} {s : List (Int × Int)} (h : ∀ b ∈ l, Small b) : ∀ b ∈ movL l s, Small b := by
  intro b hb
  obtain ⟨p, hp, rfl⟩ := List.mem_map.1 hb
  exact moveB_small (h _ (List.of_mem_zip hp).1)
theorem movC_get {l : List Body} {s : List (Int × Int)} (h : movC l s = false) {i : Nat} (hl : i < l.length) (hs : i < s.length) : moveC l[i] s[i] = false := by
  have := List.any_eq_false.1 h (l[i], s[i]) (by
    have hz : i < (l.zip s).length := by simp; omega
    have := List.getElem_mem hz
    simpa using this)
  simpa using this
theorem moveC_false {b : Body} {s : Int × Int} (h : moveC b s = false) : moveB b s = { b with px := moveX b.px s.1 b.vx, py := moveX b.py s.2 b.vy } ∧ -1073741824 ≤ moveX b.px s.1 b.vx ∧ moveX b.px s.1 b.vx ≤ 1073741824 ∧ -1073741824 ≤ moveX b.py s.2 b.vy ∧ moveX b.py s.2 b.vy ≤ 1073741824 := by
  unfold moveC at h
  simp only [Bool.or_eq_false_iff, Bool.not_eq_false', beq_iff_eq] at h
  have h1 := clampI_le (n := moveX b.px s.1 b.vx) (l := 1073741824) (by omega)
  have h2 := clampI_le (n := moveX b.py s.2 b.vy) (l := 1073741824) (by omega)
  refine ⟨by unfold moveB; rw [h.1, h.2], ?_⟩
  rw [h.1] at h1
  rw [h.2] at h2
  omega

theorem movedL_small {l : List Body} {dx dy : Int} (h : ∀ b ∈ l, Small b) : ∀ b ∈ (movedL l dx dy).1, Small b := by
  unfold movedL
  split
  · rename_i ha
    intro b hb
    obtain ⟨x, hx, rfl⟩ := List.mem_map.1 hb
    have hs := h x hx
    have ho := List.all_eq_true.1 ha x hx
    simp only [okMv, Bool.and_eq_true, decide_eq_true_eq] at ho
    unfold Small mvB at *
    simp only
    omega
  · exact h
theorem movedL_len {l : List Body} {dx dy : Int} : (movedL l dx dy).1.length = l.length := by
  unfold movedL; split <;> simp
theorem movedL_true {l : List Body} {dx dy : Int} (h : (movedL l dx dy).2 = true) : (movedL l dx dy).1 = l.map (mvB dx dy) := by
  unfold movedL at h ⊢
  split
  · rfl
  · rename_i hn; rw [if_neg hn] at h; simp at h
/-- Moving all bodies by the same vector before or after is the same where no limit is reached. -/
theorem moves_same {l : List Body} {s : List (Int × Int)} {dx dy : Int} (hs : s.length = l.length) (hg : (movedL l dx dy).2 = true) (ha : movC l s = false) (hb : movC (movedL l dx dy).1 s = false) :
    (movedL (movL l s) dx dy).1 = movL (movedL l dx dy).1 s := by
  rw [movedL_true hg] at hb ⊢
  have hlen := movL_len hs
  have each : ∀ i (h1 : i < l.length), moveX (l[i].px + dx) (s[i]'(by omega)).1 l[i].vx = moveX l[i].px (s[i]'(by omega)).1 l[i].vx + dx ∧ moveX (l[i].py + dy) (s[i]'(by omega)).2 l[i].vy = moveX l[i].py (s[i]'(by omega)).2 l[i].vy + dy := fun i h1 => by
    unfold moveX; omega
  have h2 : ∀ i (h1 : i < l.length), moveB l[i] (s[i]'(by omega)) = { l[i] with px := moveX l[i].px (s[i]'(by omega)).1 l[i].vx, py := moveX l[i].py (s[i]'(by omega)).2 l[i].vy } := fun i h1 => (moveC_false (movC_get ha h1 (by omega))).1
  have h3 : ∀ i (h1 : i < l.length), moveC (mvB dx dy l[i]) (s[i]'(by omega)) = false := fun i h1 => by
    have := movC_get hb (i := i) (by simpa using h1) (by omega)
    simpa using this
  have hok : ∀ i (h1 : i < (movL l s).length), okMv dx dy (movL l s)[i] = true := fun i h1 => by
    have hi : i < l.length := by omega
    rw [movL_get hi (by omega) h1, h2 i hi]
    have h4 := (moveC_false (h3 i hi)).2
    have h5 := each i hi
    simp only [mvB] at h4
    simp only [okMv, Bool.and_eq_true, decide_eq_true_eq]
    omega
  rw [moved_yes hok]
  simp only
  refine List.ext_getElem (by simp [movL]) fun i h1 h4 => ?_
  have hi : i < l.length := by simp [hlen] at h1; omega
  rw [List.getElem_map, movL_get hi (by omega) (by omega), movL_get (by simpa using hi) (by omega) h4]
  rw [List.getElem_map, h2 i hi, (moveC_false (h3 i hi)).1]
  have h5 := each i hi
  simp only [mvB]
  rw [h5.1, h5.2]
end Go.Proofs.Ythoapplkaidaaaa
