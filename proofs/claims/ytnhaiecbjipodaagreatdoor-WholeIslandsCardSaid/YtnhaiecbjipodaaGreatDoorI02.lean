/- Plain facts of a view: ascending keys, valid bodies, at most 40. No program in it. -/
import Derived.Test.YtnhaiecbjipodaaGreatDoorB16
import Derived.Test.YtnhaiecbjipodaaGreatDoorB31
namespace Go.Proofs.YtnhaiecbjipodaaGreatDoor
open Go.RowKit
theorem putStep_mem {b x y : Body} {s : List Body × Bool} (h : y ∈ (putStep b s x).1) : y ∈ s.1 ∨ y = b ∨ y = x := by
  unfold putStep at h
  obtain ⟨a, d⟩ := s
  by_cases h1 : (!d && decide (b.key ≤ x.key)) = true
  · simp only [h1, if_true] at h
    by_cases h2 : x.key = b.key
    · simp [h2] at h
      rcases h with h | h
      · exact .inl h
      · exact .inr (.inl h)
    · simp [h2] at h
      rcases h with h | h | h
      · exact .inl h
      · exact .inr (.inl h)
      · exact .inr (.inr h)
  · rw [if_neg h1] at h
    by_cases h2 : x.key = b.key
    · simp [h2] at h
      exact .inl h
    · simp [h2] at h
      rcases h with h | h
      · exact .inl h
      · exact .inr (.inr h)
theorem putFold_mem {b y : Body} : ∀ {l : List Body} {s : List Body × Bool}, y ∈ (l.foldl (putStep b) s).1 → y ∈ s.1 ∨ y = b ∨ y ∈ l
  | [], _, h => .inl h
  | x :: r, s, h => by
    rcases putFold_mem (l := r) h with h | h | h
    · rcases putStep_mem h with h | h | h
      · exact .inl h
      · exact .inr (.inl h)
      · exact .inr (.inr (by simp [h]))
    · exact .inr (.inl h)
    · exact .inr (.inr (by simp [h]))
theorem putL_mem {l : List Body} {b y : Body} {gone : Bool} (h : y ∈ putL l b gone) : y = b ∨ y ∈ l := by
  unfold putL at h
  simp only at h
  split at h
  · rcases putFold_mem h with h | h | h
    · simp at h
    · exact .inl h
    · exact .inr h
  · rcases List.mem_append.1 h with h | h
    · rcases putFold_mem h with h | h | h
      · simp at h
      · exact .inl h
      · exact .inr h
    · exact .inl (by simpa using h)
theorem addL_mem {l : List Body} {b y : Body} (h : y ∈ (addL l b).1) : y ∈ l ∨ (y = b ∧ errOf b = 0) := by
  unfold addL at h
  split at h
  · exact .inl h
  · rename_i he
    have he' : errOf b = 0 := by simpa using he
    split at h
    · exact .inl h
    · split at h
      · exact .inl h
      · rcases putL_mem h with h | h
        · exact .inr ⟨h, he'⟩
        · exact .inl h
theorem allFold_mem {y : Body} : ∀ {l s : List Body}, y ∈ l.foldl (fun s b => (addL s b).1) s → y ∈ s ∨ (y ∈ l ∧ errOf y = 0)
  | [], _, h => .inl h
  | x :: r, s, h => by
    rcases allFold_mem (l := r) h with h | ⟨h, he⟩
    · rcases addL_mem h with h | ⟨h, he⟩
      · exact .inl h
      · subst h; exact .inr ⟨by simp, he⟩
    · exact .inr ⟨by simp [h], he⟩
theorem allFold_len : ∀ (l s : List Body), (l.foldl (fun s b => (addL s b).1) s).length ≤ s.length + l.length
  | [], s => by simp
  | x :: r, s => by
    have h1 := allFold_len r (addL s x).1
    have h2 := addL_len s x
    simp only [List.foldl_cons, List.length_cons]
    omega
theorem view_facts {l : List Body} (h : (viewL l).2 = true) : (∀ b ∈ (viewL l).1, errOf b = 0 ∧ b ∈ l) ∧ (viewL l).1.length ≤ 40 := by
  unfold viewL at h ⊢
  split at h
  · exact absurd h (by simp)
  · rename_i hl
    rw [if_neg hl]
    simp only at h ⊢
    have h0 : (sortL l).2 = 0 := by simpa using h
    unfold sortL at h0 ⊢
    split at h0
    · rename_i he; exact absurd h0 he
    · rename_i he
      rw [if_neg he]
      split at h0
      · exact absurd h0 (by decide)
      · rename_i hlt
        rw [if_neg hlt]
        refine ⟨fun b hb => ?_, ?_⟩
        · rcases allFold_mem hb with h | h
          · simp at h
          · exact ⟨h.2, h.1⟩
        · have := allFold_len l []
          simp only [allL]
          simp at this
          omega

theorem putFold_yes {b : Body} : ∀ {r a : List Body}, (∀ x ∈ r, x.key ≠ b.key) → r.foldl (putStep b) (a, true) = (a ++ r, true)
  | [], a, _ => by simp
  | x :: r, a, h => by
    have e : putStep b (a, true) x = (a ++ [x], true) := by
      unfold putStep
      simp [h x (List.mem_cons_self ..)]
    rw [List.foldl_cons, e, putFold_yes (fun y hy => h y (List.mem_cons_of_mem _ hy))]
    simp
theorem asc_insert {b : Body} {a r : List Body} (h : Asc (a ++ r)) (ha : ∀ x ∈ a, x.key < b.key) (hr : ∀ x ∈ r, b.key < x.key) : Asc (a ++ b :: r) := by
  unfold Asc at *
  obtain ⟨h1, h2, h3⟩ := List.pairwise_append.1 h
  refine List.pairwise_append.2 ⟨h1, List.pairwise_cons.2 ⟨hr, h2⟩, fun x hx y hy => ?_⟩
  rcases List.mem_cons.1 hy with rfl | hy
  · exact ha x hx
  · exact h3 x hx y hy
theorem putFold_no {b : Body} : ∀ {r a : List Body}, Asc (a ++ r) → (∀ x ∈ a, x.key < b.key) → (∀ x ∈ r, x.key ≠ b.key) →
    (∃ p q, r.foldl (putStep b) (a, false) = (p ++ b :: q, true) ∧ Asc (p ++ b :: q)) ∨ (r.foldl (putStep b) (a, false) = (a ++ r, false) ∧ Asc ((a ++ r) ++ [b]))
  | [], a, h, ha, _ => by
    refine .inr ⟨by simp, ?_⟩
    rw [List.append_nil] at *
    exact asc_insert (r := []) (by simpa using h) ha (fun x hx => by cases hx)
  | x :: r, a, h, ha, hr => by
    have hx := hr x (List.mem_cons_self ..)
    have hr' : ∀ y ∈ r, y.key ≠ b.key := fun y hy => hr y (List.mem_cons_of_mem _ hy)
    by_cases hb : b.key ≤ x.key
    · left
      have e : putStep b (a, false) x = (a ++ [b] ++ [x], true) := by
        unfold putStep
        simp [hx, hb]
      rw [List.foldl_cons, e, putFold_yes hr']
      refine ⟨a, x :: r, by simp, asc_insert h ha fun y hy => ?_⟩
      rcases List.mem_cons.1 hy with rfl | hy
      · omega
      · have := (List.pairwise_cons.1 (List.pairwise_append.1 h).2.1).1 y hy
        omega
    · have e : putStep b (a, false) x = (a ++ [x], false) := by
        unfold putStep
        simp [hx, hb]
      rw [List.foldl_cons, e]
      have := putFold_no (b := b) (r := r) (a := a ++ [x]) (by simpa using h) (fun y hy => by
        rcases List.mem_append.1 hy with hy | hy
        · exact ha y hy
        · obtain rfl := List.mem_singleton.1 hy; omega) hr'
      simpa using this
theorem putL_asc {l : List Body} {b : Body} (h : Asc l) (hn : ∀ x ∈ l, x.key ≠ b.key) : Asc (putL l b false) := by
  unfold putL
  rcases putFold_no (b := b) (r := l) (a := []) (by simpa using h) (fun x hx => by cases hx) hn with ⟨p, q, e, ha⟩ | ⟨e, ha⟩
  · rw [e]; simpa using ha
  · rw [e]; simpa using ha
theorem findK_none : ∀ {l : List Body} {k : Int} {i : Nat}, ¬ 0 ≤ findK l k i → ∀ x ∈ l, x.key ≠ k
  | [], _, _, _, x, hx => by cases hx
  | a :: r, k, i, h, x, hx => by
    unfold findK at h
    by_cases ha : a.key = k
    · rw [if_pos ha] at h; omega
    · rw [if_neg ha] at h
      rcases List.mem_cons.1 hx with rfl | hx
      · exact ha
      · exact findK_none h x hx
theorem addL_asc {l : List Body} {b : Body} (h : Asc l) : Asc (addL l b).1 := by
  unfold addL
  split
  · exact h
  · split
    · exact h
    · rename_i hk
      split
      · exact h
      · exact putL_asc h (findK_none hk)
theorem allFold_asc : ∀ {l s : List Body}, Asc s → Asc (l.foldl (fun s b => (addL s b).1) s)
  | [], _, h => h
  | x :: r, s, h => by rw [List.foldl_cons]; exact allFold_asc (addL_asc h)
theorem view_asc {l : List Body} : Asc (viewL l).1 := by
  unfold viewL
  split
  · exact List.Pairwise.nil
  · unfold sortL
    split
    · exact List.Pairwise.nil
    · split
      · exact List.Pairwise.nil
      · exact allFold_asc List.Pairwise.nil
theorem view_good {l : List Body} (h : (viewL l).2 = true) : Good (viewL l).1 := ⟨view_asc, fun b hb => ((view_facts h).1 b hb).1, by have := (view_facts h).2; omega⟩
theorem good_sub {l : List Body} (h : Good l) (p : Body → Bool) : Good (l.filter p) := ⟨h.asc.filter _, fun b hb => h.ok b (List.mem_filter.1 hb).1, Nat.le_trans (List.length_filter_le _ _) h.len⟩
end Go.Proofs.YtnhaiecbjipodaaGreatDoor
