/- Ranging over a map, and slicing up to a place or from it. No program in it. -/
import Derived.Test.YtnhaiecbjipodaaGreatDoorB02
import Derived.Maps.RangeRun
import Derived.Maps.Range
import Derived.OwnWalkIn
import Derived.RangeFuncSeq
import Derived.TacticsInMore
namespace Go.Proofs.YtnhaiecbjipodaaGreatDoor
open Go.RowKit Go.MapKept

theorem filter_erase {α β : Type} [DecidableEq β] (f : α → β) : ∀ (l : List α), (l.map f).Nodup → ∀ i (hi : i < l.length), l.filter (fun x => decide (¬ f x = f l[i])) = l.eraseIdx i
  | [], _, i, hi => by simp at hi
  | a :: r, hd, 0, _ => by
    have hd' : ∀ x ∈ r, ¬ f x = f a := fun x hx e => by
      simp only [List.map_cons, List.nodup_cons] at hd
      exact hd.1 (List.mem_map.2 ⟨x, hx, e⟩)
    have : r.filter (fun x => decide (¬ f x = f a)) = r := by
      rw [List.filter_eq_self]
      intro x hx
      simpa using hd' x hx
    simpa using this
  | a :: r, hd, i + 1, hi => by
    simp only [List.map_cons, List.nodup_cons] at hd
    have hi' : i < r.length := by simpa using hi
    have hne : ¬ f a = f r[i] := fun e => hd.1 (List.mem_map.2 ⟨r[i], List.getElem_mem hi', e.symm⟩)
    have := filter_erase f r hd.2 i hi'
    simp only [List.getElem_cons_succ, List.eraseIdx_cons_succ]
    rw [List.filter_cons, if_pos (by simpa using hne), this]

theorem erase_perm {α : Type} : ∀ (L : List α) (j : Nat) (hj : j < L.length), ([L[j]] ++ L.eraseIdx j).Perm L
  | [], j, hj => by simp at hj
  | a :: r, 0, _ => by simp
  | a :: r, j + 1, hj => by
    have := erase_perm r j (by simpa using hj)
    simp only [List.getElem_cons_succ, List.eraseIdx_cons_succ, List.singleton_append]
    refine (List.Perm.swap a _ _).trans ?_
    exact List.Perm.cons a (by simpa using this)
section
variable {P : Program} {kt : TypeId} {κ : Type} [DecidableEq κ] {K : MKey P kt κ}
/-- The block r goes over the map in block b; these keys have come. -/
def IterAt (K : MKey P kt κ) (w : World) (b r : Nat) (l : List (κ × Value)) (ks : List κ) : Prop :=
  ∃ es clock since c0 seen, w.heap[b]? = some (.map es clock) ∧ Born es clock ∧ w.heap[r]? = some (.mapIter (some b) since seen c0) ∧ (∀ x ∈ es.toList, x.born < since) ∧ since ≤ c0 ∧ since ≤ clock ∧
    ∃ L : List κ, (ks ++ L).Perm (l.map Prod.fst) ∧ (leftOf es seen).toList.map (·.key) = L.map K.kv
theorem IterAt.start {w : World} {b : Nat} {l : List (κ × Value)} {t e : TypeId} (h : MapAt K w b l) (ht : P.underlying t = some (.map kt e)) :
    ∃ w', (Instr.range t (.map (some b))).run P w = .ok (.pointer (some ⟨w.heap.size, 0, none⟩)) w' ∧ IterAt K w' b w.heap.size l [] ∧ w.grownBy w' none ∧ w'.heap.size = w.heap.size + 1 := by
  have hlt := h.lt
  obtain ⟨es, c, hb, he, hd, hbn⟩ := h
  refine ⟨_, run_range_map w t kt e b es c ht hb, ⟨es, c, c, c, #[], ((MapKept.heap_alloc w _).2 b hlt).trans hb, hbn, (MapKept.heap_alloc w _).1, hbn.2, Nat.le_refl _, Nat.le_refl _, l.map Prod.fst, by simp, ?_⟩, World.grownBy_alloc w _ none, by simp⟩
  have h1 := congrArg (List.map Prod.fst) he
  simp only [List.map_map] at h1
  have h2 : (leftOf es #[]) = es := by simp [leftOf]
  rw [h2]
  rw [List.map_map]
  exact h1
theorem IterAt.iter_walk {w : World} {b r : Nat} {l : List (κ × Value)} {ks : List κ} (h : IterAt K w b r l ks) : ∃ o : Obj, w.heap[r]? = some o ∧ o.isWalk = true := by
  obtain ⟨es, c, since, c0, seen, hb, hbn, hr, _⟩ := h
  exact ⟨_, hr, rfl⟩
theorem IterAt.keeps {w w' : World} {b r : Nat} {l : List (κ × Value)} {ks : List κ} (h : IterAt K w b r l ks) (hb' : w'.heap[b]? = w.heap[b]?) (hr' : w'.heap[r]? = w.heap[r]?) : IterAt K w' b r l ks := by
  obtain ⟨es, c, since, c0, seen, hb, hbn, hr, rest⟩ := h
  exact ⟨es, c, since, c0, seen, hb'.trans hb, hbn, hr'.trans hr, rest⟩
theorem IterAt.of_walks {w w' : World} {b r : Nat} {l : List (κ × Value)} {ks : List κ} (h : IterAt K w b r l ks) (hk : KeepsWalks w w') : IterAt K w' b r l ks := by
  obtain ⟨es, c, since, c0, seen, hb, hbn, hr, rest⟩ := h
  exact ⟨es, c, since, c0, seen, hk.same b _ hb rfl, hbn, hk.same r _ hr rfl, rest⟩
theorem IterAt.lt {w : World} {b r : Nat} {l : List (κ × Value)} {ks : List κ} (h : IterAt K w b r l ks) : b < w.heap.size ∧ r < w.heap.size := by
  obtain ⟨es, c, since, c0, seen, hb, hbn, hr, rest⟩ := h
  exact ⟨lt_of_block hb, lt_of_block hr⟩
theorem IterAt.left {w : World} {b r : Nat} {l : List (κ × Value)} {ks : List κ} (h : IterAt K w b r l ks) : w.rangeLeft b r + ks.length = l.length := by
  obtain ⟨es, c, since, c0, seen, hb, hbn, hr, _, _, _, L, hp, hk⟩ := h
  have h1 := hp.length_eq
  have h2 := congrArg List.length hk
  simp at h1 h2
  simp only [World.rangeLeft, hb, hr]
  omega
theorem IterAt.next {w : World} {b r : Nat} {l : List (κ × Value)} {ks : List κ} (h : IterAt K w b r l ks) (ty : TypeId) :
    (ks.Perm (l.map Prod.fst) ∧ (Instr.next (.pointer (some ⟨r, 0, none⟩)) false ty).run P w = .ok (.tuple #[.bool false]) w) ∨
    ∃ k v w', (Instr.next (.pointer (some ⟨r, 0, none⟩)) false ty).run P w = .ok (.tuple #[.bool true, K.kv k, v]) w' ∧ IterAt K w' b r l (ks ++ [k]) ∧ w.grownBy w' (some r) ∧ w'.heap.size = w.heap.size ∧
      (Instr.entry (.pointer (some ⟨r, 0, none⟩))).run P w' = .ok (.tuple #[K.kv k, v]) w' := by
  obtain ⟨es, c, since, c0, seen, hb, hbn, hr, hold, hsc, hsince, L, hp, hk⟩ := h
  have hne : r ≠ b := by rintro rfl; rw [hb] at hr; cases hr
  have hrlt := lt_of_block hr
  rcases run_next_at (P := P) w ty r b since c0 seen es c hr hb hold hsc with ⟨h0, hrun⟩ | ⟨e, he, w1, hal, hrun⟩
  · have h2 := congrArg List.length hk
    simp [h0] at h2
    have hL : L = [] := List.eq_nil_of_length_eq_zero h2.symm
    subst hL
    exact .inl ⟨by simpa using hp, hrun⟩
  · have hw1 : ∀ k : Nat, w1.heap[k]? = w.heap[k]? := fun k => by rcases hal with rfl | rfl <;> rfl
    have hw1s : w1.heap.size = w.heap.size := by rcases hal with rfl | rfl <;> rfl
    obtain ⟨j, hj, rfl⟩ := List.getElem_of_mem he
    have hjL : j < L.length := by have := congrArg List.length hk; simp at this; simp at hj; omega
    have hkey : ((leftOf es seen).toList[j]).key = K.kv L[j] := by
      have := congrArg (fun z => z[j]?) hk
      simp [hjL, List.getElem?_eq_getElem hj] at this
      simpa using this
    obtain ⟨e, hee⟩ : ∃ e, e = (leftOf es seen).toList[j] := ⟨_, rfl⟩
    rw [← hee] at hkey hrun
    have hmem : e ∈ es.toList := by
      have : e ∈ (leftOf es seen).toList := by rw [hee]; exact List.getElem_mem hj
      simp [leftOf] at this
      simpa using this.1
    have hsub : (leftOf es seen).toList.Sublist es.toList := by
      simp only [leftOf, Array.toList_filter]
      exact List.filter_sublist
    have hnd : ((leftOf es seen).toList.map (·.born)).Nodup := hbn.1.sublist (hsub.map _)
    have hleft : (leftOf es (seen.push e.born)).toList = (leftOf es seen).toList.eraseIdx j := by
      rw [← filter_erase (·.born) _ hnd j hj, ← hee]
      simp only [leftOf, Array.toList_filter, List.filter_filter]
      congr 1
      funext x
      simp only [Array.contains_push]
      by_cases hx : x.born = e.born <;> simp [hx]
    have hr1 : (ChangeMaps.setBlock w1 r (.mapIter (some b) since (seen.push e.born) c)).heap[r]? = some (.mapIter (some b) since (seen.push e.born) c) := by
      simp [ChangeMaps.setBlock, hw1s, hrlt]
    have ho1 : ∀ k : Nat, k ≠ r → (ChangeMaps.setBlock w1 r (.mapIter (some b) since (seen.push e.born) c)).heap[k]? = w.heap[k]? := fun k hk => by
      simp [ChangeMaps.setBlock, Ne.symm hk, hw1]
    have hb1 : (ChangeMaps.setBlock w1 r (.mapIter (some b) since (seen.push e.born) c)).heap[b]? = some (.map es c) := (ho1 b (Ne.symm hne)).trans hb
    refine .inr ⟨L[j], e.val, _, by rw [← hkey]; exact hrun, ⟨es, c, since, c, seen.push e.born, hb1, hbn, hr1, hold, hsince, hsince, L.eraseIdx j, ?_, ?_⟩, ⟨?_, ?_, ?_, ?_, fun k hk hkr => ho1 k (fun e => hkr (by rw [e]))⟩, ?_, ?_⟩
    · refine List.Perm.trans ?_ hp
      rw [List.append_assoc]
      refine List.Perm.append_left ks ?_
      exact erase_perm L j hjL
    · rw [hleft, map_erase, hk, ← map_erase]
    · rcases hal with rfl | rfl <;> rfl
    · rcases hal with rfl | rfl <;> rfl
    · rcases hal with rfl | rfl <;> rfl
    · simp [ChangeMaps.setBlock, hw1s]
    · simp [ChangeMaps.setBlock, hw1s]
    · rw [← hkey]
      exact run_entry_at _ r b since seen es c e hr1 hb1 hmem hbn.1
end
section
variable {F : Fence} {n : Nat} {P : Program} {kt : TypeId} {κ : Type} [DecidableEq κ] {K : MKey P kt κ} {ops : Array Oper} {rest : List Oper} {o : Oper} {a : Act} {Q : Exit → Act → World → Prop} {w : World}
theorem wpListIn_range_map (hg : o.guard = none) (m : Operand) (t e : TypeId) (hop : o.op = Op.range t m) (ht : P.underlying t = some (.map kt e)) (b : Nat) (l : List (κ × Value)) (hm : a.eval m = .map (some b)) (h : MapAt K w b l)
    (hK : ∀ w', IterAt K w' b w.heap.size l [] → w.grownBy w' none → w'.heap.size = w.heap.size + 1 → wpListIn F n P ops Q rest (a.put o.dst (.pointer (some ⟨w.heap.size, 0, none⟩))) w') : wpListIn F n P ops Q (o :: rest) a w := by
  refine wpListIn_plain hg fun K' hK' => ?_
  obtain ⟨w', hrun, r1, r2, r3⟩ := IterAt.start h ht
  unfold Oper.wpIn
  refine ⟨?_, ?_⟩
  · simp [Oper.about, hop]
  · rw [Oper.semAt_plain F _ _ (by rw [hop]; intro c hc'; cases hc')]
    simp [execOp, hop, hm, hrun, Result.andThen]
    exact hK' _ _ (hK w' r1 r2 r3)
theorem wpListIn_next_map (hg : o.guard = none) (it : Operand) (hop : o.op = Op.next it false) (b r : Nat) (l : List (κ × Value)) (ks : List κ) (hit : a.eval it = .pointer (some ⟨r, 0, none⟩)) (h : IterAt K w b r l ks)
    (hDone : ks.Perm (l.map Prod.fst) → wpListIn F n P ops Q rest (a.put o.dst (.tuple #[.bool false])) w)
    (hMore : ∀ (k : κ) (v : Value) (w' : World), IterAt K w' b r l (ks ++ [k]) → w.grownBy w' (some r) → w'.heap.size = w.heap.size → (Instr.entry (.pointer (some ⟨r, 0, none⟩))).run P w' = .ok (.tuple #[K.kv k, v]) w' → wpListIn F n P ops Q rest (a.put o.dst (.tuple #[.bool true, K.kv k, v])) w') :
    wpListIn F n P ops Q (o :: rest) a w := by
  refine wpListIn_plain hg fun K' hK' => ?_
  unfold Oper.wpIn
  refine ⟨by simp [Oper.about, hop], ?_⟩
  rw [Oper.semAt_plain F _ _ (by rw [hop]; intro c hc'; cases hc')]
  rcases h.next o.type with ⟨hp, hrun⟩ | ⟨k, v, w', hrun, h1, h2, h3, h4⟩
  · simp [execOp, hop, hit, hrun, Result.andThen]
    exact hK' _ _ (hDone hp)
  · simp [execOp, hop, hit, hrun, Result.andThen]
    exact hK' _ _ (hMore k v w' h1 h2 h3 h4)
end
section
variable {P : Program} {t e : TypeId}
theorem slice_to (ht : P.underlying t = some (.slice e)) (sz : Nat) (hs : ∀ w, (sizeOf e).run P w = .ok sz w) (b off N c i : Nat) (h : i ≤ c) (w : World) :
    (Instr.slice t (.slice (some ⟨b, off, none⟩) N c) none (some (.int .i64 (i : Int))) none).run P w = .ok (.slice (some ⟨b, off, none⟩) i c) w := by
  simp [Instr.slice, Instr.sliceBounds, Instr.sliceBound, asIntOf, run_underlying ht, Result.andThen, hs, h, Addr.add]
theorem slice_from (ht : P.underlying t = some (.slice e)) (sz : Nat) (hs : ∀ w, (sizeOf e).run P w = .ok sz w) (b off N c i : Nat) (h : i ≤ N) (hc : i < c) (w : World) :
    (Instr.slice t (.slice (some ⟨b, off, none⟩) N c) (some (.int .i64 (i : Int))) none none).run P w = .ok (.slice (some ⟨b, off + i * sz, none⟩) (N - i) (c - i)) w := by
  have h2 : ¬ c = i := by omega
  simp [Instr.slice, Instr.sliceBounds, Instr.sliceBound, asIntOf, run_underlying ht, Result.andThen, hs, h, h2, Addr.add]
  try
    intro h3
    rcases h3 with h3 | h3 <;> simp [h3]
end
end Go.Proofs.YtnhaiecbjipodaaGreatDoor
