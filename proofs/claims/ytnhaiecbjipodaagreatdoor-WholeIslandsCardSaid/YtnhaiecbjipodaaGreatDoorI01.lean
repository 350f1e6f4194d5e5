/- Contracts of the program's functions, by walks, and plain facts beside them: IslPure, IslClos, Links, IslOf. -/
import Derived.Test.YtnhaiecbjipodaaGreatDoorB27
import Derived.Test.YtnhaiecbjipodaaGreatDoorE06
import Derived.Test.YtnhaiecbjipodaaGreatDoorB21
import Derived.Test.YtnhaiecbjipodaaGreatDoorB25
/- The plain law of islands: the next state of an island's bodies and the static ones is that of them alone. No walk. -/
namespace Go.Proofs.YtnhaiecbjipodaaGreatDoor
open Go.RowKit Go.Shelf Go.Proofs
section
variable (kp : Int → Bool)
def subL (l : List Body) : List Body := l.filter fun b => kp b.key
def bothC (c : Con) : Bool := kp c.lo && kp c.hi
def subC (cs : List Con) : List Con := cs.filter (bothC kp)
/-- A contact that leaves the chosen keys meets them in a static body alone. -/
def Shut (l : List Body) (cs : List Con) : Prop := ∀ c ∈ cs, bothC kp c = false → (kp c.lo = true → (bdOf l c.lo).inv = 0) ∧ (kp c.hi = true → (bdOf l c.hi).inv = 0)
end
section
variable {kp : Int → Bool}
theorem bdOf_sub {l : List Body} {k : Int} (hk : kp k = true) : bdOf (subL kp l) k = bdOf l k := by
  unfold bdOf subL
  rw [List.find?_filter]
  congr 2
  funext b
  by_cases h : b.key = k
  · subst h; simp [hk]
  · simp [h]
theorem bdOf_map {l : List Body} {f : Body → Body} (hk : ∀ b, (f b).key = b.key) (hi : ∀ b, (f b).inv = b.inv) (k : Int) : (bdOf (l.map f) k).inv = (bdOf l k).inv := by
  unfold bdOf
  rw [List.find?_map]
  have e : ((fun b => decide (b.key = k)) ∘ f) = fun b => decide (b.key = k) := by funext b; simp [hk]
  rw [e]
  cases l.find? (fun b => decide (b.key = k)) with
  | none => rfl
  | some b => exact hi b
theorem Shut.map {l : List Body} {cs : List Con} {f : Body → Body} (h : Shut kp l cs) (hk : ∀ b, (f b).key = b.key) (hi : ∀ b, (f b).inv = b.inv) : Shut kp (l.map f) cs := by
  intro c hc hb
  rw [bdOf_map hk hi, bdOf_map hk hi]
  exact h c hc hb
def Wrapped (S : Int → Int × Int) : Prop := ∀ x, wrap64 (S x).1 = (S x).1 ∧ wrap64 (S x).2 = (S x).2
theorem wrap_wrap (n : Int) : wrap64 (wrap64 n) = wrap64 n := by unfold wrap64; omega
theorem Wrapped.upd {S : Int → Int × Int} (h : Wrapped S) (k a b : Int) : Wrapped (updS S k (wrap64 a, wrap64 b)) := by
  intro x
  unfold updS
  split
  · exact ⟨wrap_wrap _, wrap_wrap _⟩
  · exact h x
theorem Wrapped.zero : Wrapped (fun _ => (0, 0)) := fun _ => by unfold wrap64; simp
theorem updS_same {S : Int → Int × Int} (h : Wrapped S) {k d1 d2 x : Int} (hz : x = k → d1 = (S k).1 ∧ d2 = (S k).2) : updS S k (wrap64 d1, wrap64 d2) x = S x := by
  unfold updS
  split
  · rename_i e
    subst e
    obtain ⟨rfl, rfl⟩ := hz rfl
    rw [(h x).1, (h x).2]
  · rfl
theorem change_zero {j inv n : Int} (h : inv = 0) : changeI j inv n = 0 := by subst h; simp [changeI]
theorem share_zero {c : Con} {a b : Body} {inv : Int} (h : inv = 0) : shareI c a b inv = 0 := by subst h; simp [shareI]
theorem shV_zero (sg n : Int) : shV 0 sg n = 0 := by simp [shV]
theorem low_wrapped {l : List Body} {c : Con} {S : Int → Int × Int} (h : Wrapped S) : Wrapped (lowS l c S) := h.upd _ _ _
theorem step_wrapped {l : List Body} {c : Con} {S : Int → Int × Int} (h : Wrapped S) : Wrapped (stepS l S c) := (low_wrapped h).upd _ _ _
theorem stepS_far {l : List Body} {c : Con} {S : Int → Int × Int} (hw : Wrapped S) (hlo : kp c.lo = true → (bdOf l c.lo).inv = 0) (hhi : kp c.hi = true → (bdOf l c.hi).inv = 0) {x : Int} (hx : kp x = true) : stepS l S c x = S x := by
  have h1 : highS l c (lowS l c S) x = lowS l c S x := updS_same (low_wrapped hw) fun e => by
    have := hhi (e ▸ hx)
    rw [change_zero this, change_zero this]
    simp
  have h2 : lowS l c S x = S x := updS_same hw fun e => by
    have := hlo (e ▸ hx)
    rw [change_zero this, change_zero this]
    simp
  exact h1.trans h2
theorem stepS_near {l : List Body} {c : Con} {S T : Int → Int × Int} (hlo : kp c.lo = true) (hhi : kp c.hi = true) (h : ∀ x, kp x = true → S x = T x) {x : Int} (hx : kp x = true) : stepS l S c x = stepS (subL kp l) T c x := by
  have h1 : ∀ y, kp y = true → lowS l c S y = lowS (subL kp l) c T y := fun y hy => by
    unfold lowS updS
    rw [bdOf_sub hlo, bdOf_sub hhi, h c.lo hlo, h y hy]
  unfold stepS highS updS
  rw [bdOf_sub hlo, bdOf_sub hhi, h1 c.hi hhi, h1 x hx]
theorem sum_sub {l : List Body} : ∀ {cs : List Con} {S T : Int → Int × Int}, Shut kp l cs → Wrapped S → (∀ x, kp x = true → S x = T x) → ∀ x, kp x = true → cs.foldl (stepS l) S x = (subC kp cs).foldl (stepS (subL kp l)) T x
  | [], _, _, _, _, h, x, hx => h x hx
  | c :: r, S, T, hs, hw, h, x, hx => by
    have hs' : Shut kp l r := fun d hd => hs d (List.mem_cons_of_mem _ hd)
    cases hb : bothC kp c with
    | true =>
      have e : subC kp (c :: r) = c :: subC kp r := by unfold subC; rw [List.filter_cons, if_pos hb]
      rw [e]
      have hb' := hb
      unfold bothC at hb'
      rw [Bool.and_eq_true] at hb'
      exact sum_sub hs' (step_wrapped hw) (fun y hy => stepS_near hb'.1 hb'.2 h hy) x hx
    | false =>
      have e : subC kp (c :: r) = subC kp r := by unfold subC; rw [List.filter_cons, if_neg (by simp [hb])]
      rw [e]
      obtain ⟨h1, h2⟩ := hs c (List.mem_cons_self ..) hb
      exact sum_sub hs' (step_wrapped hw) (fun y hy => (stepS_far hw h1 h2 hy).trans (h y hy)) x hx
theorem roundB_sub {l : List Body} {cs : List Con} (hs : Shut kp l cs) {b : Body} (hb : kp b.key = true) : roundB l cs b = roundB (subL kp l) (subC kp cs) b := by
  have e : sumS l cs b.key = sumS (subL kp l) (subC kp cs) b.key := sum_sub hs Wrapped.zero (fun _ _ => rfl) b.key hb
  unfold roundB velX velY
  rw [e]
theorem sub_map {l : List Body} {f g : Body → Body} (hk : ∀ b, (f b).key = b.key) (h : ∀ b ∈ l, kp b.key = true → f b = g b) : subL kp (l.map f) = (subL kp l).map g := by
  unfold subL
  rw [List.filter_map, show ((fun b : Body => kp b.key) ∘ f) = fun b => kp b.key by funext b; simp [hk]]
  refine List.map_congr_left fun b hb => ?_
  obtain ⟨h1, h2⟩ := List.mem_filter.1 hb
  exact h b h1 h2
theorem roundL_sub {l : List Body} {cs : List Con} (hs : Shut kp l cs) : subL kp (roundL l cs) = roundL (subL kp l) (subC kp cs) :=
  sub_map (fun _ => rfl) fun _ _ hb => roundB_sub hs hb
theorem Shut.solve {l : List Body} {cs : List Con} (h : Shut kp l cs) : ∀ n, Shut kp (solveN cs l n) cs
  | 0 => h
  | n + 1 => (Shut.solve h n).map (fun _ => rfl) (fun _ => rfl)
theorem solve_sub {l : List Body} {cs : List Con} (hs : Shut kp l cs) : ∀ n, subL kp (solveN cs l n) = solveN (subC kp cs) (subL kp l) n
  | 0 => rfl
  | n + 1 => by
    show subL kp (roundL (solveN cs l n) cs) = roundL (solveN (subC kp cs) (subL kp l) n) (subC kp cs)
    rw [roundL_sub (hs.solve n), solve_sub hs n]
theorem grav_key (b : Body) : (gravB b).key = b.key := by unfold gravB; split <;> rfl
theorem grav_inv (b : Body) : (gravB b).inv = b.inv := by unfold gravB; split <;> rfl
theorem grav_sub (l : List Body) : subL kp (gravL l) = gravL (subL kp l) := sub_map grav_key fun _ _ _ => rfl
theorem shS_wrapped {c : Con} {sh sg : Int} {S : Int → Int × Int} (h : Wrapped S) (k : Int) : Wrapped (shS c sh sg S k) := h.upd _ _ _
theorem shS_far {c : Con} {sh sg : Int} {S : Int → Int × Int} (hw : Wrapped S) {k x : Int} (h : x = k → sh = 0) : shS c sh sg S k x = S x := updS_same hw fun e => by
  rw [h e, shV_zero, shV_zero]
  simp
theorem stepSh_far {l : List Body} {c : Con} {S : Int → Int × Int} (hw : Wrapped S) (hlo : kp c.lo = true → (bdOf l c.lo).inv = 0) (hhi : kp c.hi = true → (bdOf l c.hi).inv = 0) {x : Int} (hx : kp x = true) : stepSh l S c x = S x := by
  unfold stepSh
  exact (shS_far (shS_wrapped hw _) (fun e => share_zero (hhi (by rw [← e]; exact hx)))).trans (shS_far hw (fun e => share_zero (hlo (by rw [← e]; exact hx))))
theorem stepSh_near {l : List Body} {c : Con} {S T : Int → Int × Int} (hlo : kp c.lo = true) (hhi : kp c.hi = true) (h : ∀ x, kp x = true → S x = T x) {x : Int} (hx : kp x = true) : stepSh l S c x = stepSh (subL kp l) T c x := by
  unfold stepSh
  rw [bdOf_sub hlo, bdOf_sub hhi]
  have h1 : ∀ sh sg y, kp y = true → shS c sh sg S c.lo y = shS c sh sg T c.lo y := fun sh sg y hy => by
    unfold shS updS
    rw [h c.lo hlo, h y hy]
  generalize shareI c (bdOf l c.lo) (bdOf l c.hi) (bdOf l c.lo).inv = s1
  generalize shareI c (bdOf l c.lo) (bdOf l c.hi) (bdOf l c.hi).inv = s2
  show updS _ _ _ _ = updS _ _ _ _
  unfold updS
  rw [h1 s1 (-1) c.hi hhi, h1 s1 (-1) x hx]
theorem shift_sub {l : List Body} : ∀ {cs : List Con} {S T : Int → Int × Int}, Shut kp l cs → Wrapped S → (∀ x, kp x = true → S x = T x) → ∀ x, kp x = true → cs.foldl (stepSh l) S x = (subC kp cs).foldl (stepSh (subL kp l)) T x
  | [], _, _, _, _, h, x, hx => h x hx
  | c :: r, S, T, hs, hw, h, x, hx => by
    have hs' : Shut kp l r := fun d hd => hs d (List.mem_cons_of_mem _ hd)
    have hw' : Wrapped (stepSh l S c) := shS_wrapped (shS_wrapped hw _) _
    cases hb : bothC kp c with
    | true =>
      have e : subC kp (c :: r) = c :: subC kp r := by unfold subC; rw [List.filter_cons, if_pos hb]
      rw [e]
      have hb' := hb
      unfold bothC at hb'
      rw [Bool.and_eq_true] at hb'
      exact shift_sub hs' hw' (fun y hy => stepSh_near hb'.1 hb'.2 h hy) x hx
    | false =>
      have e : subC kp (c :: r) = subC kp r := by unfold subC; rw [List.filter_cons, if_neg (by simp [hb])]
      rw [e]
      obtain ⟨h1, h2⟩ := hs c (List.mem_cons_self ..) hb
      exact shift_sub hs' hw' (fun y hy => (stepSh_far hw h1 h2 hy).trans (h y hy)) x hx
theorem movL_map (f : Int → Int × Int) : ∀ {l m : List Body}, l.map Body.key = m.map Body.key → movL l (m.map fun b => f b.key) = l.map fun b => moveB b (f b.key)
  | [], m, _ => by simp [movL]
  | a :: l, [], h => by simp at h
  | a :: l, b :: m, h => by
    simp only [List.map_cons, List.cons.injEq] at h
    have := movL_map f h.2
    unfold movL at *
    simp only [List.map_cons, List.zip_cons_cons]
    rw [this, h.1]
theorem stepL_map (l : List Body) : stepL l = (solvedL l).map fun b => moveB b (shiftF l (contactsL l) b.key) :=
  movL_map (fun k => shiftF l (contactsL l) k) ((solveN_keys _ _ 4).trans (gravL_keys l))
theorem filter_pairs : ∀ (l : List Body), pairsOf (subL kp l) = (pairsOf l).filter fun q => kp q.1.key && kp q.2.key
  | [] => rfl
  | a :: r => by
    have ih := filter_pairs r
    simp only [pairsOf, List.filter_append, List.filter_map]
    rw [← ih]
    cases ha : kp a.key with
    | true =>
      have e : subL kp (a :: r) = a :: subL kp r := by unfold subL; rw [List.filter_cons, if_pos ha]
      rw [e, pairsOf]
      congr 2
      unfold subL
      congr 1
      funext b
      simp [ha]
    | false =>
      have e : subL kp (a :: r) = subL kp r := by unfold subL; rw [List.filter_cons, if_neg (by simp [ha])]
      rw [e]
      have : List.filter ((fun q : Body × Body => kp q.1.key && kp q.2.key) ∘ fun b => (a, b)) r = [] := by
        rw [List.filter_eq_nil_iff]
        intro b _
        simp [ha]
      rw [this]
      rfl
theorem touch_sub (l : List Body) : touchL (subL kp l) = (touchL l).filter fun q => kp q.1.key && kp q.2.key := by
  unfold touchL foundL candL
  rw [filter_pairs]
  simp only [List.filter_filter]
  congr 1
  funext q
  cases kp q.1.key <;> cases kp q.2.key <;> simp
theorem contacts_sub (l : List Body) : contactsL (subL kp l) = subC kp (contactsL l) := by
  unfold contactsL subC
  rw [touch_sub, List.filter_map]
  rfl
/-- Islands do not influence each other. -/
theorem step_sub {l : List Body} (hs : Shut kp l (contactsL l)) : subL kp (stepL l) = stepL (subL kp l) := by
  have hg : Shut kp (gravL l) (contactsL l) := hs.map grav_key grav_inv
  have h1 : subL kp (solvedL l) = solvedL (subL kp l) := by
    unfold solvedL
    rw [solve_sub hg, grav_sub, contacts_sub]
  rw [stepL_map, stepL_map, ← h1]
  refine sub_map (fun _ => rfl) fun b _ hb => ?_
  have e : shiftF l (contactsL l) b.key = shiftF (subL kp l) (subC kp (contactsL l)) b.key := shift_sub hs Wrapped.zero (fun _ _ => rfl) b.key hb
  rw [e, contacts_sub]
end
end Go.Proofs.YtnhaiecbjipodaaGreatDoor
/- Chains of links: the plain law of the reference's triple loop; what it gives for the contacts. No walk. -/
namespace Go.Proofs.YtnhaiecbjipodaaGreatDoor
/-- The round of the loop for k, the first m entries of the table done. -/
def rndW (f : Nat → Bool) (n k m i : Nat) : Bool := if i < m then f i || (f (i / n * n + k) && f (k * n + i % n)) else f i
def updW (f : Nat → Bool) (i j : Nat) : Bool := if j = i then true else f j
def ClosW (f : Nat → Bool) (n k : Nat) : Prop := ∀ c, c < k → ∀ a, a < n → ∀ b, b < n → f (a * n + c) = true → f (c * n + b) = true → f (a * n + b) = true
theorem at_div {a b n : Nat} (hb : b < n) : (a * n + b) / n = a := by
  rw [Nat.add_comm, Nat.add_mul_div_right _ _ (by omega), Nat.div_eq_of_lt hb, Nat.zero_add]
theorem at_mod {a b n : Nat} (hb : b < n) : (a * n + b) % n = b := by
  rw [Nat.add_comm, Nat.add_mul_mod_self_right, Nat.mod_eq_of_lt hb]
theorem at_lt {a b n : Nat} (ha : a < n) (hb : b < n) : a * n + b < n * n := by
  have : (a + 1) * n ≤ n * n := Nat.mul_le_mul_right n ha
  rw [Nat.add_mul, Nat.one_mul] at this
  omega
theorem at_ext {a b c d n : Nat} (hb : b < n) (hd : d < n) (h : a * n + b = c * n + d) : a = c ∧ b = d := by
  have h1 := at_div (a := a) hb
  have h2 := at_mod (a := a) hb
  rw [h, at_div hd] at h1
  rw [h, at_mod hd] at h2
  exact ⟨h1.symm, h2.symm⟩
section
variable {f : Nat → Bool} {n k : Nat}
theorem rnd_zero : rndW f n k 0 = f := by funext i; simp [rndW]
theorem rnd_at {a b m : Nat} (hb : b < n) : rndW f n k m (a * n + b) = if a * n + b < m then f (a * n + b) || (f (a * n + k) && f (k * n + b)) else f (a * n + b) := by
  unfold rndW
  rw [at_div hb, at_mod hb]
theorem rnd_col {a m : Nat} (hk : k < n) : rndW f n k m (a * n + k) = f (a * n + k) := by
  rw [rnd_at hk]
  split
  · cases f (a * n + k) <;> simp
  · rfl
theorem rnd_row {b m : Nat} (hb : b < n) : rndW f n k m (k * n + b) = f (k * n + b) := by
  rw [rnd_at hb]
  split
  · cases f (k * n + b) <;> simp
  · rfl
theorem rnd_yes {a b : Nat} (hb : b < n) (h : (f (a * n + k) && f (k * n + b)) = true) : rndW f n k (a * n + b + 1) = updW (rndW f n k (a * n + b)) (a * n + b) := by
  funext i
  unfold updW
  by_cases e : i = a * n + b
  · subst e
    rw [if_pos rfl, rnd_at hb, if_pos (by omega), h]
    simp
  · rw [if_neg e]
    unfold rndW
    by_cases h1 : i < a * n + b
    · rw [if_pos h1, if_pos (by omega)]
    · rw [if_neg h1, if_neg (by omega)]
theorem rnd_no {a b : Nat} (hb : b < n) (h : (f (a * n + k) && f (k * n + b)) = false) : rndW f n k (a * n + b + 1) = rndW f n k (a * n + b) := by
  funext i
  by_cases e : i = a * n + b
  · subst e
    rw [rnd_at hb, rnd_at hb, if_pos (by omega), if_neg (by omega), h]
    simp
  · unfold rndW
    by_cases h1 : i < a * n + b
    · rw [if_pos h1, if_pos (by omega)]
    · rw [if_neg h1, if_neg (by omega)]
theorem rnd_mono {m i : Nat} (h : f i = true) : rndW f n k m i = true := by unfold rndW; split <;> simp [h]
theorem rnd_full {a b : Nat} (ha : a < n) (hb : b < n) : rndW f n k (n * n) (a * n + b) = (f (a * n + b) || (f (a * n + k) && f (k * n + b))) := by
  rw [rnd_at hb, if_pos (at_lt ha hb)]
theorem clos_round (h : ClosW f n k) (hk : k < n) : ClosW (rndW f n k (n * n)) n (k + 1) := by
  intro c hc a ha b hb h1 h2
  have hcn : c < n := by omega
  rw [rnd_full ha hcn] at h1
  rw [rnd_full hcn hb] at h2
  rw [rnd_full ha hb]
  simp only [Bool.or_eq_true, Bool.and_eq_true] at h1 h2 ⊢
  by_cases e : c = k
  · subst e
    refine .inr ⟨?_, ?_⟩
    · rcases h1 with h1 | h1
      · exact h1
      · exact h1.1
    · rcases h2 with h2 | h2
      · exact h2
      · exact h2.2
  · have hck : c < k := by omega
    rcases h1 with h1 | h1 <;> rcases h2 with h2 | h2
    · exact .inl (h c hck a ha b hb h1 h2)
    · exact .inr ⟨h c hck a ha k hk h1 h2.1, h2.2⟩
    · exact .inr ⟨h1.1, h c hck k hk b hb h1.2 h2⟩
    · exact .inr ⟨h1.1, h2.2⟩
theorem clos_zero : ClosW f n 0 := fun c hc => absurd hc (Nat.not_lt_zero c)
end
/-- The links of the contacts stand in the table. -/
def EdgeW (l : List Body) (f : Nat → Bool) (cs : List Con) : Prop := ∀ c ∈ cs, ∀ i j (hi : i < l.length) (hj : j < l.length), l[i].key = c.lo → l[j].key = c.hi → 0 < l[i].inv → 0 < l[j].inv → f (i * l.length + j) = true ∧ f (j * l.length + i) = true
theorem EdgeW.mono {l : List Body} {f g : Nat → Bool} {cs : List Con} (h : EdgeW l f cs) (hm : ∀ i, f i = true → g i = true) : EdgeW l g cs := fun c hc i j hi hj h1 h2 h3 h4 => by
  obtain ⟨a, b⟩ := h c hc i j hi hj h1 h2 h3 h4
  exact ⟨hm _ a, hm _ b⟩
theorem upd_mono {f : Nat → Bool} {k i : Nat} (h : f i = true) : updW f k i = true := by unfold updW; split <;> simp [h]
theorem upd_here {f : Nat → Bool} {k : Nat} : updW f k k = true := by simp [updW]
theorem EdgeW.nil (l : List Body) (f : Nat → Bool) : EdgeW l f [] := fun c hc => by cases hc
theorem key_inj {l : List Body} (hs : Asc l) {i j : Nat} (hi : i < l.length) (hj : j < l.length) (h : l[i].key = l[j].key) : i = j := by
  rcases Nat.lt_trichotomy i j with h' | h' | h'
  · have := List.pairwise_iff_getElem.1 hs i j hi hj h'; omega
  · exact h'
  · have := List.pairwise_iff_getElem.1 hs j i hj hi h'; omega
theorem EdgeW.snoc {l : List Body} {f g : Nat → Bool} {cs : List Con} {c : Con} (hs : Asc l) (h : EdgeW l f cs) (hm : ∀ i, f i = true → g i = true) {a b : Nat} (ha : a < l.length) (hb : b < l.length) (hla : l[a].key = c.lo) (hlb : l[b].key = c.hi)
    (hg : 0 < l[a].inv → 0 < l[b].inv → g (a * l.length + b) = true ∧ g (b * l.length + a) = true) : EdgeW l g (cs ++ [c]) := by
  intro d hd i j hi hj h1 h2 h3 h4
  rcases List.mem_append.1 hd with hd | hd
  · exact (h.mono hm) d hd i j hi hj h1 h2 h3 h4
  · obtain rfl := List.mem_singleton.1 hd
    obtain rfl := key_inj hs hi ha (h1.trans hla.symm)
    obtain rfl := key_inj hs hj hb (h2.trans hlb.symm)
    exact hg h3 h4
theorem row_mem {a b : Body} {r : List Body} (hb : b ∈ r) (ht : touchI a b = true) : ∃ c ∈ rowR a r, c.lo = a.key ∧ c.hi = b.key := by
  refine ⟨conR a b, ?_, ?_⟩
  · unfold rowR
    exact List.mem_map.2 ⟨b, List.mem_filter.2 ⟨hb, by simpa using ht⟩, rfl⟩
  · unfold conR
    rw [if_pos ht]
    exact ⟨rfl, rfl⟩
theorem all_mem {l : List Body} {p : Body × Body} (hp : p ∈ pairsOf l) (ht : touchI p.1 p.2 = true) : ∃ c ∈ allR l, c.lo = p.1.key ∧ c.hi = p.2.key := by
  obtain ⟨x, y⟩ := p
  have ht' : touchI x y = true := ht
  clear ht
  show ∃ c ∈ allR l, c.lo = x.key ∧ c.hi = y.key
  induction l with
  | nil => simp [pairsOf] at hp
  | cons a r ih =>
    rcases List.mem_append.1 hp with h | h
    · obtain ⟨b, hb, e⟩ := List.mem_map.1 h
      simp only [Prod.mk.injEq] at e
      obtain ⟨rfl, rfl⟩ := e
      obtain ⟨c, hc, h1⟩ := row_mem hb ht'
      exact ⟨c, List.mem_append.2 (.inl hc), h1⟩
    · obtain ⟨c, hc, h1⟩ := ih h
      exact ⟨c, List.mem_append.2 (.inr hc), h1⟩
theorem rowR_keys {a : Body} {r : List Body} {c : Con} (h : c ∈ rowR a r) : c.lo = a.key ∧ ∃ b ∈ r, c.hi = b.key := by
  unfold rowR at h
  obtain ⟨b, hb, rfl⟩ := List.mem_map.1 h
  obtain ⟨hb, ht⟩ := List.mem_filter.1 hb
  unfold conR
  rw [if_pos (by simpa using ht)]
  exact ⟨rfl, b, hb, rfl⟩
theorem allR_keys : ∀ {l : List Body} {c : Con}, c ∈ allR l → (∃ b ∈ l, c.lo = b.key) ∧ ∃ b ∈ l, c.hi = b.key
  | [], c, h => by simp [allR] at h
  | a :: r, c, h => by
    rcases List.mem_append.1 h with h | h
    · obtain ⟨h1, b, hb, h2⟩ := rowR_keys h
      exact ⟨⟨a, List.mem_cons_self .., h1⟩, b, List.mem_cons_of_mem _ hb, h2⟩
    · obtain ⟨⟨x, hx, h1⟩, y, hy, h2⟩ := allR_keys h
      exact ⟨⟨x, List.mem_cons_of_mem _ hx, h1⟩, y, List.mem_cons_of_mem _ hy, h2⟩
/-- Kept: a static body, or a key of the island. -/
def kpI (l : List Body) (ks : List Int) (k : Int) : Bool := decide ((bdOf l k).inv = 0) || decide (k ∈ ks)
theorem kpI_body {l : List Body} (hs : Asc l) {b : Body} (hb : b ∈ l) (ks : List Int) : kpI l ks b.key = (decide (b.inv = 0) || decide (b.key ∈ ks)) := by
  unfold kpI
  rw [bdOf_mem hs.nodup hb]
theorem isl_shut {l : List Body} {f : Nat → Bool} {a : Nat} (hs : Asc l) (hok : ∀ b ∈ l, 0 ≤ b.inv) (ha : a < l.length) (hc : ClosW f l.length l.length) (he : EdgeW l f (allR l)) {ks : List Int}
    (hks : ∀ j (hj : j < l.length), l[j].key ∈ ks ↔ f (a * l.length + j) = true) : Shut (kpI l ks) l (contactsL l) := by
  intro c hcm hb
  unfold contactsL at hcm
  obtain ⟨p, hp, rfl⟩ := List.mem_map.1 hcm
  obtain ⟨hp1, hp2⟩ := List.mem_filter.1 hp
  have hp3 : p ∈ pairsOf l := (List.mem_filter.1 ((List.mem_filter.1 hp1).1)).1
  obtain ⟨hx, hy, _⟩ := (mem_pairsOf hs).1 hp3
  obtain ⟨c, hc1, hc2, hc3⟩ := all_mem hp3 (by simpa using hp2)
  obtain ⟨i, hi, ei⟩ := List.getElem_of_mem hx
  obtain ⟨j, hj, ej⟩ := List.getElem_of_mem hy
  have hee := he c hc1 i j hi hj (by rw [ei, hc2]) (by rw [ej, hc3])
  have k1 : kpI l ks p.1.key = (decide (p.1.inv = 0) || decide (p.1.key ∈ ks)) := kpI_body hs hx ks
  have k2 : kpI l ks p.2.key = (decide (p.2.inv = 0) || decide (p.2.key ∈ ks)) := kpI_body hs hy ks
  have b1 : bdOf l p.1.key = p.1 := bdOf_mem hs.nodup hx
  have b2 : bdOf l p.2.key = p.2 := bdOf_mem hs.nodup hy
  have n1 := hok _ hx
  have n2 := hok _ hy
  have m1 : p.1.key ∈ ks ↔ f (a * l.length + i) = true := by rw [← hks i hi, ei]
  have m2 : p.2.key ∈ ks ↔ f (a * l.length + j) = true := by rw [← hks j hj, ej]
  rw [ei, ej] at hee
  have hb' : (kpI l ks p.1.key && kpI l ks p.2.key) = false := hb
  show (kpI l ks p.1.key = true → (bdOf l p.1.key).inv = 0) ∧ (kpI l ks p.2.key = true → (bdOf l p.2.key).inv = 0)
  rw [b1, b2]
  refine ⟨fun h => ?_, fun h => ?_⟩
  · rw [h, Bool.true_and, k2] at hb'
    rw [k1] at h
    simp only [Bool.or_eq_true, decide_eq_true_eq, Bool.or_eq_false_iff, decide_eq_false_iff_not] at h hb'
    rcases h with h | h
    · exact h
    · refine Classical.byContradiction fun h0 => hb'.2 (m2.2 ?_)
      exact hc i hi a ha j hj (m1.1 h) (hee (by omega) (by omega)).1
  · rw [h, Bool.and_true, k1] at hb'
    rw [k2] at h
    simp only [Bool.or_eq_true, decide_eq_true_eq, Bool.or_eq_false_iff, decide_eq_false_iff_not] at h hb'
    rcases h with h | h
    · exact h
    · refine Classical.byContradiction fun h0 => hb'.2 (m1.2 ?_)
      exact hc j hj a ha i hi (m2.1 h) (hee (by omega) (by omega)).2
theorem filter_at {p : Body → Bool} : ∀ {A : List Body} {i : Nat} (hi : i < A.length), p A[i] = true → (A.filter p)[((A.take i).filter p).length]? = some A[i]
  | a :: r, 0, _, h => by
    have h' : p a = true := h
    simp [h']
  | a :: r, i + 1, hi, h => by
    have hi' : i < r.length := by simpa using hi
    have ih := filter_at (p := p) (A := r) hi' (by simpa using h)
    simp only [List.take_succ_cons, List.getElem_cons_succ, List.filter_cons]
    by_cases ha : p a = true
    · rw [if_pos ha, if_pos ha, List.length_cons, List.getElem?_cons_succ]
      exact ih
    · rw [if_neg ha, if_neg ha]
      exact ih
theorem filter_take {p : Body → Bool} {A : List Body} {i : Nat} (hi : i < A.length) : (A.take (i + 1)).filter p = (A.take i).filter p ++ (if p A[i] = true then [A[i]] else []) := by
  rw [List.take_succ_eq_append_getElem hi, List.filter_append, List.filter_cons, List.filter_nil]
end Go.Proofs.YtnhaiecbjipodaaGreatDoor
/- The references' Links: the table of chains is closed and holds the contacts' links. -/
namespace Go.Proofs.YtnhaiecbjipodaaGreatDoor
open Go.RowKit Go.Shelf Go.Proofs
attribute [local go_sem] Grow.cell Grow.froz Grow.lt lt_s1 lt_s2 lt_s3 lt_s4 lt_s5
theorem boolInfo : (Tryz.prog.info? 4).map (fun i => (i.zero, i.size, i.bytes)) = some (some (.bool false), 1, 1) := by kernel_rfl
theorem run_makeBool (Z : Nat) (hZ : Z ≤ 16777216) (W : World) : (Instr.makeSlice 95 (.int .i64 (Z : Int)) (.int .i64 (Z : Int))).run Tryz.prog W = .ok (.slice (some ⟨W.heap.size, 0, none⟩) Z Z) (W.alloc (.cells (madeCells #[.bool false] Z) 4)) := by
  obtain ⟨i0, hi, hz0, hz1, hz2⟩ := info_parts boolInfo
  have := run_makeSlice (P := Tryz.prog) (w := W) 95 4 i0 (.bool false) Tryz.underlying95 hi hz0 .i64 .i64 (Z : Int) (Z : Int) (by omega) (Int.le_refl _) (by rw [hz1]; simp; omega) (by rw [hz2]; omega) (by omega)
  rw [hz1] at this
  simp only [Int.toNat_natCast, Nat.mul_one] at this
  exact this
theorem idx_bool {B k len c : Nat} (hk : k < len) (w : World) :
    (Instr.indexAt 95 (.slice (some ⟨B, 0, none⟩) len c) (.int .i64 (k : Int))).run Tryz.prog w = .ok (.pointer (some ⟨B, k, none⟩)) w := by
  have hk' : (k : Int) < (len : Int) := by omega
  go_simp
/-- A block of Z truth values. -/
def MatAt (w : World) (B Z : Nat) (f : Nat → Bool) : Prop := ∃ cs : Array Value, CellsAt w B cs 4 ∧ cs.size = Z ∧ ∀ i, i < Z → cs[i]? = some (.bool (f i))
section
variable {w w' : World} {B Z : Nat} {f : Nat → Bool}
theorem MatAt.lt (h : MatAt w B Z f) : B < w.heap.size := by obtain ⟨cs, h1, _⟩ := h; exact h1.lt
theorem MatAt.at (h : MatAt w B Z f) {i : Nat} (hi : i < Z) : w.cell? ⟨B, i, none⟩ = some (.bool (f i)) := by obtain ⟨cs, h1, _, h3⟩ := h; exact h1.at i (h3 i hi)
theorem MatAt.froz (h : MatAt w B Z f) (i : Nat) : w.frozen? ⟨B, i, none⟩ = false := by obtain ⟨cs, h1, _⟩ := h; exact h1.froz i
theorem MatAt.below {n : Nat} (h : MatAt w B Z f) (hb : Below n w w') (hn : B < n) : MatAt w' B Z f := by obtain ⟨cs, h1, h2⟩ := h; exact ⟨cs, h1.below hb hn, h2⟩
theorem MatAt.set (h : MatAt w B Z f) {i : Nat} (b : Bool) : MatAt (w.setCell ⟨B, i, none⟩ (.bool b)) B Z (fun j => if j = i then b else f j) := by
  obtain ⟨cs, h1, h2, h3⟩ := h
  refine ⟨cs.set! i (.bool b), h1.set i _, by simpa using h2, fun j hj => ?_⟩
  show (cs.set! i (.bool b))[j]? = some (.bool (if j = i then b else f j))
  by_cases e : j = i
  · subst e
    rw [if_pos rfl, Array.set!_eq_setIfInBounds, Array.getElem?_setIfInBounds_self_of_lt (by omega)]
  · rw [if_neg e, Array.set!_eq_setIfInBounds, Array.getElem?_setIfInBounds_ne (Ne.symm e)]
    exact h3 j hj
theorem MatAt.upd (h : MatAt w B Z f) (i : Nat) : MatAt (w.setCell ⟨B, i, none⟩ (.bool true)) B Z (updW f i) := h.set true
theorem MatAt.new (w : World) (Z : Nat) : MatAt (w.alloc (.cells (madeCells #[.bool false] Z) 4)) w.heap.size Z (fun _ => false) := by
  refine ⟨_, CellsAt.new w _ _, by rw [size_madeCells], fun i hi => ?_⟩
  unfold madeCells
  rw [Array.getElem?_map, Array.getElem?_range, if_pos hi]
  simp [Nat.mod_one]
end
theorem mulN {k N : Nat} (h : k * N ≤ 16777216) : wrap64 ((k : Int) * (N : Int)) = ((k * N : Nat) : Int) := by
  rw [IntWalk.wrap64_in _ (by rw [← Int.natCast_mul]; omega), Int.natCast_mul]
theorem addN {m k : Nat} (h : m + k ≤ 16777216) : wrap64 ((m : Int) + (k : Int)) = ((m + k : Nat) : Int) := by
  rw [IntWalk.wrap64_in _ (by omega)]
  omega
/-- Where an entry of the table lies, as the program counts it. -/
theorem spotN {a b N : Nat} (hN : N ≤ 4096) (ha : a < N) (hb : b < N) : ∃ m p : Nat, m = a * N ∧ p = a * N + b ∧ wrap64 ((a : Int) * (N : Int)) = (m : Int) ∧ wrap64 ((m : Int) + (b : Int)) = (p : Int) ∧ p < N * N := by
  have h := at_lt ha hb
  have h2 : N * N ≤ 16777216 := Nat.mul_le_mul hN hN
  exact ⟨_, _, rfl, rfl, mulN (by omega), addN (by omega), h⟩
set_option maxRecDepth 100000 in
set_option maxHeartbeats 8000000 in
theorem links_any (v : Value) (l : List Body) (vc : Value) (cs : List Con) (w : World) (hl : Reads bodyE w v l) (hr : Reads conE w vc cs) (hn : l.length ≤ 4096) (hs : Asc l) (hc : ∀ c ∈ cs, (∃ b ∈ l, c.lo = b.key) ∧ ∃ b ∈ l, c.hi = b.key) (hM1 : cs.length ≤ 100000000000) :
    Calls Tryz.prog 35 #[v, vc] w fun e w' => ∃ B f, e = .returned (.slice (some ⟨B, 0, none⟩) (l.length * l.length) (l.length * l.length)) ∧ MatAt w' B (l.length * l.length) f ∧ w.heap.size ≤ B ∧ EdgeW l f cs ∧ ClosW f l.length l.length ∧ Below w.heap.size w w' := by
  have HLV := Lib.hid hl
  obtain ⟨A, c, b1, o1, rfl, hA, hx⟩ := hl.bodies
  obtain ⟨A2, d, b2, o2, rfl, hB, hy⟩ := hr.form
  obtain ⟨M, hM⟩ : ∃ M, M = cs.length := ⟨_, rfl⟩
  rw [← hM] at hM1 ⊢
  have HM := Lib.hid hM
  have HA := Lib.hid hA
  have HX := Lib.hid hx
  have HB := Lib.hid hB
  have HY := Lib.hid hy
  have HC := Lib.hid hc
  have HS := Lib.hid hs
  obtain ⟨N, hN⟩ : ∃ N, N = l.length := ⟨_, rfl⟩
  have HN := Lib.hid hN
  have hN4 : N ≤ 4096 := by omega
  obtain ⟨Z, hZ⟩ : ∃ Z, Z = N * N := ⟨_, rfl⟩
  have HZ := Lib.hid hZ
  have hZ1 : Z ≤ 16777216 := by rw [hZ]; exact Nat.mul_le_mul hN4 hN4
  have hZm : wrap64 ((N : Int) * (N : Int)) = (Z : Int) := by rw [hZ]; exact mulN (by omega)
  have mk := fun W => run_makeBool Z hZ1 W
  rw [← hN, ← hZ]
  clear hl hr hx hA hB hy hc hM hN hn hs hZ
  go_enter Tryz.func35, Tryz.ntmps35
  go_wp2
  clear hZm mk
  go_loopw [7] (fun i wr => ∃ (k : Nat) (f : Nat → Bool), k ≤ N ∧ i = .int .i64 k ∧ MatAt wr w.heap.size Z f ∧ Below w.heap.size w wr) (fun i _ => N - (intOf i).toNat)
  case atStart => exact ⟨0, _, by omega, rfl, MatAt.new w Z, (by repeat (first | with_reducible exact Below.refl _ _ | with_reducible refine bel_alloc ?_ _ | with_reducible refine bel_drewN ?_ _ | with_reducible refine bel_drew ?_ | with_reducible refine bel_grow ?_ _ | with_reducible refine bel_set ?_ (by first | omega | (simp; done) | (simp; omega)) _))⟩
  case round =>
    obtain ⟨k, f, hk, rfl, hm, hbel⟩ := hrel
    have HMAT := Lib.hid hm
    have HBEL := Lib.hid hbel
    have hzw := hbel.size
    have lB := hm.lt
    clear hm hbel
    by_cases hlt : k < N
    · have hkl : k < l.length := by rw [← HN.out]; exact hlt
      obtain ⟨eA, zA⟩ := HA.out (by omega)
      have ix : ∀ W, (Instr.indexAt 38 (.slice A N c) (.int .i64 (k : Int))).run Tryz.prog W = .ok (.pointer (some ⟨b1, o1 + k * 10, none⟩)) W := fun W => idx_body eA hlt W
      obtain ⟨q0, q1, q2, q3, q4, q5, q6, q7, q8, q9⟩ := (HX.out k hkl).below HBEL.out
      obtain ⟨m, p, e1, e2, e3, e4, e5⟩ := spotN hN4 hlt hlt
      rw [← HZ.out] at e5
      have jx := fun W => idx_bool (B := w.heap.size) (c := Z) e5 W
      have zF := HMAT.out.froz p
      have zC := HMAT.out.at e5
      clear q0 q1 q2 q3 q5 q6 q7 q8 q9 e1 e2 eA
      generalize f p = old at zC
      go_wp2
      go_roundw
      case rel => exact ⟨k + 1, _, by omega, by go_num, HMAT.out.set (i := p) _, (by repeat (first | with_reducible exact HBEL.out | with_reducible refine bel_set ?_ (by first | omega | (simp; done) | (simp; omega)) _))⟩
      case measure => simp [intOf]; omega
    · go_wp2
      go_loopw [8] (fun i w2 => ∃ (k : Nat) (f : Nat → Bool), k ≤ M ∧ i = .int .i64 k ∧ MatAt w2 w.heap.size Z f ∧ EdgeW l f (cs.take k) ∧ Below w.heap.size w w2) (fun i _ => M - (intOf i).toNat)
      case atStart => exact ⟨0, f, by omega, rfl, HMAT.out, EdgeW.nil l f, HBEL.out⟩
      case round =>
        clear HMAT HBEL hzw lB
        obtain ⟨k, f, hk, rfl, hm, he, hbel⟩ := hrel
        have HMAT := Lib.hid hm
        have HBEL := Lib.hid hbel
        have HE := Lib.hid he
        have hzw := hbel.size
        have lB := hm.lt
        clear hm hbel he
        by_cases hlt2 : k < M
        · have hkc : k < cs.length := by rw [← HM.out]; exact hlt2
          obtain ⟨eB, zB⟩ := HB.out (by omega)
          have ixk : ∀ W, (Instr.indexAt 59 (.slice A2 M d) (.int .i64 (k : Int))).run Tryz.prog W = .ok (.pointer (some ⟨b2, o2 + k * 5, none⟩)) W := fun W => idx_con eB hlt2 W
          have hcell := fun j u h => (keepB HBEL.out b2 zB _).trans (HY.out k hkc j u h)
          have c0 : wr.cell? ⟨b2, o2 + k * 5, none⟩ = some (.int .u32 cs[k].lo) := hcell 0 _ rfl
          have c1 : wr.cell? ⟨b2, o2 + k * 5 + 1, none⟩ = some (.int .u32 cs[k].hi) := hcell 1 _ rfl
          obtain ⟨⟨x, hx1, hx2⟩, y, hy1, hy2⟩ := HC.out cs[k] (List.getElem_mem hkc)
          obtain ⟨a1, ha1, ea1⟩ := List.getElem_of_mem hx1
          obtain ⟨a2, ha2, ea2⟩ := List.getElem_of_mem hy1
          obtain ⟨f1, hf1, hk1, F1⟩ := find_at (l := l) (key := cs[k].lo) ⟨a1, ha1, by rw [ea1, hx2]⟩
          obtain ⟨f2, hf2, hk2, F2⟩ := find_at (l := l) (key := cs[k].hi) ⟨a2, ha2, by rw [ea2, hy2]⟩
          have HK1 := Lib.hid hk1
          have HK2 := Lib.hid hk2
          have g1 : f1 < N := by have := HN.out; omega
          have g2 : f2 < N := by have := HN.out; omega
          obtain ⟨eA, zA⟩ := HA.out (by omega)
          have ix1 : ∀ W, (Instr.indexAt 38 (.slice A N c) (.int .i64 (f1 : Int))).run Tryz.prog W = .ok (.pointer (some ⟨b1, o1 + f1 * 10, none⟩)) W := fun W => idx_body eA g1 W
          have ix2 : ∀ W, (Instr.indexAt 38 (.slice A N c) (.int .i64 (f2 : Int))).run Tryz.prog W = .ok (.pointer (some ⟨b1, o1 + f2 * 10, none⟩)) W := fun W => idx_body eA g2 W
          obtain ⟨_, _, _, _, q4, _, _, _, _, _⟩ := (HX.out f1 hf1).below HBEL.out
          obtain ⟨_, _, _, _, r4, _, _, _, _, _⟩ := (HX.out f2 hf2).below HBEL.out
          obtain ⟨m, p, e1, e2, e3, e4, e5⟩ := spotN hN4 g1 g2
          obtain ⟨m', p', e1', e2', e3', e4', e5'⟩ := spotN hN4 g2 g1
          rw [← HZ.out] at e5 e5'
          have jx := fun W => idx_bool (B := w.heap.size) (c := Z) e5 W
          have jx' := fun W => idx_bool (B := w.heap.size) (c := Z) e5' W
          have zF := HMAT.out.froz p
          have zF' := HMAT.out.froz p'
          have zC := HMAT.out.at e5
          have zC' := HMAT.out.at e5'
          have zF2 := (HMAT.out.upd p).froz p'
          have zC2 := (HMAT.out.upd p).at e5'
          have F1 := Lib.hid (F1 _ wr (HLV.out.below HBEL.out))
          have F2 := Lib.hid (F2 _ wr (HLV.out.below HBEL.out))
          rw [← HN.out] at F1 F2
          have HE2 := Lib.hid e2
          have HE2' := Lib.hid e2'
          have htk : cs.take (k + 1) = cs.take k ++ [cs[k]] := List.take_succ_eq_append_getElem hkc
          have HTK := Lib.hid htk
          clear hcell hx1 hx2 hy1 hy2 ha1 ea1 ha2 ea2 hk1 hk2 eA eB e1 e2 e1' e2' htk
          generalize cs[k] = C at *
          obtain ⟨i1, hi1⟩ : ∃ i1, i1 = (l[f1]'hf1).inv := ⟨_, rfl⟩
          obtain ⟨i2, hi2⟩ : ∃ i2, i2 = (l[f2]'hf2).inv := ⟨_, rfl⟩
          rw [← hi1] at q4
          rw [← hi2] at r4
          have HI1 := Lib.hid hi1
          have HI2 := Lib.hid hi2
          clear hi1 hi2
          go_wp2_with fail
          refine F1.out.mono ?_
          rintro e w' ⟨rfl, rfl⟩
          go_wp2_with fail
          refine F2.out.mono ?_
          rintro e w' ⟨rfl, rfl⟩
          by_cases p1 : 0 < i1
          · by_cases p2 : 0 < i2
            · go_wp2
              go_roundw
              case rel =>
                refine ⟨k + 1, _, by omega, by go_num, (HMAT.out.upd p).upd p', ?_, (by repeat (first | with_reducible exact HBEL.out | with_reducible refine bel_set ?_ (by first | omega | (simp; done) | (simp; omega)) _))⟩
                rw [HTK.out]
                refine EdgeW.snoc HS.out HE.out (fun i h => upd_mono (upd_mono h)) hf1 hf2 HK1.out HK2.out fun _ _ => ⟨?_, ?_⟩
                · rw [← HN.out, ← HE2.out]; exact upd_mono upd_here
                · rw [← HN.out, ← HE2'.out]; exact upd_here
              case measure => simp [intOf]; omega
            · go_wp2
              go_roundw
              case rel =>
                refine ⟨k + 1, f, by omega, by go_num, HMAT.out, ?_, (by repeat (first | with_reducible exact HBEL.out | with_reducible refine bel_set ?_ (by first | omega | (simp; done) | (simp; omega)) _))⟩
                rw [HTK.out]
                exact EdgeW.snoc HS.out HE.out (fun i h => h) hf1 hf2 HK1.out HK2.out fun _ h => absurd h (by have := HI2.out; omega)
              case measure => simp [intOf]; omega
          · go_wp2
            go_roundw
            case rel =>
              refine ⟨k + 1, f, by omega, by go_num, HMAT.out, ?_, (by repeat (first | with_reducible exact HBEL.out | with_reducible refine bel_set ?_ (by first | omega | (simp; done) | (simp; omega)) _))⟩
              rw [HTK.out]
              exact EdgeW.snoc HS.out HE.out (fun i h => h) hf1 hf2 HK1.out HK2.out fun h _ => absurd h (by have := HI1.out; omega)
            case measure => simp [intOf]; omega
        · go_wp2
          go_loopw [11] (fun i w3 => ∃ (k : Nat) (f : Nat → Bool), k ≤ N ∧ i = .int .i64 k ∧ MatAt w3 w.heap.size Z f ∧ EdgeW l f cs ∧ ClosW f N k ∧ Below w.heap.size w w3) (fun i _ => N - (intOf i).toNat)
          case atStart => exact ⟨0, f, by omega, rfl, HMAT.out, by have := HE.out; rwa [List.take_of_length_le (by have := HM.out; omega)] at this, clos_zero, HBEL.out⟩
          case round =>
            clear HMAT HBEL HE hzw lB hlt hlt2 hk
            obtain ⟨k, f, hk, rfl, hm, he, hcl, hbel⟩ := hrel
            have HE := Lib.hid he
            have HCL := Lib.hid hcl
            clear he hcl
            by_cases hkN : k < N
            · have HM0 := Lib.hid hm
              have HB0 := Lib.hid hbel
              clear hm hbel
              go_wp2
              go_loopw [12] (fun i w4 => ∃ (a : Nat), a ≤ N ∧ i = .int .i64 a ∧ MatAt w4 w.heap.size Z (rndW f N k (a * N)) ∧ Below w.heap.size w w4) (fun i _ => N - (intOf i).toNat)
              case atStart => exact ⟨0, by omega, rfl, by rw [Nat.zero_mul, rnd_zero]; exact HM0.out, HB0.out⟩
              case round =>
                clear HM0 HB0
                obtain ⟨a, ha, rfl, hm, hbel⟩ := hrel
                have HM1 := Lib.hid hm
                have HB1 := Lib.hid hbel
                clear hm hbel
                by_cases haN : a < N
                · go_wp2
                  go_loopw [13] (fun i w5 => ∃ (b : Nat), b ≤ N ∧ i = .int .i64 b ∧ MatAt w5 w.heap.size Z (rndW f N k (a * N + b)) ∧ Below w.heap.size w w5) (fun i _ => N - (intOf i).toNat)
                  case atStart => exact ⟨0, by omega, rfl, HM1.out, HB1.out⟩
                  case round =>
                    clear HM1 HB1
                    obtain ⟨b, hb, rfl, hm, hbel⟩ := hrel
                    have HMAT := Lib.hid hm
                    have HBEL := Lib.hid hbel
                    have hzw := hbel.size
                    have lB := hm.lt
                    clear hm hbel
                    by_cases hbN : b < N
                    · obtain ⟨m1, p1, u1, u2, u3, u4, u5⟩ := spotN hN4 haN hkN
                      obtain ⟨m2, p2, x1, x2, x3, x4, x5⟩ := spotN hN4 hkN hbN
                      obtain ⟨m3, p3, y1, y2, y3, y4, y5⟩ := spotN hN4 haN hbN
                      rw [← HZ.out] at u5 x5 y5
                      have j1 := fun W => idx_bool (B := w.heap.size) (c := Z) u5 W
                      have j2 := fun W => idx_bool (B := w.heap.size) (c := Z) x5 W
                      have j3 := fun W => idx_bool (B := w.heap.size) (c := Z) y5 W
                      have c1 := HMAT.out.at u5
                      have c2 := HMAT.out.at x5
                      have zF := HMAT.out.froz p3
                      have zC := HMAT.out.at y5
                      rw [u2, rnd_col hkN, ← u2] at c1
                      rw [x2, rnd_row hbN, ← x2] at c2
                      have HY := Lib.hid y2
                      have hne : m3 = m1 := y1.trans u1.symm
                      subst hne
                      obtain ⟨v1, hv1⟩ : ∃ v1, v1 = f p1 := ⟨_, rfl⟩
                      obtain ⟨v2, hv2⟩ : ∃ v2, v2 = f p2 := ⟨_, rfl⟩
                      rw [← hv1] at c1
                      rw [← hv2] at c2
                      have HV := Lib.hid (show (f (a * N + k) && f (k * N + b)) = (v1 && v2) by rw [← u2, ← x2, hv1, hv2])
                      clear u1 u2 x1 x2 y1 y2 hv1 hv2
                      cases v1
                      · go_wp2
                        go_roundw
                        case rel => exact ⟨b + 1, by omega, by go_num, by rw [← Nat.add_assoc, rnd_no hbN HV.out]; exact HMAT.out, (by repeat (first | with_reducible exact HBEL.out | with_reducible refine bel_set ?_ (by first | omega | (simp; done) | (simp; omega)) _))⟩
                        case measure => simp [intOf]; omega
                      · cases v2
                        · go_wp2
                          go_roundw
                          case rel => exact ⟨b + 1, by omega, by go_num, by rw [← Nat.add_assoc, rnd_no hbN HV.out]; exact HMAT.out, (by repeat (first | with_reducible exact HBEL.out | with_reducible refine bel_set ?_ (by first | omega | (simp; done) | (simp; omega)) _))⟩
                          case measure => simp [intOf]; omega
                        · go_wp2
                          go_roundw
                          case rel => exact ⟨b + 1, by omega, by go_num, by rw [← Nat.add_assoc, rnd_yes hbN HV.out]; have h := HMAT.out.upd p3; rw [HY.out] at h ⊢; exact h, (by repeat (first | with_reducible exact HBEL.out | with_reducible refine bel_set ?_ (by first | omega | (simp; done) | (simp; omega)) _))⟩
                          case measure => simp [intOf]; omega
                    · go_wp2
                      go_roundw
                      case rel =>
                        obtain rfl : b = N := by omega
                        exact ⟨a + 1, by omega, by go_num, by rw [Nat.add_mul, Nat.one_mul]; exact HMAT.out, HBEL.out⟩
                      case measure => simp [intOf]; omega
                · go_wp2
                  go_roundw
                  case rel =>
                    obtain rfl : a = N := by omega
                    exact ⟨k + 1, _, by omega, by go_num, HM1.out, HE.out.mono (fun i h => rnd_mono h), clos_round HCL.out hkN, HB1.out⟩
                  case measure => simp [intOf]; omega
            · go_wp2
              go_ret
              obtain rfl : k = N := by omega
              exact ⟨_, f, rfl, hm, Nat.le_refl _, HE.out, HCL.out, hbel⟩
end Go.Proofs.YtnhaiecbjipodaaGreatDoor
/- The references' Of (the islands), and 'has'. -/
namespace Go.Proofs.YtnhaiecbjipodaaGreatDoor
open Go.RowKit Go.Shelf Go.Proofs
attribute [local go_sem] Grow.cell Grow.froz Grow.lt lt_s1 lt_s2 lt_s3 lt_s4 lt_s5
structure SlD where
  A : Option Addr
  n : Nat
  c : Nat
def slE : Enc SlD := ⟨1, fun s => [.slice s.A s.n s.c], fun _ => rfl, fun c u hu => by
  simp at hu
  subst hu
  rfl, by decide⟩
theorem slInfo : (Tryz.prog.info? 61).map (fun i => (i.zero, i.size, i.bytes)) = some (some (.slice none 0 0), 1, 24) := by kernel_rfl
/-- These keys are a row of the table. -/
def RowK (l : List Body) (f : Nat → Bool) (ks : List Int) : Prop := ∃ a, a < l.length ∧ ∀ j (hj : j < l.length), l[j].key ∈ ks ↔ f (a * l.length + j) = true
def IslsAt (w : World) (base : Nat) (l : List Body) (f : Nat → Bool) (u : Value) (ss : List SlD) : Prop :=
  Own slE 61 w base u ss ∧ ∀ s ∈ ss, ∃ ks, Own u32E 23 w base (.slice s.A s.n s.c) ks ∧ ks.length ≤ 4096 ∧ RowK l f ks
theorem apart_or {α β : Type} {E : Enc α} {E' : Enc β} {t t' : TypeId} {w : World} {base base' : Nat} {v u : Value} {l : List α} {l' : List β} (h : Own E t w base v l) (h' : Own E' t' w base' u l') (hne : t ≠ t') : v.ownBlock = none ∨ v.ownBlock ≠ u.ownBlock := by
  cases e : v.ownBlock with
  | none => exact .inl rfl
  | some k => exact .inr fun h2 => own_apart h h' hne k e h2.symm
theorem IslsAt.below {w w' : World} {base : Nat} {l : List Body} {f : Nat → Bool} {u : Value} {ss : List SlD} (h : IslsAt w base l f u ss) (hb : Below w.heap.size w w') : IslsAt w' base l f u ss :=
  ⟨h.1.below hb, fun s hs => by obtain ⟨ks, h1, h2⟩ := h.2 s hs; exact ⟨ks, h1.below hb, h2⟩⟩
theorem IslsAt.snoc {w w' : World} {base : Nat} {l : List Body} {f : Nat → Bool} {u u' : Value} {ss : List SlD} (h : IslsAt w base l f u ss) {y : SlD} {ks : List Int} (hy : Own u32E 23 w base (.slice y.A y.n y.c) ks) (hk : ks.length ≤ 4096) (hr : RowK l f ks)
    (ho : Own slE 61 w' base u' (ss ++ [y])) (hg : w.grownBy w' u.ownBlock) : IslsAt w' base l f u' (ss ++ [y]) := by
  refine ⟨ho, fun s hs => ?_⟩
  rcases List.mem_append.1 hs with hs | hs
  · obtain ⟨ks', h1, h2⟩ := h.2 s hs
    exact ⟨ks', h1.kept hg (apart_or h1 h.1 (by decide)), h2⟩
  · obtain rfl := List.mem_singleton.1 hs
    exact ⟨ks, hy.kept hg (apart_or hy h.1 (by decide)), hk, hr⟩
/-- The row, up to its k-th entry, as keys. -/
def RowTo (l : List Body) (f : Nat → Bool) (a k : Nat) (kl : List Int) : Prop := ∀ x, x ∈ kl ↔ ∃ (j : Nat) (hj : j < l.length), j < k ∧ l[j].key = x ∧ f (a * l.length + j) = true
theorem RowTo.zero (l : List Body) (f : Nat → Bool) (a : Nat) : RowTo l f a 0 [] := fun _ => ⟨fun h => absurd h (List.not_mem_nil), fun ⟨j, _, h, _⟩ => absurd h (Nat.not_lt_zero j)⟩
theorem RowTo.no {l : List Body} {f : Nat → Bool} {a k : Nat} {kl : List Int} (h : RowTo l f a k kl) (hf : f (a * l.length + k) = false) : RowTo l f a (k + 1) kl := fun x => by
  rw [h x]
  constructor
  · rintro ⟨j, hj, h1, h2⟩
    exact ⟨j, hj, by omega, h2⟩
  · rintro ⟨j, hj, h1, h2, h3⟩
    refine ⟨j, hj, ?_, h2, h3⟩
    have : j ≠ k := fun e => by subst e; rw [hf] at h3; cases h3
    omega
theorem RowTo.yes {l : List Body} {f : Nat → Bool} {a k : Nat} {kl : List Int} (h : RowTo l f a k kl) (hk : k < l.length) (hf : f (a * l.length + k) = true) : RowTo l f a (k + 1) (kl ++ [l[k].key]) := fun x => by
  rw [List.mem_append, h x, List.mem_singleton]
  constructor
  · rintro (⟨j, hj, h1, h2⟩ | rfl)
    · exact ⟨j, hj, by omega, h2⟩
    · exact ⟨k, hk, by omega, rfl, hf⟩
  · rintro ⟨j, hj, h1, h2, h3⟩
    by_cases e : j = k
    · subst e; exact .inr h2.symm
    · exact .inl ⟨j, hj, by omega, h2, h3⟩
theorem RowTo.full {l : List Body} {f : Nat → Bool} {a k : Nat} {kl : List Int} (h : RowTo l f a k kl) (hs : Asc l) (ha : a < l.length) (hk : k = l.length) : RowK l f kl := by
  refine ⟨a, ha, fun j hj => ?_⟩
  rw [h]
  constructor
  · rintro ⟨j', hj', _, e, hf⟩
    obtain rfl := key_inj hs hj' hj e
    exact hf
  · exact fun hf => ⟨j, hj, by omega, rfl, hf⟩
set_option maxRecDepth 100000 in
set_option maxHeartbeats 2000000 in
theorem has_any (v : Value) (ks : List Int) (key : Int) (w : World) (hv : Reads u32E w v ks) :
    Calls Tryz.prog 21 #[v, .int .u32 key] w fun e w' => e = .returned (.bool (decide (key ∈ ks))) ∧ w' = w := by
  have q := hv.1
  obtain ⟨A, c, b1, o1, rfl, hA, hx⟩ := hv.form
  have hA := Lib.hid hA
  have hx := Lib.hid hx
  clear hv
  go_enter Tryz.func21, Tryz.ntmps21
  go_wp2
  go_loop [5] (fun i => ∃ k : Nat, k ≤ ks.length ∧ i = .int .i64 k ∧ ∀ j (hj : j < ks.length), j < k → ¬ ks[j] = key) (fun i => ks.length - (intOf i).toNat)
  case atStart => exact ⟨0, by omega, rfl, fun j _ h => absurd h (Nat.not_lt_zero j)⟩
  case round =>
    obtain ⟨k, hk, rfl, hP⟩ := hrel
    have HP := Lib.hid hP
    clear hP
    by_cases hlt : k < ks.length
    · obtain ⟨eA, zA⟩ := hA.out (by omega)
      have ix := fun w => idx_u32 (c := c) eA hlt w
      have q0 : w.cell? ⟨b1, o1 + k, none⟩ = some (.int .u32 ks[k]) := by
        have := hx.out k hlt 0 _ rfl
        simpa [u32E] using this
      by_cases he : ks[k] = key
      · have hq : (ks[k] == key) = true := by simp [he]
        have HE := Lib.hid he
        clear he eA
        go_wp2
        go_ret
        refine ⟨?_, rfl⟩
        rw [decide_eq_true (p := key ∈ ks) (by rw [← HE.out]; exact List.getElem_mem hlt)]
        rfl
      · have hq : (ks[k] == key) = false := by simp [he]
        have HE := Lib.hid he
        clear he eA
        go_wp2
        go_round
        case rel =>
          refine ⟨k + 1, by omega, by go_num, fun j hj h => ?_⟩
          by_cases e : j = k
          · subst e; exact HE.out
          · exact HP.out j hj (by omega)
        case measure => simp [intOf]; omega
    · go_wp2
      go_ret
      refine ⟨?_, rfl⟩
      rw [decide_eq_false (p := key ∈ ks) (fun hm => by
        obtain ⟨j, hj, e⟩ := List.getElem_of_mem hm
        exact HP.out j hj (by omega) e)]
      rfl
set_option maxRecDepth 100000 in
set_option maxHeartbeats 8000000 in
theorem isls_any (v : Value) (l : List Body) (vc : Value) (cs : List Con) (w : World) (hl : Reads bodyE w v l) (hr : Reads conE w vc cs) (hn : l.length ≤ 4096) (hs : Asc l) (hc : ∀ c ∈ cs, (∃ b ∈ l, c.lo = b.key) ∧ ∃ b ∈ l, c.hi = b.key) (hM1 : cs.length ≤ 100000000000) :
    Calls Tryz.prog 19 #[v, vc] w fun e w' => ∃ u f ss, e = .returned u ∧ IslsAt w' w.heap.size l f u ss ∧ ss.length ≤ 4096 ∧ EdgeW l f cs ∧ ClosW f l.length l.length ∧ Below w.heap.size w w' := by
  have HLK := Lib.hid (links_any v l vc cs w hl hr hn hs hc hM1)
  obtain ⟨A, c, b1, o1, rfl, hA, hx⟩ := hl.bodies
  obtain ⟨A2, d, b2, o2, rfl, _, _⟩ := hr.form
  obtain ⟨M, hM⟩ : ∃ M, M = cs.length := ⟨_, rfl⟩
  rw [← hM] at HLK ⊢
  have HA := Lib.hid hA
  have HX := Lib.hid hx
  have HS := Lib.hid hs
  obtain ⟨N, hN⟩ : ∃ N, N = l.length := ⟨_, rfl⟩
  have HN := Lib.hid hN
  have hN4 : N ≤ 4096 := by omega
  obtain ⟨Z, hZ⟩ : ∃ Z, Z = N * N := ⟨_, rfl⟩
  have HZ := Lib.hid hZ
  rw [← hN, ← hZ] at HLK
  rw [← hN]
  clear hl hr hx hA hc hM hN hn hs hZ hM1
  go_enter Tryz.func19, Tryz.ntmps19
  go_wp2_with (go_at_call 35; refine HLK.out.mono ?_; rintro e w1 ⟨B, f, rfl, hm, hBw, he, hcl, hb1⟩; have HMAT := Lib.hid hm; have HE := Lib.hid he; have HCL := Lib.hid hcl; have HB1 := Lib.hid hb1; have lB := hm.lt; clear hm he hcl hb1)
  have hz1 := HB1.out.size
  go_loopw [7, 8] (fun u i wr => ∃ (a : Nat) (ss : List SlD), a ≤ N ∧ i = .int .i64 a ∧ IslsAt wr w1.heap.size l f u ss ∧ ss.length ≤ a ∧ Below w1.heap.size w1 wr) (fun _ i _ => N - (intOf i).toNat)
  case atStart => exact ⟨0, [], by omega, rfl, ⟨Own.nil _ _ _ _, fun s hs => by cases hs⟩, by simp, Below.refl _ _⟩
  case round =>
    obtain ⟨a, ss, ha, rfl, hI, hsl, hbel⟩ := hrel
    obtain ⟨W0, hW0⟩ : ∃ W0, W0 = wr := ⟨_, rfl⟩
    subst hW0
    have HI := Lib.hid hI
    have HB := Lib.hid hbel
    have hzr := hbel.size
    clear hI hbel
    by_cases hlt : a < N
    · go_wp2
      go_loopw [9, 10, 11] (fun u fi i wx => ∃ (k : Nat) (f1 : Bool) (kl : List Int), k ≤ N ∧ i = .int .i64 k ∧ fi = .bool f1 ∧ Own u32E 23 wx W0.heap.size u kl ∧ kl.length ≤ k ∧ RowTo l f a k kl ∧ Below W0.heap.size W0 wx) (fun _ _ i _ => N - (intOf i).toNat)
      case atStart => exact ⟨0, true, [], by omega, rfl, rfl, Own.nil _ _ _ _, by simp, RowTo.zero l f a, Below.refl _ _⟩
      case round =>
        obtain ⟨k, f1, kl, hk, rfl, rfl, hO, hkl, hkx, hbx⟩ := hrel
        by_cases hkN : k < N
        · have hkll : k < l.length := by rw [← HN.out]; exact hkN
          obtain ⟨eA, zA⟩ := HA.out (by omega)
          have ix : ∀ W, (Instr.indexAt 38 (.slice A N c) (.int .i64 (k : Int))).run Tryz.prog W = .ok (.pointer (some ⟨b1, o1 + k * 10, none⟩)) W := fun W => idx_body eA hkN W
          have hbw : Below w.heap.size w wr := HB1.out.trans ((HB.out.trans (hbx.mono hzr)).mono hz1)
          obtain ⟨q0, q1, q2, q3, q4, q5, q6, q7, q8, q9⟩ := (HX.out k hkll).below hbw
          obtain ⟨m, p, e1, e2, e3, e4, e5⟩ := spotN hN4 hlt hkN
          rw [← HZ.out] at e5
          have jx := fun W => idx_bool (B := B) (c := Z) e5 W
          have zC : wr.cell? ⟨B, p, none⟩ = some (.bool (f p)) := (HMAT.out.below (HB.out.trans (hbx.mono hzr)) lB).at e5
          have hfp : f (a * l.length + k) = f p := by rw [e2, HN.out]
          have HO := Lib.hid hO
          have HKX := Lib.hid hkx
          have HBX := Lib.hid hbx
          have HFP := Lib.hid hfp
          have hzx := hbx.size
          have hzw := hbw.size
          have l1 : B < wr.heap.size := by omega
          have l2 : b1 < wr.heap.size := by omega
          clear q1 q2 q3 q4 q5 q6 q7 q8 q9 e1 e2 eA hO hkx hbx hfp hbw
          obtain ⟨fp, hfp⟩ : ∃ fp, fp = f p := ⟨_, rfl⟩
          rw [← hfp] at zC HFP
          clear hfp
          obtain ⟨K, hK⟩ : ∃ K, K = l[k].key := ⟨_, rfl⟩
          rw [← hK] at q0
          have HK := Lib.hid hK
          clear hK
          have hkl' : kl.length + 1 ≤ 4096 := by omega
          cases fp
          · go_wp2
            go_roundw
            case rel => exact ⟨k + 1, f1, kl, by omega, by go_num, rfl, HO.out, by omega, HKX.out.no HFP.out, HBX.out⟩
            case measure => simp [intOf]; omega
          · have HN2 := Lib.hid (HKX.out.yes hkll HFP.out)
            rw [← HK.out] at HN2
            clear HKX HFP HK
            cases f1
            · go_wp2_with (at_builtin; refine own_append u32E W0.heap.size rfl (.tmp 35) (.tmp 41) 61 23 _ 4 rfl Tryz.underlying61 u32Info rfl (by decide) _ kl K _ (by rfl) rfl (by first | rfl | simp [go_sem]) HO.out HBX.out (by omega) (by omega) ?_; intro v1 w2 own1 bel1 gr1 sz1)
              have HO1 := Lib.hid own1
              have HB1' := Lib.hid bel1
              clear own1 bel1 gr1 sz1
              try go_wp2
              go_roundw
              case rel => exact ⟨k + 1, false, _, by omega, by go_num, rfl, HO1.out, by simp; omega, HN2.out, HB1'.out⟩
              case measure => simp [intOf]; omega
            · by_cases hge : a ≤ k
              · go_wp2_with (at_builtin; refine own_append u32E W0.heap.size rfl (.tmp 35) (.tmp 41) 61 23 _ 4 rfl Tryz.underlying61 u32Info rfl (by decide) _ kl K _ (by rfl) rfl (by first | rfl | simp [go_sem]) HO.out HBX.out (by omega) (by omega) ?_; intro v1 w2 own1 bel1 gr1 sz1)
                have HO1 := Lib.hid own1
                have HB1' := Lib.hid bel1
                clear own1 bel1 gr1 sz1
                try go_wp2
                go_roundw
                case rel => exact ⟨k + 1, true, _, by omega, by go_num, rfl, HO1.out, by simp; omega, HN2.out, HB1'.out⟩
                case measure => simp [intOf]; omega
              · go_wp2_with (at_builtin; refine own_append u32E W0.heap.size rfl (.tmp 35) (.tmp 41) 61 23 _ 4 rfl Tryz.underlying61 u32Info rfl (by decide) _ kl K _ (by rfl) rfl (by first | rfl | simp [go_sem]) HO.out HBX.out (by omega) (by omega) ?_; intro v1 w2 own1 bel1 gr1 sz1)
                have HO1 := Lib.hid own1
                have HB1' := Lib.hid bel1
                clear own1 bel1 gr1 sz1
                try go_wp2
                go_roundw
                case rel => exact ⟨k + 1, false, _, by omega, by go_num, rfl, HO1.out, by simp; omega, HN2.out, HB1'.out⟩
                case measure => simp [intOf]; omega
        · have hkE : k = l.length := by have := HN.out; omega
          have HROW := Lib.hid (hkx.full HS.out (by have := HN.out; omega) hkE)
          have hO1 := Lib.hid (own_base hO hzr)
          have HI2 := Lib.hid (HI.out.below hbx)
          have HB2 := Lib.hid (HB.out.trans (hbx.mono hzr))
          have hkl4 : kl.length ≤ 4096 := by omega
          have hzb := HB2.out.size
          obtain ⟨A5, c5, rfl⟩ := hO.form
          clear hO hkx hbx HI HB
          cases f1
          · go_wp2
            go_roundw
            case rel => exact ⟨a + 1, ss, by omega, by go_num, HI2.out, by omega, HB2.out⟩
            case measure => simp [intOf]; omega
          · by_cases h0 : 0 < kl.length
            · go_wp2_with (at_builtin; refine own_append slE w1.heap.size rfl (.tmp 55) (.tmp 57) 57 61 _ 24 rfl Tryz.underlying57 slInfo rfl (by decide) _ ss ⟨A5, kl.length, c5⟩ _ (by rfl) rfl (by first | rfl | simp [go_sem]) HI2.out.1 HB2.out (by omega) (by omega) ?_; intro v1 w2 own1 bel1 gr1 sz1)
              have HI3 := Lib.hid (HI2.out.snoc hO1.out hkl4 HROW.out own1 gr1)
              have HB3 := Lib.hid bel1
              clear own1 bel1 gr1 sz1
              go_wp2
              go_roundw
              case rel => exact ⟨a + 1, _, by omega, by go_num, HI3.out, by simp; omega, HB3.out⟩
              case measure => simp [intOf]; omega
            · go_wp2
              go_roundw
              case rel => exact ⟨a + 1, ss, by omega, by go_num, HI2.out, by omega, HB2.out⟩
              case measure => simp [intOf]; omega
    · go_wp2
      go_ret
      exact ⟨_, f, ss, rfl, ⟨own_base HI.out.1 hz1, fun s hs => by obtain ⟨ks, h1, h2⟩ := HI.out.2 s hs; exact ⟨ks, own_base h1 hz1, h2⟩⟩, by omega, HE.out, HCL.out, HB1.out.trans (HB.out.mono hz1)⟩
end Go.Proofs.YtnhaiecbjipodaaGreatDoor
