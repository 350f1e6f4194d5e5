/- Contracts of the program's functions, by walks, and plain facts beside them: Pairs, Conts, Search, SumAt, SumAdd, Sums, Round, Solve, Corr, Shifts1. -/
import Derived.Test.YtnhaiecbjipodaaGreatDoorB25
import Derived.Test.YtnhaiecbjipodaaGreatDoorB07
import Derived.BigRegion
import Derived.Test.YtnhaiecbjipodaaGreatDoorB16
import Derived.Deep.DeepCutAuto
/- The plain law of the pairs: the sorted keys that share a bucket are the pairs of bodies that share one, in the view's order. No walk. -/
namespace Go.Proofs.YtnhaiecbjipodaaGreatDoor
open Go.RowKit Go.Shelf Go.Proofs
def pairsOf : List Body → List (Body × Body)
  | [] => []
  | a :: r => r.map (fun b => (a, b)) ++ pairsOf r
def keyP (p : Body × Body) : Int × Int := (p.1.key, p.2.key)
def shareB (a b : Body) : Bool := (bksOf a).any fun x => decide (x ∈ bksOf b)
def candL (l : List Body) : List (Body × Body) := (pairsOf l).filter fun p => shareB p.1 p.2
def foundL (l : List Body) : List (Body × Body) := (candL l).filter fun p => overlapI (boxI p.1) (boxI p.2)
def touchL (l : List Body) : List (Body × Body) := (foundL l).filter fun p => touchI p.1 p.2
def contactsL (l : List Body) : List Con := (touchL l).map fun p => conOf p.1 p.2
def Asc (l : List Body) : Prop := l.Pairwise fun a b => a.key < b.key
theorem Asc.nodup {l : List Body} (h : Asc l) : (l.map Body.key).Nodup := by
  rw [List.nodup_iff_pairwise_ne, List.pairwise_map]
  exact h.imp fun h => by omega
theorem mem_pairsOf {l : List Body} (hs : Asc l) {p : Body × Body} : p ∈ pairsOf l ↔ p.1 ∈ l ∧ p.2 ∈ l ∧ p.1.key < p.2.key := by
  induction l with
  | nil => simp [pairsOf]
  | cons a r ih =>
    obtain ⟨h1, h2⟩ := List.pairwise_cons.1 hs
    obtain ⟨x, y⟩ := p
    simp only [pairsOf, List.mem_append, List.mem_map, Prod.mk.injEq, List.mem_cons, ih h2]
    constructor
    · rintro (⟨b, hb, rfl, rfl⟩ | ⟨hx, hy, hlt⟩)
      · exact ⟨.inl rfl, .inr hb, h1 _ hb⟩
      · exact ⟨.inr hx, .inr hy, hlt⟩
    · rintro ⟨rfl | hx, rfl | hy, hlt⟩
      · omega
      · exact .inl ⟨y, hy, rfl, rfl⟩
      · have := h1 _ hx
        omega
      · exact .inr ⟨hx, hy, hlt⟩
def ltP (a b : Int × Int) : Prop := a.1 < b.1 ∨ a.1 = b.1 ∧ a.2 < b.2
theorem ltP_irrefl (a : Int × Int) : ¬ ltP a a := by unfold ltP; omega
theorem ltP_trans {a b c : Int × Int} (h : ltP a b) (k : ltP b c) : ltP a c := by unfold ltP at *; omega
theorem pairs_sorted {l : List Body} (hs : Asc l) : ((pairsOf l).map keyP).Pairwise ltP := by
  induction l with
  | nil => simp [pairsOf]
  | cons a r ih =>
    obtain ⟨h1, h2⟩ := List.pairwise_cons.1 hs
    simp only [pairsOf, List.map_append, List.map_map]
    rw [List.pairwise_append]
    refine ⟨?_, ih h2, ?_⟩
    · rw [List.pairwise_map]
      exact h2.imp fun {x y} h => .inr ⟨rfl, h⟩
    · intro x hx y hy
      obtain ⟨b, hb, rfl⟩ := List.mem_map.1 hx
      obtain ⟨q, hq, rfl⟩ := List.mem_map.1 hy
      have := (mem_pairsOf h2).1 hq
      exact .inl (h1 _ this.1)
/-- Two strictly sorted lists with the same members are one. -/
theorem sorted_ext {α : Type} {lt : α → α → Prop} (hi : ∀ a, ¬ lt a a) (ht : ∀ {a b c}, lt a b → lt b c → lt a c) : ∀ {l m : List α}, l.Pairwise lt → m.Pairwise lt → (∀ x, x ∈ l ↔ x ∈ m) → l = m
  | [], [], _, _, _ => rfl
  | [], b :: m, _, _, h => absurd ((h b).2 (by simp)) (by simp)
  | a :: l, [], _, _, h => absurd ((h a).1 (by simp)) (by simp)
  | a :: l, b :: m, hl, hm, h => by
    obtain ⟨a1, a2⟩ := List.pairwise_cons.1 hl
    obtain ⟨b1, b2⟩ := List.pairwise_cons.1 hm
    have hab : a = b := by
      rcases List.mem_cons.1 ((h a).1 (by simp)) with e | ha
      · exact e
      · rcases List.mem_cons.1 ((h b).2 (by simp)) with e | hb
        · exact e.symm
        · exact absurd (ht (a1 b hb) (b1 a ha)) (hi a)
    subst hab
    congr 1
    refine sorted_ext hi ht a2 b2 fun x => ⟨fun hx => ?_, fun hx => ?_⟩
    · rcases List.mem_cons.1 ((h x).1 (List.mem_cons_of_mem _ hx)) with rfl | k
      · exact absurd (a1 x hx) (hi x)
      · exact k
    · rcases List.mem_cons.1 ((h x).2 (List.mem_cons_of_mem _ hx)) with rfl | k
      · exact absurd (b1 x hx) (hi x)
      · exact k
theorem bkF_asc {l : List Body} (hs : Asc l) (n : Nat) : (bkF l n).Pairwise (· < ·) := by
  unfold bkF
  rw [List.pairwise_map]
  exact (hs.sublist List.filter_sublist)
theorem mem_bkF {l : List Body} {n : Nat} {k : Int} : k ∈ bkF l n ↔ ∃ b ∈ l, (n : Int) ∈ bksOf b ∧ b.key = k := by
  unfold bkF
  simp only [List.mem_map, List.mem_filter, decide_eq_true_eq]
  constructor
  · rintro ⟨b, ⟨h1, h2⟩, h3⟩; exact ⟨b, h1, h2, h3⟩
  · rintro ⟨b, h1, h2, h3⟩; exact ⟨b, ⟨h1, h2⟩, h3⟩
theorem mem_cand {l : List Body} (hs : Asc l) (q : Int × Int) : q ∈ outL (bkF l) 1024 ↔ q ∈ (candL l).map keyP := by
  rw [mem_outL]
  unfold candL
  simp only [List.mem_map, List.mem_filter, mem_pairsOf hs]
  constructor
  · rintro ⟨n, hn, i, j, hi, hj, hne, rfl⟩
    have hlt : (bkF l n)[j]'(by omega) < (bkF l n)[i] := (List.pairwise_iff_getElem.1 (bkF_asc hs n)) j i (by omega) hi hj
    obtain ⟨b, hb, nb, eb⟩ := mem_bkF.1 (List.getElem_mem hi)
    obtain ⟨a, ha, na, ea⟩ := mem_bkF.1 (List.getElem_mem (show j < (bkF l n).length by omega))
    refine ⟨(a, b), ⟨⟨ha, hb, by rw [ea, eb]; exact hlt⟩, ?_⟩, ?_⟩
    · unfold shareB
      rw [List.any_eq_true]
      exact ⟨n, na, by simpa using nb⟩
    · unfold keyP pairO
      rw [ea, eb, Int.min_eq_right (by omega), Int.max_eq_left (by omega)]
  · rintro ⟨⟨a, b⟩, ⟨⟨ha, hb, hlt⟩, hsh⟩, rfl⟩
    simp only at ha hb hlt hsh
    unfold shareB at hsh
    obtain ⟨x, hxa, hxb⟩ := List.any_eq_true.1 hsh
    simp only [decide_eq_true_eq] at hxb
    obtain ⟨n, hn, rfl⟩ : ∃ n : Nat, n < 1024 ∧ (n : Int) = x := by
      unfold bksOf at hxa
      obtain ⟨c, _, rfl⟩ := List.mem_map.1 hxa
      obtain ⟨h0, h1⟩ := bucketI_bd c
      exact ⟨(bucketI c).toNat, by omega, by omega⟩
    obtain ⟨i, hi, ei⟩ := List.getElem_of_mem (mem_bkF.2 ⟨b, hb, hxb, rfl⟩ : b.key ∈ bkF l n)
    obtain ⟨j, hj, ej⟩ := List.getElem_of_mem (mem_bkF.2 ⟨a, ha, hxa, rfl⟩ : a.key ∈ bkF l n)
    have hji : j < i := by
      rcases Nat.lt_trichotomy j i with h | h | h
      · exact h
      · subst h; rw [ei] at ej; omega
      · have := (List.pairwise_iff_getElem.1 (bkF_asc hs n)) i j hi hj h
        rw [ei, ej] at this
        omega
    refine ⟨n, hn, i, j, hi, hji, by rw [ei, ej]; omega, ?_⟩
    unfold keyP pairO
    rw [ei, ej, Int.min_eq_right (by omega), Int.max_eq_left (by omega)]
theorem cand_sorted {l : List Body} (hs : Asc l) : ((candL l).map keyP).Pairwise ltP := (pairs_sorted hs).sublist (List.Sublist.map _ List.filter_sublist)
theorem cand_eq {l : List Body} (hs : Asc l) {ks : List (Int × Int)} (h1 : ks.Nodup) (h2 : ∀ q, q ∈ ks ↔ q ∈ outL (bkF l) 1024) (h3 : ks.Pairwise (fun a b => ltOf cmpP b a = false)) : ks = (candL l).map keyP := by
  refine sorted_ext ltP_irrefl ltP_trans ?_ (cand_sorted hs) fun q => by rw [h2 q, mem_cand hs q]
  have h4 := List.nodup_iff_pairwise_ne.1 h1
  refine (List.pairwise_iff_getElem.2 fun i j hi hj hij => ?_)
  have e1 := List.pairwise_iff_getElem.1 h3 i j hi hj hij
  have e2 := List.pairwise_iff_getElem.1 h4 i j hi hj hij
  unfold ltP
  have e3 : ¬ (ks[j].1 < ks[i].1 ∨ ks[j].1 = ks[i].1 ∧ ks[j].2 < ks[i].2) := fun e => by rw [cmpP_lt.2 e] at e1; cases e1
  have e4 : ¬ (ks[i].1 = ks[j].1 ∧ ks[i].2 = ks[j].2) := fun e => e2 (Prod.ext e.1 e.2)
  omega
theorem cand_mem {l : List Body} (hs : Asc l) {p : Body × Body} (h : p ∈ candL l) : p.1 ∈ l ∧ p.2 ∈ l ∧ p.1.key < p.2.key := (mem_pairsOf hs).1 (List.mem_filter.1 h).1
theorem found_keys {l : List Body} (hs : Asc l) : ((candL l).map keyP).filter (fun q => !apF l q) = (foundL l).map keyP := by
  unfold foundL
  rw [List.filter_map]
  congr 1
  refine List.filter_congr fun p hp => ?_
  obtain ⟨h1, h2, _⟩ := cand_mem hs hp
  show (!apF l (p.1.key, p.2.key)) = _
  unfold apF
  simp only [bdOf_mem hs.nodup h1, bdOf_mem hs.nodup h2, Bool.not_not]
/-- pairs.Find. -/
theorem pairsFind_any (v : Value) (l : List Body) (w : World) (hl : Reads bodyE w v l) (hn : l.length ≤ 4096) (hV : ∀ b ∈ l, Placed b) (hs : Asc l) (hG : Glob w) :
    Calls Tryz.prog 120 #[v] w fun e w' => ∃ v', e = .returned (.tuple #[v', .int .i64 (((candL l).length : Nat) : Int)]) ∧ Own pairE 98 w' w.heap.size v' ((foundL l).map keyP) ∧ Below w.heap.size w w' := by
  refine (find_walk v l w hl hn hV hs.nodup hG).mono ?_
  rintro e w' ⟨v', ks, rfl, h1, h2, h3, h4, h5⟩
  have hk := cand_eq hs h1 h2 h3
  subst hk
  rw [found_keys hs] at h4
  exact ⟨v', by rw [List.length_map], h4, h5⟩
end Go.Proofs.YtnhaiecbjipodaaGreatDoor
/- contacts.each over the pairs, contacts.All. -/
namespace Go.Proofs.YtnhaiecbjipodaaGreatDoor
open Go.RowKit Go.Shelf Go.Proofs
attribute [local go_sem] Grow.cell Grow.froz Grow.lt lt_s1 lt_s2 lt_s3 lt_s4 lt_s5
def consOf (l : List (Body × Body)) : List Con := (l.filter fun p => touchI p.1 p.2).map fun p => conOf p.1 p.2
theorem consOf_len (l : List (Body × Body)) : (consOf l).length ≤ l.length := by
  unfold consOf
  rw [List.length_map]
  exact List.length_filter_le _ _
theorem consOf_succ {l : List (Body × Body)} {k : Nat} (hk : k < l.length) : consOf (l.take (k + 1)) = if touchI l[k].1 l[k].2 = true then consOf (l.take k) ++ [conOf l[k].1 l[k].2] else consOf (l.take k) := by
  unfold consOf
  rw [List.take_succ_eq_append_getElem hk, List.filter_append, List.map_append]
  cases h : touchI l[k].1 l[k].2 <;> simp [h]
set_option maxRecDepth 100000 in
set_option maxHeartbeats 2000000 in
theorem cEach_any (v : Value) (fps : List (Body × Body)) (p mb base b2 : Nat) (es : List (Int × Value)) (v0 : Value) (w : World) (hO : Own pairE 98 w b2 v (fps.map keyP)) (hC : CollAt w p mb base es v0 []) (hpb : p < base) (hbw : base ≤ w.heap.size) (hlen : fps.length ≤ 100000000000)
    (hf : ∀ q ∈ fps, getM es q.1.key = some (.agg q.1.arr) ∧ getM es q.2.key = some (.agg q.2.arr) ∧ Placed q.1 ∧ Placed q.2 ∧ q.1.key < q.2.key) :
    Calls Tryz.prog 121 #[v, .func (.func 122) #[.pointer (some ⟨p, 0, none⟩)] #[]] w fun e w' => e = .returned (.tuple #[]) ∧ (∃ v1, CollAt w' p mb base es v1 (consOf fps)) ∧ Below p w w' := by
  obtain ⟨A, c, rfl⟩ := hO.form
  obtain ⟨N, hN⟩ : ∃ N, N = (fps.map keyP).length := ⟨_, rfl⟩
  have hNf : N = fps.length := by rw [hN, List.length_map]
  have HO := Lib.hid hO
  have HC := Lib.hid hC
  have HF := Lib.hid hf
  have HN := Lib.hid hN
  have HNF := Lib.hid hNf
  have hlN : N ≤ 100000000000 := by omega
  rw [← hN]
  clear hO hC hf hN hlen hNf
  go_enter Tryz.func121, Tryz.ntmps121
  go_wp2
  go_loopw [8] (fun i wr => ∃ (k : Nat) (v1 : Value), k ≤ N ∧ i = .int .i64 k ∧ CollAt wr p mb base es v1 (consOf (fps.take k)) ∧ Own pairE 98 wr b2 (.slice A N c) (fps.map keyP) ∧ Alter (fun j => j = p ∨ base ≤ j) w wr) (fun i _ => N - (intOf i).toNat)
  case atStart => exact ⟨0, v0, by omega, rfl, HC.out, by rw [HN.out]; exact HO.out, Alter.refl _ _⟩
  case round =>
    obtain ⟨k, v1, hk, rfl, hC, hO, hA⟩ := hrel
    have HC1 := Lib.hid hC
    have HO1 := Lib.hid hO
    have HA1 := Lib.hid hA
    have hsz := hA.size
    clear hC hO hA
    by_cases hlt : k < N
    · have hkf : k < fps.length := by rw [← HNF.out]; exact hlt
      have hkl : k < (fps.map keyP).length := by simpa using hkf
      obtain ⟨g, cap, cur, eS, _, hcur, hcap, _, _, hcat⟩ := own_at HO1.out (by omega)
      simp only [Value.slice.injEq] at eS
      obtain ⟨rfl, eN, rfl⟩ := eS
      clear eN
      have ix : ∀ W, (Instr.indexAt 185 (.slice (some ⟨g, 0, none⟩) N c) (.int .i64 (k : Int))).run Tryz.prog W = .ok (.pointer (some ⟨g, k * 2, none⟩)) W := fun W => by have := idx_pair (A := some ⟨g, 0, none⟩) (c := c) rfl hlt W; rwa [Nat.zero_add] at this
      have q0 : wr.cell? ⟨g, k * 2, none⟩ = some (.int .u32 fps[k].1.key) := CellsAt.at (w := wr) hcur _ (hcat k hkl 0 (.int .u32 (keyP fps[k]).1) (by rw [List.getElem_map]; rfl))
      have q1 : wr.cell? ⟨g, k * 2 + 1, none⟩ = some (.int .u32 fps[k].2.key) := CellsAt.at (w := wr) hcur _ (hcat k hkl 1 (.int .u32 (keyP fps[k]).2) (by rw [List.getElem_map]; rfl))
      obtain ⟨f1, f2, f3, f4, f5⟩ := HF.out fps[k] (List.getElem_mem hkf)
      have hst := consOf_succ hkf
      generalize fps[k] = pr at q0 q1 f1 f2 f3 f4 f5 hst
      obtain ⟨a, b⟩ := pr
      simp only at q0 q1 f1 f2 f3 f4 f5 hst
      have hCA := HC1.out.below (bel_alloc (Below.refl _ _) (.cells #[.int .u32 a.key, .int .u32 b.key] 98))
      have hOA : Own pairE 98 (wr.alloc (.cells #[.int .u32 a.key, .int .u32 b.key] 98)) b2 (.slice (some ⟨g, 0, none⟩) N c) (fps.map keyP) := HO1.out.alloc _
      have hvb : ∀ j, v1.ownBlock = some j → base ≤ j := fun j hj => HC1.out.own.base_le j hj
      have hOne : ∀ j, j = p ∨ v1.ownBlock = some j → Value.ownBlock (.slice (some ⟨g, 0, none⟩) N c) ≠ some j := fun j hj => by
        rcases hj with rfl | hj
        · exact own_not_cells hOA hCA.blk (by decide)
        · exact fun e => own_apart hOA hCA.own (by decide) j e hj
      have HST := Lib.hid hst
      have HVB := Lib.hid hvb
      have HON := Lib.hid hOne
      have HOA := Lib.hid hOA
      cases ht : touchI a b with
      | false =>
        have HP := Lib.hid (pairNo_any p mb base es v1 (consOf (fps.take k)) a b _ hCA f1 f2 f3 f4 f5 ht)
        rw [ht] at hst
        have HS2 := Lib.hid hst
        clear hcur hcat hcap f1 f2 f3 f4 f5 hst hCA hOA hvb hOne ht HST
        go_wp2_with fail
        refine HP.out.mono ?_
        rintro e w2 ⟨rfl, h2⟩
        have H2 := Lib.hid h2
        clear h2
        go_wp2
        go_roundw
        case rel =>
          obtain ⟨h2a, h2b⟩ := H2.out
          exact ⟨k + 1, v1, by omega, by go_num, by rw [HS2.out]; exact h2a, HOA.out.below h2b, (alter_alloc HA1.out _).trans (Alter.of_below h2b _) (fun _ _ h => h)⟩
        case measure => simp [intOf]; omega
      | true =>
        have HP := Lib.hid (pairYes_any p mb base es v1 (consOf (fps.take k)) a b _ hpb (by simp; omega) (by have := consOf_len (fps.take k); simp at this; have := HNF.out; omega) hCA f1 f2 f3 f4 f5 ht)
        rw [ht] at hst
        have HS2 := Lib.hid hst
        clear hcur hcat hcap f1 f2 f3 f4 f5 hst hCA hOA hvb hOne ht HST
        go_wp2_with fail
        refine HP.out.mono ?_
        rintro e w2 ⟨rfl, v2, h2⟩
        have H2 := Lib.hid h2
        clear h2
        go_wp2
        go_roundw
        case rel =>
          obtain ⟨h2a, h2b⟩ := H2.out
          refine ⟨k + 1, v2, by omega, by go_num, by rw [HS2.out]; exact h2a, own_block HOA.out fun j hj hjl => h2b.block j hjl (fun e => HON.out j e hj), (alter_alloc HA1.out _).trans h2b (fun j _ h => ?_)⟩
          rcases h with h | h
          · exact .inl h
          · exact .inr (HVB.out j h)
        case measure => simp [intOf]; omega
    · have hkl : k = fps.length := by rw [← HNF.out]; omega
      have HK := Lib.hid hkl
      clear hkl
      go_wp2
      go_end0
      refine ⟨rfl, ⟨v1, ?_⟩, HA1.out.below (by omega) (fun j hj h => by omega)⟩
      have := HC1.out
      rw [HK.out, List.take_length] at this
      exact this
theorem found_mem {l : List Body} (hs : Asc l) {q : Body × Body} (h : q ∈ foundL l) : q.1 ∈ l ∧ q.2 ∈ l ∧ q.1.key < q.2.key := cand_mem hs (List.mem_filter.1 h).1
theorem cand_len {l : List Body} : (candL l).length ≤ l.length * l.length := by
  refine Nat.le_trans (List.length_filter_le _ _) ?_
  induction l with
  | nil => simp [pairsOf]
  | cons a r ih =>
    simp only [pairsOf, List.length_append, List.length_map, List.length_cons]
    have : (r.length + 1) * (r.length + 1) = r.length * r.length + 2 * r.length + 1 := by rw [Nat.add_mul, Nat.mul_add]; omega
    omega
set_option maxRecDepth 100000 in
set_option maxHeartbeats 2000000 in
theorem contacts_any (v : Value) (l : List Body) (w : World) (hl : Reads bodyE w v l) (hn : l.length ≤ 4096) (hV : ∀ b ∈ l, Placed b) (hs : Asc l) (hG : Glob w) :
    Calls Tryz.prog 78 #[v] w fun e w' => ∃ v', e = .returned (.tuple #[v', .int .i64 (((candL l).length : Nat) : Int)]) ∧ Own conE 100 w' w.heap.size v' (contactsL l) ∧ Below w.heap.size w w' := by
  have HLv := Lib.hid hl
  obtain ⟨A, c, b1, o1, rfl, hA, hx⟩ := hl.bodies
  have hA := Lib.hid hA
  have hx := Lib.hid hx
  have HV := Lib.hid hV
  have HS := Lib.hid hs
  have HG := Lib.hid hG
  have hg4 := hG.size
  clear hl hV hs hG
  have qM : ∀ w : World, (Instr.makeMap 182 none).run Tryz.prog w = .ok (.map (some w.heap.size)) (w.alloc (.map #[] 0)) := fun _ => rfl
  go_enter Tryz.func78, Tryz.ntmps78
  go_wp2
  go_loopw [13] (fun i wr => ∃ (k : Nat) (es : List (Int × Value)), k ≤ l.length ∧ i = .int .i64 k ∧ CollAt wr (w.heap.size + 1) w.heap.size (w.heap.size + 1 + 1) es (.slice none 0 0) [] ∧ (∀ b ∈ l.take k, getM es b.key = some (.agg b.arr)) ∧ Below w.heap.size w wr) (fun i _ => l.length - (intOf i).toNat)
  case atStart =>
    refine ⟨0, [], by omega, rfl, ⟨?_, Own.nil _ _ _ _, (MapAt.made _).of_block (Below.heap_alloc _ _ _ (by simp))⟩, by simp, (by repeat (first | with_reducible exact Below.refl _ _ | with_reducible refine bel_alloc ?_ _ | with_reducible refine bel_drewN ?_ _ | with_reducible refine bel_drew ?_ | with_reducible refine bel_grow ?_ _ | with_reducible refine bel_set ?_ (by first | omega | (simp; done) | (simp; omega)) _))⟩
    have := CellsAt.new (w.alloc (.map #[] 0)) #[.map (some w.heap.size), .slice none 0 0] 184
    simpa using this
  case round =>
    obtain ⟨k, es, hk, rfl, hC, hes, hbel⟩ := hrel
    have HC := Lib.hid hC
    have HE := Lib.hid hes
    have HB := Lib.hid hbel
    have hpr := hC.blk.lt
    have hmr := hC.m.lt
    clear hC hes hbel qM
    by_cases hlt : k < l.length
    · obtain ⟨eA, zA⟩ := hA.out (by omega)
      have ix := fun w => idx_body (c := c) eA hlt w
      clear eA
      obtain ⟨q0, q1, q2, q3, q4, q5, q6, q7, q8, q9⟩ := (hx.out k hlt).below HB.out
      obtain ⟨x, hxk⟩ : ∃ x, x = l[k] := ⟨_, rfl⟩
      rw [← hxk] at q0 q1 q2 q3 q4 q5 q6 q7 q8 q9
      have HK := Lib.hid hxk
      clear hxk
      have c0 : wr.cell? ⟨w.heap.size + 1, 0, none⟩ = some (.map (some w.heap.size)) := HC.out.blk.at 0 rfl
      go_upto_region 5 with fail
      refine wp_region_grow_tail 7 (by kernel_rfl) (by kernel_rfl) ?_
      simp only [List.take_succ_cons, List.take_zero]
      repeat (first | go_big_quiet_skip | (go_big_quiet_want; go_big_quiet_op; first | go_big_quiet_on))
      refine wpQuiet_nil ?_
      rintro _ ⟨g1, rfl⟩
      simp only [List.drop_succ_cons, List.drop_zero]
      have hC1 := (HC.out.below (bel_alloc (Below.refl _ _) (.cells x.arr 27))).below g1.below
      have hm1 := hC1.m
      refine wpList_store (K := atKey) rfl (.tmp 20) (.tmp 22) (.tmp 23) 182 27 rfl Tryz.underlying182 w.heap.size es x.key (.agg x.arr) rfl rfl rfl hm1 ?_
      intro w4 hm4 hg4 hs4
      have HM4 := Lib.hid hm4
      have HG4 := Lib.hid hg4
      have HC1 := Lib.hid hC1
      clear hm1 hm4 hg4 hs4 hC1
      go_wp2
      go_roundw
      case rel =>
        refine ⟨k + 1, _, by omega, by go_num, ⟨HC1.out.blk.of_block (HG4.out.block _ HC1.out.blk.lt (by simp)), Own.nil _ _ _ _, HM4.out⟩, by rw [HK.out]; exact fill_step HS.out.nodup hlt HE.out, ?_⟩
        have h1 : Below w.heap.size w g1.world := (HB.out.alloc HB.out.size _).trans (g1.below.mono (by simp; omega))
        exact h1.grown HG4.out h1.size (fun k e => by simp at e; omega)
      case measure => simp [intOf]; omega
    · have hkl : k = l.length := by omega
      have hes' : ∀ b ∈ l, getM es b.key = some (.agg b.arr) := fun b hb => HE.out b (by rw [hkl, List.take_length]; exact hb)
      have HES := Lib.hid hes'
      have HFI := Lib.hid (pairsFind_any (.slice A l.length c) l wr (HLv.out.below HB.out) hn HV.out HS.out (HG.out.below HB.out))
      clear hes' hkl
      have hzr := HB.out.size
      go_wp2_with (first
        | (go_at_call 120; refine HFI.out.mono ?_; rintro e w2 ⟨v2, rfl, h2⟩; have H2 := Lib.hid h2; clear h2)
        | (go_at_call 121; refine (cEach_any v2 (foundL l) (w.heap.size + 1) w.heap.size (w.heap.size + 1 + 1) wr.heap.size es (.slice none 0 0) w2 H2.out.1 (HC.out.below H2.out.2) (by omega) (by have := H2.out.2.size; omega) (by have h1 := List.length_filter_le (fun p : Body × Body => overlapI (boxI p.1) (boxI p.2)) (candL l); have h2 := cand_len (l := l); have h3 := Nat.mul_le_mul hn hn; unfold foundL; omega) (fun q hq => (have ⟨m1, m2, m3⟩ := found_mem HS.out hq; ⟨HES.out _ m1, HES.out _ m2, HV.out _ m1, HV.out _ m2, m3⟩))).mono ?_; rintro e w3 ⟨rfl, ⟨v3, h3a⟩, h3b⟩; have H3 := Lib.hid (And.intro h3a h3b); have d3 : w3.cell? ⟨w.heap.size + 1, 1, none⟩ = some v3 := h3a.blk.at 1 rfl; clear h3a h3b))
      refine bodyPost_ret (v := .tuple #[v3, .int .i64 (((candL l).length : Nat) : Int)]) (by simp [results, Tryz.results78, go_sem]) rfl ⟨v3, rfl, ?_, ?_⟩
      · have := H3.out.1.own
        exact own_base this (by omega)
      · exact HB.out.trans ((H2.out.2.mono (by omega)).trans (H3.out.2.mono (by omega)))
end Go.Proofs.YtnhaiecbjipodaaGreatDoor
/- slices.BinarySearchFunc at bodies, view.Find: the place of a key that is there. -/
namespace Go.Proofs.YtnhaiecbjipodaaGreatDoor
open Go.RowKit Go.Shelf Go.Proofs
attribute [local go_sem] Grow.cell Grow.froz Grow.lt lt_s1 lt_s2 lt_s3 lt_s4 lt_s5
set_option maxHeartbeats 400000 in
theorem find1_any (b : Body) (key : Int) (w : World) : Calls Tryz.prog 156 #[.agg b.arr, .int .u32 key] w fun e w' => e = .returned (.int .i64 (cmpI b.key key)) ∧ Below w.heap.size w w' := by
  go_enter Tryz.func156, Tryz.ntmps156
  go_wp2_with (go_at_call 51; refine (compare_u32 _ _ _).mono ?_; rintro e w' ⟨rfl, rfl⟩)
  go_ret
  exact ⟨rfl, (by repeat (first | with_reducible exact Below.refl _ _ | with_reducible refine bel_alloc ?_ _ | with_reducible refine bel_drewN ?_ _ | with_reducible refine bel_drew ?_ | with_reducible refine bel_grow ?_ _ | with_reducible refine bel_set ?_ (by first | omega | (simp; done) | (simp; omega)) _))⟩
theorem Asc.lt {l : List Body} (hs : Asc l) {i j : Nat} (hi : i < l.length) (hj : j < l.length) : l[i].key < l[j].key ↔ i < j := by
  have h := List.pairwise_iff_getElem.1 hs
  constructor
  · intro hlt
    rcases Nat.lt_trichotomy i j with h1 | h1 | h1
    · exact h1
    · subst h1; omega
    · have := h j i hj hi h1; omega
  · exact h i j hi hj
set_option maxRecDepth 100000 in
set_option maxHeartbeats 1000000 in
theorem search_any (v : Value) (l : List Body) (i : Nat) (w : World) (hl : Reads bodyE w v l) (hn : l.length ≤ 4096) (hs : Asc l) (hi : i < l.length) :
    Calls Tryz.prog 155 #[v, .int .u32 l[i].key, .func (.func 156) #[] #[]] w fun e w' => e = .returned (.tuple #[.int .i64 (i : Int), .bool true]) ∧ Below w.heap.size w w' := by
  obtain ⟨A, c, b1, o1, rfl, hA, hx⟩ := hl.bodies
  obtain ⟨eA, zA⟩ := hA (by omega)
  have EA := Lib.hid eA
  clear eA
  have hx := Lib.hid hx
  have HS := Lib.hid hs
  obtain ⟨key, hkey⟩ : ∃ key, key = l[i].key := ⟨_, rfl⟩
  have HKEY := Lib.hid hkey
  obtain ⟨N, hN⟩ : ∃ N, N = l.length := ⟨_, rfl⟩
  have HN := Lib.hid hN
  have hlN : N ≤ 4096 := by omega
  have hiN : i < N := by omega
  rw [← hkey, ← hN]
  clear hl hA hs hkey hN hn
  go_enter Tryz.func155, Tryz.ntmps155
  go_wp2
  go_loopw [9, 10] (fun x y wr => ∃ (a b : Nat), x = .int .i64 a ∧ y = .int .i64 b ∧ a ≤ i ∧ i ≤ b ∧ b ≤ N ∧ Below w.heap.size w wr) (fun x y _ => (intOf y).toNat - (intOf x).toNat)
  case atStart => exact ⟨0, N, rfl, rfl, by omega, by omega, by omega, Below.refl _ _⟩
  case round =>
    obtain ⟨a, b, rfl, rfl, ha, hb, hbN, hbel⟩ := hrel
    have HB := Lib.hid hbel
    clear hbel
    by_cases hab : a < b
    · obtain ⟨h, hh⟩ : ∃ h : Nat, h = (a + b) / 2 := ⟨_, rfl⟩
      have hhi : ((a : Int) + (b : Int)) / 2 = (h : Int) := by omega
      have hhl : h < l.length := by have := HN.out; omega
      have hhN : h < N := by omega
      have ix := fun w => idx_body (c := c) EA.out hhN w
      obtain ⟨q0, q1, q2, q3, q4, q5, q6, q7, q8, q9⟩ := (hx.out h hhl).below HB.out
      obtain ⟨x, hxk⟩ : ∃ x, x = l[h] := ⟨_, rfl⟩
      rw [← hxk] at q0 q1 q2 q3 q4 q5 q6 q7 q8 q9
      have HK := Lib.hid hxk
      clear hxk
      have HF := fun W => find1_any x key W
      have hah : a ≤ h := by omega
      have hhb : h < b := by omega
      have hlt := HS.out.lt hhl hi
      rw [← HK.out, ← HKEY.out] at hlt
      have HLT := Lib.hid hlt
      clear hh hlt
      by_cases hx1 : x.key < key
      · have hc : cmpI x.key key = -1 := by unfold cmpI; rw [if_pos hx1]
        rw [hc] at HF
        have hhi2 := Lib.hid (HLT.out.1 hx1)
        clear hc hx1
        go_wp2_with fail
        refine (HF _).mono ?_
        rintro e w1 ⟨rfl, h1⟩
        have H1 := Lib.hid h1
        clear h1
        go_wp2
        go_roundw
        case rel => exact ⟨h + 1, b, by go_num, rfl, by have := hhi2.out; omega, hb, hbN, HB.out.trans (H1.out.mono HB.out.size)⟩
        case measure => simp [intOf]; omega
      · obtain ⟨r, hr, hr0⟩ : ∃ r : Int, cmpI x.key key = r ∧ 0 ≤ r := by
          unfold cmpI; rw [if_neg hx1]
          split
          · exact ⟨1, rfl, by omega⟩
          · exact ⟨0, rfl, by omega⟩
        rw [hr] at HF
        have hhi0 : ¬ h < i := fun e => hx1 (HLT.out.2 e)
        have hhi2 := Lib.hid hhi0
        clear hhi0
        clear hr hx1
        go_wp2_with fail
        refine (HF _).mono ?_
        rintro e w1 ⟨rfl, h1⟩
        have H1 := Lib.hid h1
        clear h1
        go_wp2
        go_roundw
        case rel => exact ⟨a, h, rfl, rfl, ha, by have := hhi2.out; omega, by omega, HB.out.trans (H1.out.mono HB.out.size)⟩
        case measure => simp [intOf]; omega
    · have hai : a = i := by omega
      subst hai
      have ix := fun w => idx_body (c := c) EA.out hiN w
      obtain ⟨q0, q1, q2, q3, q4, q5, q6, q7, q8, q9⟩ := (hx.out a hi).below HB.out
      obtain ⟨x, hxk⟩ : ∃ x, x = l[a] := ⟨_, rfl⟩
      rw [← hxk] at q0 q1 q2 q3 q4 q5 q6 q7 q8 q9
      have hkx : x.key = key := by rw [hxk, HKEY.out]
      have HF := fun W => find1_any x key W
      have hc : cmpI x.key key = 0 := by rw [hkx]; simp [cmpI]
      rw [hc] at HF
      clear hxk hc hkx
      go_wp2_with fail
      refine (HF _).mono ?_
      rintro e w1 ⟨rfl, h1⟩
      have H1 := Lib.hid h1
      clear h1
      go_wp2
      refine bodyPost_ret (v := .tuple #[.int .i64 (a : Int), .bool true]) (by simp [results, Tryz.results155, go_sem]) rfl ⟨rfl, HB.out.trans (H1.out.mono HB.out.size)⟩
set_option maxHeartbeats 400000 in
theorem viewFind_any (v : Value) (l : List Body) (i : Nat) (w : World) (hl : Reads bodyE w v l) (hn : l.length ≤ 4096) (hs : Asc l) (hi : i < l.length) (key : Int) (hk : key = l[i].key) :
    Calls Tryz.prog 129 #[v, .int .u32 key] w fun e w' => e = .returned (.tuple #[.int .i64 (i : Int), .bool true]) ∧ Below w.heap.size w w' := by
  have HS := Lib.hid (search_any v l i w hl hn hs hi)
  rw [← hk] at HS
  clear hl hn hs hk
  go_enter Tryz.func129, Tryz.ntmps129
  go_wp2_with (go_at_call 155; refine HS.out.mono ?_; rintro e w1 ⟨rfl, h1⟩; have H1 := Lib.hid h1; clear h1)
  refine bodyPost_ret (v := .tuple #[.int .i64 (i : Int), .bool true]) (by simp [results, Tryz.results129, go_sem]) rfl ⟨rfl, H1.out⟩
end Go.Proofs.YtnhaiecbjipodaaGreatDoor
/- The sums of jacobi in memory. No walk. -/
namespace Go.Proofs.YtnhaiecbjipodaaGreatDoor
open Go.RowKit Go.Shelf Go.Proofs
def i64E : Enc Int := ⟨1, fun k => [.int .i64 k], fun _ => rfl, fun c u hu => by
  simp at hu
  subst hu
  rfl, by decide⟩
theorem i64Info : (Tryz.prog.info? 2).map (fun i => (i.zero, i.size, i.bytes)) = some (some (.int .i64 0), 1, 8) := by kernel_rfl
theorem own_put1 {t : TypeId} {w : World} {base g cap : Nat} {l : List Int} {n : Nat} (h : Own i64E t w base (.slice (some ⟨g, 0, none⟩) n cap) l) {i : Nat} (hi : i < l.length) (x : Int) : Own i64E t (w.setCell ⟨g, i, none⟩ (.int .i64 x)) base (.slice (some ⟨g, 0, none⟩) n cap) (l.set i x) := by
  obtain ⟨g', cap', cur, e, hb, hg, hc, hm, hs, hat⟩ := own_at h (by omega)
  simp only [Value.slice.injEq, Option.some.injEq, Addr.mk.injEq, and_true] at e
  obtain ⟨rfl, rfl, rfl⟩ := e
  have c0 : CellsAt w g cur t := hg
  have c1 := c0.set i (.int .i64 x)
  have hsz : i < cur.size := by
    rw [hs, show i64E.sz = 1 from rfl]
    omega
  have := own_of_at (E := i64E) (l := l.set i x) (cap := cap) c1 (by simpa using hc) hm (by simpa using hs) (by
    intro k hk j u hu
    have hk' : k < l.length := by simpa using hk
    have hj : j < 1 := by
      have := (List.getElem?_eq_some_iff.1 hu).1
      rwa [i64E.len] at this
    obtain rfl : j = 0 := by omega
    rw [show i64E.sz = 1 from rfl, Nat.mul_one, Nat.add_zero, Array.set!_eq_setIfInBounds, Array.getElem?_setIfInBounds]
    by_cases hki : k = i
    · subst hki
      simp only [List.getElem_set_self] at hu
      rw [if_pos rfl, if_pos hsz]
      exact hu
    · rw [List.getElem_set_ne (fun e => hki e.symm)] at hu
      have h1 := hat k hk' 0 u hu
      rw [show i64E.sz = 1 from rfl, Nat.mul_one, Nat.add_zero] at h1
      rw [if_neg (fun e => hki e.symm)]
      exact h1) base hb
  rw [List.length_set] at this
  exact this
def updS (S : Int → Int × Int) (k : Int) (d : Int × Int) : Int → Int × Int := fun x => if x = k then d else S x
theorem map_upd {l : List Body} (hd : (l.map Body.key).Nodup) (S : Int → Int × Int) {i : Nat} (hi : i < l.length) (d : Int × Int) (f : Int × Int → Int) : (l.map fun b => f (updS S l[i].key d b.key)) = (l.map fun b => f (S b.key)).set i (f d) := by
  refine List.ext_getElem (by simp) fun j h1 h2 => ?_
  have hj : j < l.length := by simpa using h1
  rw [List.getElem_map, List.getElem_set]
  unfold updS
  by_cases hij : i = j
  · subst hij; simp
  · rw [if_neg hij, List.getElem_map, if_neg]
    intro e
    have h3 : (l.map Body.key)[j]'(by simpa using hj) = (l.map Body.key)[i]'(by simpa using hi) := by simpa using e
    exact hij ((List.getElem_inj hd).1 h3).symm
/-- One contact's part in the sums. -/
def lowS (l : List Body) (c : Con) (S : Int → Int × Int) : Int → Int × Int :=
  updS S c.lo (wrap64 ((S c.lo).1 - changeI (strengthI c (bdOf l c.lo) (bdOf l c.hi)) (bdOf l c.lo).inv c.nx), wrap64 ((S c.lo).2 - changeI (strengthI c (bdOf l c.lo) (bdOf l c.hi)) (bdOf l c.lo).inv c.ny))
def highS (l : List Body) (c : Con) (S : Int → Int × Int) : Int → Int × Int :=
  updS S c.hi (wrap64 ((S c.hi).1 + changeI (strengthI c (bdOf l c.lo) (bdOf l c.hi)) (bdOf l c.hi).inv c.nx), wrap64 ((S c.hi).2 + changeI (strengthI c (bdOf l c.lo) (bdOf l c.hi)) (bdOf l c.hi).inv c.ny))
def stepS (l : List Body) (S : Int → Int × Int) (c : Con) : Int → Int × Int := highS l c (lowS l c S)
def sumS (l : List Body) (cs : List Con) : Int → Int × Int := cs.foldl (stepS l) (fun _ => (0, 0))
/-- The sums' struct and its two slices. -/
structure SumsAt (w : World) (p base : Nat) (v : Value) (l : List Body) (S : Int → Int × Int) (vx vy : Value) : Prop where
  blk : CellsAt w p #[v, vx, vy] 274
  rd : Reads bodyE w v l
  rb : 0 < l.length → ∀ k, v.ownBlock = some k → k < base
  x : Own i64E 2 w base vx (l.map fun b => (S b.key).1)
  y : Own i64E 2 w base vy (l.map fun b => (S b.key).2)
  ne : ∀ k, vx.ownBlock = some k → vy.ownBlock ≠ some k
theorem SumsAt.below {w w' : World} {p base : Nat} {v vx vy : Value} {l : List Body} {S : Int → Int × Int} (h : SumsAt w p base v l S vx vy) (hb : Below w.heap.size w w') : SumsAt w' p base v l S vx vy :=
  ⟨h.blk.below hb h.blk.lt, h.rd.below hb, h.rb, h.x.below hb, h.y.below hb, h.ne⟩
/-- Two stores, one into each slice. -/
theorem SumsAt.put {w : World} {p base : Nat} {v : Value} {l : List Body} {S : Int → Int × Int} {gx gy cx cy N : Nat} (h : SumsAt w p base v l S (.slice (some ⟨gx, 0, none⟩) N cx) (.slice (some ⟨gy, 0, none⟩) N cy)) (hd : (l.map Body.key).Nodup) {i : Nat} (hi : i < l.length) (d : Int × Int) :
    SumsAt ((w.setCell ⟨gx, i, none⟩ (.int .i64 d.1)).setCell ⟨gy, i, none⟩ (.int .i64 d.2)) p base v l (updS S l[i].key d) (.slice (some ⟨gx, 0, none⟩) N cx) (.slice (some ⟨gy, 0, none⟩) N cy) := by
  have hxp : gx ≠ p := fun e => own_not_cells h.x h.blk (by decide) (by rw [e]; rfl)
  have hyp : gy ≠ p := fun e => own_not_cells h.y h.blk (by decide) (by rw [e]; rfl)
  have hxy : gx ≠ gy := fun e => h.ne gx rfl (by rw [e]; rfl)
  have hxb : base ≤ gx := h.x.base_le gx rfl
  have hyb : base ≤ gy := h.y.base_le gy rfl
  have ha : Alter (fun k => k = gx ∨ k = gy) w ((w.setCell ⟨gx, i, none⟩ (.int .i64 d.1)).setCell ⟨gy, i, none⟩ (.int .i64 d.2)) := alter_set (S := fun k => k = gx ∨ k = gy) (alter_set (S := fun k => k = gx ∨ k = gy) (Alter.refl _ _) (.inl (.inl rfl)) _) (.inl (.inr rfl)) _
  refine ⟨(h.blk.far (by omega) _).far (by omega) _, ha.reads h.rd (fun b hb e => by have := h.rb (by omega) b hb; omega), h.rb, ?_, ?_, h.ne⟩
  · rw [map_upd hd S hi d (·.1)]
    have := own_put1 h.x (i := i) (by simpa using hi) d.1
    exact own_block this fun k hk _ => Below.heap_setCell _ _ _ _ (fun e => by simp [Value.ownBlock] at hk e; omega)
  · rw [map_upd hd S hi d (·.2)]
    have h1 : Own i64E 2 (w.setCell ⟨gx, i, none⟩ (.int .i64 d.1)) base (.slice (some ⟨gy, 0, none⟩) N cy) (l.map fun b => (S b.key).2) := own_block h.y fun k hk _ => Below.heap_setCell _ _ _ _ (fun e => by simp [Value.ownBlock] at hk e; omega)
    exact own_put1 h1 (by simpa using hi) d.2
theorem SumsAt.cells {w : World} {p base : Nat} {v vx vy : Value} {l : List Body} {S : Int → Int × Int} (h : SumsAt w p base v l S vx vy) {i : Nat} (hi : i < l.length) : ∃ gx gy cx cy, vx = .slice (some ⟨gx, 0, none⟩) l.length cx ∧ vy = .slice (some ⟨gy, 0, none⟩) l.length cy ∧ gx ≠ gy ∧ base ≤ gx ∧ base ≤ gy ∧ gx < w.heap.size ∧ gy < w.heap.size ∧
    w.cell? ⟨gx, i, none⟩ = some (.int .i64 (S l[i].key).1) ∧ w.cell? ⟨gy, i, none⟩ = some (.int .i64 (S l[i].key).2) ∧ w.frozen? ⟨gx, i, none⟩ = false ∧ w.frozen? ⟨gy, i, none⟩ = false := by
  obtain ⟨gx, cx, ux, rfl, bx, hx, _, _, _, ax⟩ := own_at h.x (by simp; omega)
  obtain ⟨gy, cy, uy, rfl, bY, hy, _, _, _, ay⟩ := own_at h.y (by simp; omega)
  have kx : CellsAt w gx ux 2 := hx
  have ky : CellsAt w gy uy 2 := hy
  have e1 := ax i (by simpa using hi) 0 (.int .i64 (S l[i].key).1) (by rw [List.getElem_map]; rfl)
  have e2 := ay i (by simpa using hi) 0 (.int .i64 (S l[i].key).2) (by rw [List.getElem_map]; rfl)
  rw [show i64E.sz = 1 from rfl, Nat.mul_one, Nat.add_zero] at e1 e2
  refine ⟨gx, gy, cx, cy, by simp, by simp, fun e => h.ne gx rfl (by rw [e]; rfl), bx, bY, lt_of_block hx, lt_of_block hy, kx.at i e1, ky.at i e2, kx.froz i, ky.froz i⟩
theorem idx_i64 {A : Option Addr} {b off k len c : Nat} (hA : A = some ⟨b, off, none⟩) (hk : k < len) (w : World) :
    (Instr.indexAt 230 (.slice A len c) (.int .i64 (k : Int))).run Tryz.prog w = .ok (.pointer (some ⟨b, off + k, none⟩)) w := by
  subst hA
  have hk' : (k : Int) < (len : Int) := by omega
  go_simp
end Go.Proofs.YtnhaiecbjipodaaGreatDoor
/- (*jacobi.sums).add. -/
namespace Go.Proofs.YtnhaiecbjipodaaGreatDoor
open Go.RowKit Go.Shelf Go.Proofs
attribute [local go_sem] Grow.cell Grow.froz Grow.lt lt_s1 lt_s2 lt_s3 lt_s4 lt_s5
theorem w64i (n : Int) : IntKind.i64.wrap n = wrap64 n := by rw [IntKind.wrap_i64]; unfold wrap64; rfl
set_option maxRecDepth 100000 in
set_option maxHeartbeats 4000000 in
theorem sumAdd_any (p base : Nat) (v : Value) (l : List Body) (S : Int → Int × Int) (vx vy : Value) (c : Con) (i j : Nat) (w : World) (h : SumsAt w p base v l S vx vy) (hbp : base ≤ p) (hn : l.length ≤ 4096) (hs : Asc l) (hi : i < l.length) (hj : j < l.length) (hlo : c.lo = l[i].key) (hhi : c.hi = l[j].key) (hc : c.Fit) (hV : ∀ b ∈ l, Sound b) :
    Calls Tryz.prog 186 #[.pointer (some ⟨p, 0, none⟩), .agg c.arr] w fun e w' => e = .returned (.tuple #[]) ∧ SumsAt w' p base v l (stepS l S c) vx vy ∧ Below base w w' := by
  obtain ⟨gx, gy, cx, cy, rfl, rfl, hxy, hbx, hby, lx, ly, -⟩ := h.cells hi
  have hll : 0 < l.length := by omega
  have ha := hV l[i] (List.getElem_mem hi)
  have hb := hV l[j] (List.getElem_mem hj)
  have hst := strength_bd hc ha hb
  have HST := fun W => strength_any c.lo c.hi c.nx c.ny c.dep l[i].key l[i].radius l[i].ax l[i].ay l[i].inv l[i].bounce l[i].px l[i].py l[i].vx l[i].vy l[j].key l[j].radius l[j].ax l[j].ay l[j].inv l[j].bounce l[j].px l[j].py l[j].vx l[j].vy W hc ha hb
  have hbi : bdOf l c.lo = l[i] := by rw [hlo]; exact bdOf_mem hs.nodup (List.getElem_mem hi)
  have hbj : bdOf l c.hi = l[j] := by rw [hhi]; exact bdOf_mem hs.nodup (List.getElem_mem hj)
  change ∀ W, Calls _ _ _ W (fun e w' => e = .returned (.int .i64 (strengthI c l[i] l[j])) ∧ _) at HST
  have HLOW := fun S => show lowS l c S = updS S c.lo (wrap64 ((S c.lo).1 - changeI (strengthI c l[i] l[j]) l[i].inv c.nx), wrap64 ((S c.lo).2 - changeI (strengthI c l[i] l[j]) l[i].inv c.ny)) by unfold lowS; rw [hbi, hbj]
  have HHIGH := fun S => show highS l c S = updS S c.hi (wrap64 ((S c.hi).1 + changeI (strengthI c l[i] l[j]) l[j].inv c.nx), wrap64 ((S c.hi).2 + changeI (strengthI c l[i] l[j]) l[j].inv c.ny)) by unfold highS; rw [hbi, hbj]
  obtain ⟨J, hJ⟩ : ∃ J, J = strengthI c l[i] l[j] := ⟨_, rfl⟩
  rw [← hJ] at hst HST
  simp only [← hJ] at HLOW HHIGH
  obtain ⟨j0, j1, p0, p1, q0, q1⟩ := hst
  have m1 := ha.inv
  have m2 := hb.inv
  obtain ⟨⟨n0, n1⟩, ⟨n2, n3⟩, _⟩ := hc
  have HC1 := fun W => change_any J l[i].inv c.nx c.ny W j0 j1 m1.1 m1.2 p0 p1 n0 n1 n2 n3
  have HC2 := fun W => change_any J l[j].inv c.nx c.ny W j0 j1 m2.1 m2.2 q0 q1 n0 n1 n2 n3
  obtain ⟨X1, hX1⟩ : ∃ x, x = changeI J l[i].inv c.nx := ⟨_, rfl⟩
  obtain ⟨Y1, hY1⟩ : ∃ x, x = changeI J l[i].inv c.ny := ⟨_, rfl⟩
  obtain ⟨X2, hX2⟩ : ∃ x, x = changeI J l[j].inv c.nx := ⟨_, rfl⟩
  obtain ⟨Y2, hY2⟩ : ∃ x, x = changeI J l[j].inv c.ny := ⟨_, rfl⟩
  rw [← hX1, ← hY1] at HC1
  rw [← hX2, ← hY2] at HC2
  simp only [← hX1, ← hY1] at HLOW
  simp only [← hX2, ← hY2] at HHIGH
  clear hX1 hY1 hX2 hY2 j0 j1 p0 p1 q0 q1 n0 n1 n2 n3 hJ m1 m2 hbi hbj ha hb
  have HLOW := Lib.hid HLOW
  have HHIGH := Lib.hid HHIGH
  have HSD := Lib.hid hs
  have HVF := fun W (hW : Reads bodyE W v l) => viewFind_any v l i W hW hn hs hi c.lo hlo
  have HVG := fun W (hW : Reads bodyE W v l) => viewFind_any v l j W hW hn hs hj c.hi hhi
  have HLO := Lib.hid hlo
  have HHI := Lib.hid hhi
  have HH := Lib.hid h
  have hp := h.blk.lt
  obtain ⟨A, cv, b1, o1, rfl, hA, hx⟩ := h.rd.bodies
  obtain ⟨eA, zA⟩ := hA hll
  have HEA := Lib.hid eA
  have hxi := hx i hi
  have hxj := hx j hj
  have HXI := Lib.hid hxi
  have HXJ := Lib.hid hxj
  obtain ⟨a, ha⟩ : ∃ a, a = l[i] := ⟨_, rfl⟩
  obtain ⟨b, hb⟩ : ∃ b, b = l[j] := ⟨_, rfl⟩
  obtain ⟨N, hN⟩ : ∃ N, N = l.length := ⟨_, rfl⟩
  have ixi := fun W => idx_body (c := cv) eA hi W
  have ixj := fun W => idx_body (c := cv) eA hj W
  have hiN : i < N := by omega
  have hjN : j < N := by omega
  rw [← hN] at ixi ixj
  have c0 : w.cell? ⟨p, 0, none⟩ = some (.slice A N cv) := by rw [hN]; exact h.blk.at 0 rfl
  rw [← ha] at hxi HST HC1
  rw [← hb] at hxj HST HC2
  rw [← hN] at HVF HVG
  obtain ⟨r0, r1, r2, r3, r4, r5, r6, r7, r8, r9⟩ := hxi
  obtain ⟨s0, s1, s2, s3, s4, s5, s6, s7, s8, s9⟩ := hxj
  have HN := Lib.hid hN
  have HHA := Lib.hid ha
  have HHB := Lib.hid hb
  clear eA hA hx hlo hhi h hs hN ha hb hll hn
  go_enter Tryz.func186, Tryz.ntmps186
  go_upto_region 1 with fail
  have HR : ∀ W, Below w.heap.size w W → Reads bodyE W (.slice A N cv) l := fun W hb => by rw [HN.out]; exact HH.out.rd.below hb
  refine wp_region_grow (by kernel_rfl) (by kernel_rfl) ?_
  repeat (first | go_big_quiet_skip | (go_big_quiet_want; go_big_quiet_op; first | go_big_quiet_on | (go_big_quiet_call (first
      | (go_at_call 129; exact Calls.grow_of (HVF _ (HR _ (by repeat (first | with_reducible exact Below.refl _ _ | with_reducible refine bel_alloc ?_ _ | with_reducible refine bel_drewN ?_ _ | with_reducible refine bel_drew ?_ | with_reducible refine bel_grow ?_ _ | with_reducible refine bel_set ?_ (by first | omega | (simp; done) | (simp; omega)) _)))))))))
  refine wpQuiet_nil ?_
  rintro _ ⟨g1, rfl⟩
  have zz1 : w.heap.size < g1.world.heap.size := Nat.lt_of_lt_of_le (by first | omega | (simp; done) | (simp; omega)) g1.le
  have zz2 : p < g1.world.heap.size := Nat.lt_of_lt_of_le (by first | omega | (simp; done) | (simp; omega)) g1.le
  have zz3 : b1 < g1.world.heap.size := Nat.lt_of_lt_of_le (by first | omega | (simp; done) | (simp; omega)) g1.le
  go_upto_region 2 with fail
  refine wp_region_grow (by kernel_rfl) (by kernel_rfl) ?_
  repeat (first | go_big_quiet_skip | (go_big_quiet_want; go_big_quiet_op; first | go_big_quiet_on | (go_big_quiet_call (first
      | (go_at_call 129; exact Calls.grow_of (HVG _ (HR _ (by repeat (first | with_reducible exact Below.refl _ _ | with_reducible refine bel_alloc ?_ _ | with_reducible refine bel_drewN ?_ _ | with_reducible refine bel_drew ?_ | with_reducible refine bel_grow ?_ _ | with_reducible refine bel_set ?_ (by first | omega | (simp; done) | (simp; omega)) _)))))))))
  refine wpQuiet_nil ?_
  rintro _ ⟨g2, rfl⟩
  have zz4 : w.heap.size < g2.world.heap.size := Nat.lt_of_lt_of_le (by first | omega | (simp; done) | (simp; omega)) g2.le
  have zz5 : p < g2.world.heap.size := Nat.lt_of_lt_of_le (by first | omega | (simp; done) | (simp; omega)) g2.le
  have zz6 : b1 < g2.world.heap.size := Nat.lt_of_lt_of_le (by first | omega | (simp; done) | (simp; omega)) g2.le
  go_upto_region 3 with fail
  refine wp_region_grow (by kernel_rfl) (by kernel_rfl) ?_
  repeat (first | go_big_quiet_skip | (go_big_quiet_want; go_big_quiet_op; first | go_big_quiet_on | (go_big_quiet_call (first
      | (go_at_call 212; exact Calls.grow_of (HST _))))))
  refine wpQuiet_nil ?_
  rintro _ ⟨g3, rfl⟩
  have zz7 : w.heap.size < g3.world.heap.size := Nat.lt_of_lt_of_le (by first | omega | (simp; done) | (simp; omega)) g3.le
  have zz8 : p < g3.world.heap.size := Nat.lt_of_lt_of_le (by first | omega | (simp; done) | (simp; omega)) g3.le
  have zz9 : b1 < g3.world.heap.size := Nat.lt_of_lt_of_le (by first | omega | (simp; done) | (simp; omega)) g3.le
  go_upto_region 4 with fail
  refine wp_region_grow (by kernel_rfl) (by kernel_rfl) ?_
  repeat (first | go_big_quiet_skip | (go_big_quiet_want; go_big_quiet_op; first | go_big_quiet_on | (go_big_quiet_call (first
      | (go_at_call 213; exact Calls.grow_of (HC1 _))))))
  refine wpQuiet_nil ?_
  rintro _ ⟨g4, rfl⟩
  have zz10 : w.heap.size < g4.world.heap.size := Nat.lt_of_lt_of_le (by first | omega | (simp; done) | (simp; omega)) g4.le
  have zz11 : p < g4.world.heap.size := Nat.lt_of_lt_of_le (by first | omega | (simp; done) | (simp; omega)) g4.le
  have zz12 : b1 < g4.world.heap.size := Nat.lt_of_lt_of_le (by first | omega | (simp; done) | (simp; omega)) g4.le
  go_upto_region 5 with fail
  obtain ⟨W4, hW4⟩ : ∃ W4, W4 = g4.world := ⟨_, rfl⟩
  have hb4 : Below w.heap.size w W4 := by rw [hW4]; exact (by repeat (first | with_reducible exact Below.refl _ _ | with_reducible refine bel_alloc ?_ _ | with_reducible refine bel_drewN ?_ _ | with_reducible refine bel_drew ?_ | with_reducible refine bel_grow ?_ _ | with_reducible refine bel_set ?_ (by first | omega | (simp; done) | (simp; omega)) _))
  rw [← hW4]
  rw [← hW4] at zz10 zz11 zz12
  have X4 : CellsAt W4 w.heap.size c.arr 100 := by rw [hW4]; exact (by repeat (first | with_reducible exact CellsAt.newAt (by first | rfl | (simp; done) | omega) rfl | with_reducible refine CellsAt.alloc ?_ _ | with_reducible refine CellsAt.drewN ?_ _ | with_reducible refine CellsAt.drew ?_ | with_reducible refine CellsAt.grow ?_ _ | with_reducible refine CellsAt.far ?_ (by first | omega | (simp; done) | (simp; omega)) _))
  clear hW4
  have S4 : SumsAt W4 p base (.slice A N cv) l S (.slice (some ⟨gx, 0, none⟩) N cx) (.slice (some ⟨gy, 0, none⟩) N cy) := by rw [HN.out]; exact HH.out.below hb4
  have hpx : p ≠ gx := fun e => own_not_cells HH.out.x HH.out.blk (by decide) (by rw [← e]; rfl)
  have hpy : p ≠ gy := fun e => own_not_cells HH.out.y HH.out.blk (by decide) (by rw [← e]; rfl)
  have hgx : ∀ k (hk : k < N), (Instr.indexAt 230 (.slice (some ⟨gx, 0, none⟩) N cx) (.int .i64 (k : Int))).run Tryz.prog = fun W => .ok (.pointer (some ⟨gx, k, none⟩)) W := fun k hk => by
    funext W
    have := idx_i64 (A := some ⟨gx, 0, none⟩) (c := cx) rfl hk W
    rwa [Nat.zero_add] at this
  have hgy : ∀ k (hk : k < N), (Instr.indexAt 230 (.slice (some ⟨gy, 0, none⟩) N cy) (.int .i64 (k : Int))).run Tryz.prog = fun W => .ok (.pointer (some ⟨gy, k, none⟩)) W := fun k hk => by
    funext W
    have := idx_i64 (A := some ⟨gy, 0, none⟩) (c := cy) rfl hk W
    rwa [Nat.zero_add] at this
  have HGX := Lib.hid hgx
  have HGY := Lib.hid hgy
  clear hgx hgy
  have ex : ∀ W, (Instr.indexAt 230 (.slice (some ⟨gx, 0, none⟩) N cx) (.int .i64 (i : Int))).run Tryz.prog W = .ok (.pointer (some ⟨gx, i, none⟩)) W := fun W => congrFun (HGX.out i hiN) W
  have ey : ∀ W, (Instr.indexAt 230 (.slice (some ⟨gy, 0, none⟩) N cy) (.int .i64 (i : Int))).run Tryz.prog W = .ok (.pointer (some ⟨gy, i, none⟩)) W := fun W => congrFun (HGY.out i hiN) W
  have d1 : W4.cell? ⟨p, 1, none⟩ = some (.slice (some ⟨gx, 0, none⟩) N cx) := S4.blk.at 1 rfl
  have d2 : W4.cell? ⟨p, 2, none⟩ = some (.slice (some ⟨gy, 0, none⟩) N cy) := S4.blk.at 2 rfl
  obtain ⟨x4, y4, fx4, fy4⟩ : W4.cell? ⟨gx, i, none⟩ = some (.int .i64 (S l[i].key).1) ∧ W4.cell? ⟨gy, i, none⟩ = some (.int .i64 (S l[i].key).2) ∧ W4.frozen? ⟨gx, i, none⟩ = false ∧ W4.frozen? ⟨gy, i, none⟩ = false := by
    obtain ⟨gx', gy', cx', cy', e1, e2, _, _, _, _, _, h1, h2, h3, h4⟩ := S4.cells hi
    simp only [Value.slice.injEq, Option.some.injEq, Addr.mk.injEq, and_true] at e1 e2
    obtain ⟨rfl, _, rfl⟩ := e1
    obtain ⟨rfl, _, rfl⟩ := e2
    exact ⟨h1, h2, h3, h4⟩
  rw [← HLO.out] at x4 y4
  have lx4 : gx < W4.heap.size := Nat.lt_of_lt_of_le lx hb4.size
  have ly4 : gy < W4.heap.size := Nat.lt_of_lt_of_le ly hb4.size
  obtain ⟨x, hx⟩ : ∃ x, x = (S c.lo).1 := ⟨_, rfl⟩
  obtain ⟨y, hy⟩ : ∃ y, y = (S c.lo).2 := ⟨_, rfl⟩
  have FIN5 : SumsAt (((W4.setCell ⟨gx, i, none⟩ (.int .i64 (wrap64 (x - X1)))).setCell ⟨gy, i, none⟩ (.int .i64 (wrap64 (y - Y1)))).drew) p base (.slice A N cv) l (lowS l c S) (.slice (some ⟨gx, 0, none⟩) N cx) (.slice (some ⟨gy, 0, none⟩) N cy) ∧ Alter (fun k => k = gx ∨ k = gy) W4 (((W4.setCell ⟨gx, i, none⟩ (.int .i64 (wrap64 (x - X1)))).setCell ⟨gy, i, none⟩ (.int .i64 (wrap64 (y - Y1)))).drew) := by
    try simp only [w64i]
    refine ⟨?_, alter_drew (alter_set (S := fun k => k = gx ∨ k = gy) (alter_set (S := fun k => k = gx ∨ k = gy) (Alter.refl _ _) (.inl (.inl rfl)) _) (.inl (.inr rfl)) _)⟩
    have := S4.put HSD.out.nodup hi (wrap64 (x - X1), wrap64 (y - Y1))
    rw [HLOW.out, HLO.out]
    rw [hx, hy, HLO.out] at this ⊢
    exact this.below (bel_drew (Below.refl _ _))
  rw [← hx] at x4
  rw [← hy] at y4
  have HS4 := Lib.hid S4
  have HX4 := Lib.hid X4
  clear hx hy S4 X4
  go_cut [] (fun wx => SumsAt wx p base (.slice A N cv) l (lowS l c S) (.slice (some ⟨gx, 0, none⟩) N cx) (.slice (some ⟨gy, 0, none⟩) N cy) ∧ Alter (fun k => k = gx ∨ k = gy) W4 wx)
  case first =>
    go_region
    all_goals
      go_wp2
      go_meet
      exact FIN5
  case rest =>
  obtain ⟨S5, A5⟩ := hcut
  clear FIN5 x4 y4 fx4 fy4 ex ey d1 d2
  have hnx : ¬ (p = gx ∨ p = gy) := by omega
  have hwx : ¬ (w.heap.size = gx ∨ w.heap.size = gy) := by omega
  have hbx1 : ¬ (b1 = gx ∨ b1 = gy) := by
    have := HH.out.rb (by omega) b1 (by rw [HEA.out]; rfl)
    omega
  have X5 : CellsAt wc w.heap.size c.arr 100 := HX4.out.of_block (A5.block _ zz10 hwx)
  have kk13 : wc.cell? ⟨w.heap.size, 0, none⟩ = some (.int .u32 c.lo) := X5.at 0 rfl
  have kk14 : wc.cell? ⟨w.heap.size, 1, none⟩ = some (.int .u32 c.hi) := X5.at 1 rfl
  have kk15 : wc.cell? ⟨w.heap.size, 2, none⟩ = some (.int .i32 c.nx) := X5.at 2 rfl
  have kk16 : wc.cell? ⟨w.heap.size, 3, none⟩ = some (.int .i32 c.ny) := X5.at 3 rfl
  have kk17 : wc.cell? ⟨w.heap.size, 4, none⟩ = some (.int .i32 c.dep) := X5.at 4 rfl
  have c05 : wc.cell? ⟨p, 0, none⟩ = some (.slice A N cv) := S5.blk.at 0 rfl
  have TJ : wc.cell? ⟨b1, o1 + j * 10 + 4, none⟩ = some (.int .i32 b.inv) := (A5.cell zz12 hbx1).trans ((hb4.cell (p := ⟨b1, o1 + j * 10 + 4, none⟩) zA).trans s4)
  have y10 := Nat.lt_of_lt_of_le zz10 A5.size
  have y11 := Nat.lt_of_lt_of_le zz11 A5.size
  have y12 := Nat.lt_of_lt_of_le zz12 A5.size
  have HS5 := Lib.hid S5
  have HA5 := Lib.hid A5
  have HX5 := Lib.hid X5
  clear S5 A5 X5 c0 r0 r1 r2 r3 r4 r5 r6 r7 r8 r9 s0 s1 s2 s3 s4 s5 s6 s7 s8 s9 zz1 zz2 zz3 zz4 zz5 zz6 zz7 zz8 zz9 zz10 zz11 zz12
  go_upto_region 6 with fail
  refine wp_region_grow (by kernel_rfl) (by kernel_rfl) ?_
  repeat (first | go_big_quiet_skip | (go_big_quiet_want; go_big_quiet_op; first | go_big_quiet_on | (go_big_quiet_call (first
      | (go_at_call 213; exact Calls.grow_of (HC2 _))))))
  refine wpQuiet_nil ?_
  rintro _ ⟨g6, rfl⟩
  have zz18 : w.heap.size < g6.world.heap.size := Nat.lt_of_lt_of_le (by first | omega | (simp; done) | (simp; omega)) g6.le
  have zz19 : p < g6.world.heap.size := Nat.lt_of_lt_of_le (by first | omega | (simp; done) | (simp; omega)) g6.le
  have zz20 : b1 < g6.world.heap.size := Nat.lt_of_lt_of_le (by first | omega | (simp; done) | (simp; omega)) g6.le
  go_upto_region 7 with fail
  obtain ⟨W6, hW6⟩ : ∃ W6, W6 = g6.world := ⟨_, rfl⟩
  have hb6 : Below wc.heap.size wc W6 := by rw [hW6]; exact g6.below
  rw [← hW6]
  clear hW6
  have y20 := Nat.lt_of_lt_of_le y10 hb6.size
  have y21 := Nat.lt_of_lt_of_le y11 hb6.size
  have S6 := HS5.out.below hb6
  have ex : ∀ W, (Instr.indexAt 230 (.slice (some ⟨gx, 0, none⟩) N cx) (.int .i64 (j : Int))).run Tryz.prog W = .ok (.pointer (some ⟨gx, j, none⟩)) W := fun W => congrFun (HGX.out j hjN) W
  have ey : ∀ W, (Instr.indexAt 230 (.slice (some ⟨gy, 0, none⟩) N cy) (.int .i64 (j : Int))).run Tryz.prog W = .ok (.pointer (some ⟨gy, j, none⟩)) W := fun W => congrFun (HGY.out j hjN) W
  have d1 : W6.cell? ⟨p, 1, none⟩ = some (.slice (some ⟨gx, 0, none⟩) N cx) := S6.blk.at 1 rfl
  have d2 : W6.cell? ⟨p, 2, none⟩ = some (.slice (some ⟨gy, 0, none⟩) N cy) := S6.blk.at 2 rfl
  obtain ⟨x4, y4, fx4, fy4⟩ : W6.cell? ⟨gx, j, none⟩ = some (.int .i64 (lowS l c S l[j].key).1) ∧ W6.cell? ⟨gy, j, none⟩ = some (.int .i64 (lowS l c S l[j].key).2) ∧ W6.frozen? ⟨gx, j, none⟩ = false ∧ W6.frozen? ⟨gy, j, none⟩ = false := by
    obtain ⟨gx', gy', cx', cy', e1, e2, _, _, _, _, _, h1, h2, h3, h4⟩ := S6.cells hj
    simp only [Value.slice.injEq, Option.some.injEq, Addr.mk.injEq, and_true] at e1 e2
    obtain ⟨rfl, _, rfl⟩ := e1
    obtain ⟨rfl, _, rfl⟩ := e2
    exact ⟨h1, h2, h3, h4⟩
  rw [← HHI.out] at x4 y4
  have lx6 : gx < W6.heap.size := Nat.lt_of_lt_of_le (Nat.lt_of_lt_of_le lx4 HA5.out.size) hb6.size
  have ly6 : gy < W6.heap.size := Nat.lt_of_lt_of_le (Nat.lt_of_lt_of_le ly4 HA5.out.size) hb6.size
  obtain ⟨x, hx⟩ : ∃ x, x = (lowS l c S c.hi).1 := ⟨_, rfl⟩
  obtain ⟨y, hy⟩ : ∃ y, y = (lowS l c S c.hi).2 := ⟨_, rfl⟩
  have FIN7 : SumsAt (((W6.setCell ⟨gx, j, none⟩ (.int .i64 (wrap64 (x + X2)))).setCell ⟨gy, j, none⟩ (.int .i64 (wrap64 (y + Y2)))).drew) p base (.slice A N cv) l (highS l c (lowS l c S)) (.slice (some ⟨gx, 0, none⟩) N cx) (.slice (some ⟨gy, 0, none⟩) N cy) ∧ Alter (fun k => k = gx ∨ k = gy) W6 (((W6.setCell ⟨gx, j, none⟩ (.int .i64 (wrap64 (x + X2)))).setCell ⟨gy, j, none⟩ (.int .i64 (wrap64 (y + Y2)))).drew) := by
    try simp only [w64i]
    refine ⟨?_, alter_drew (alter_set (S := fun k => k = gx ∨ k = gy) (alter_set (S := fun k => k = gx ∨ k = gy) (Alter.refl _ _) (.inl (.inl rfl)) _) (.inl (.inr rfl)) _)⟩
    have := S6.put HSD.out.nodup hj (wrap64 (x + X2), wrap64 (y + Y2))
    rw [HHIGH.out, HHI.out]
    rw [hx, hy, HHI.out] at this ⊢
    exact this.below (bel_drew (Below.refl _ _))
  rw [← hx] at x4
  rw [← hy] at y4
  have HB6 := Lib.hid hb6
  have HB4 := Lib.hid hb4
  clear hx hy S6 hb6 hb4 TJ c05 lx4 ly4 y10 y11 y12
  have H7 := Lib.hid FIN7
  clear FIN7
  go_region
  all_goals
    go_wp2
    go_end0
    obtain ⟨S7, A7⟩ := H7.out
    refine ⟨rfl, by rw [← HN.out]; exact S7, ?_⟩
    have k0 := HB4.out.size
    have k1 := HA5.out.size
    have k2 := HB6.out.size
    have nb : ∀ k, k < base → ¬ (k = gx ∨ k = gy) := fun k hk => by omega
    exact (HB4.out.mono (by omega)).trans ((HA5.out.below (by omega) nb).trans ((HB6.out.mono (by omega)).trans (A7.below (by omega) nb)))
end Go.Proofs.YtnhaiecbjipodaaGreatDoor
/- jacobi.each, jacobi.Sums. -/
namespace Go.Proofs.YtnhaiecbjipodaaGreatDoor
open Go.RowKit Go.Shelf Go.Proofs
attribute [local go_sem] Grow.cell Grow.froz Grow.lt lt_s1 lt_s2 lt_s3 lt_s4 lt_s5
theorem idx_con {A : Option Addr} {b off k len c : Nat} (hA : A = some ⟨b, off, none⟩) (hk : k < len) (w : World) :
    (Instr.indexAt 59 (.slice A len c) (.int .i64 (k : Int))).run Tryz.prog w = .ok (.pointer (some ⟨b, off + k * 5, none⟩)) w := by
  subst hA
  have hk' : (k : Int) < (len : Int) := by omega
  go_simp
/-- The contacts of a view: fit, and of bodies that are there. -/
structure ConsOk (l : List Body) (cs : List Con) : Prop where
  ok : ∀ c ∈ cs, c.Fit ∧ ∃ (i j : Nat) (hi : i < l.length) (hj : j < l.length), c.lo = l[i].key ∧ c.hi = l[j].key
  len : cs.length ≤ 100000000000
set_option maxRecDepth 100000 in
set_option maxHeartbeats 2000000 in
theorem jEach_any (p base : Nat) (v : Value) (l : List Body) (S0 : Int → Int × Int) (vx vy vc : Value) (cs : List Con) (w0 w : World) (hr : Reads conE w0 vc cs) (hb0 : Below w0.heap.size w0 w) (hw0 : w0.heap.size ≤ base) (h : SumsAt w p base v l S0 vx vy) (hbp : base ≤ p) (hn : l.length ≤ 4096) (hs : Asc l) (hV : ∀ b ∈ l, Sound b) (hc : ConsOk l cs) :
    Calls Tryz.prog 185 #[vc, .func (.func 186) #[.pointer (some ⟨p, 0, none⟩)] #[]] w fun e w' => e = .returned (.tuple #[]) ∧ SumsAt w' p base v l (cs.foldl (stepS l) S0) vx vy ∧ Below base w w' := by
  obtain ⟨A, c, b1, o1, rfl, hA, hx⟩ := hr.form
  obtain ⟨N, hN⟩ : ∃ N, N = cs.length := ⟨_, rfl⟩
  have hlN : N ≤ 100000000000 := by have := hc.len; omega
  have HA := Lib.hid hA
  have HX := Lib.hid hx
  have HN := Lib.hid hN
  have HS := Lib.hid h
  have HB0 := Lib.hid hb0
  have HSA := Lib.hid hs
  have HV := Lib.hid hV
  have HC := Lib.hid hc
  rw [← hN]
  clear hr hA hx hN h hb0 hs hV hc
  go_enter Tryz.func185, Tryz.ntmps185
  go_wp2
  go_loopw [8] (fun i wr => ∃ (k : Nat), k ≤ N ∧ i = .int .i64 k ∧ SumsAt wr p base v l ((cs.take k).foldl (stepS l) S0) vx vy ∧ Below base w wr) (fun i _ => N - (intOf i).toNat)
  case atStart => exact ⟨0, by omega, rfl, HS.out, Below.refl _ _⟩
  case round =>
    obtain ⟨k, hk, rfl, hS, hB⟩ := hrel
    have HS1 := Lib.hid hS
    have HB1 := Lib.hid hB
    have hpr := hS.blk.lt
    clear hS hB
    by_cases hlt : k < N
    · have hkl : k < cs.length := by rw [← HN.out]; exact hlt
      obtain ⟨eA, zA⟩ := HA.out (by omega)
      have ix : ∀ W, (Instr.indexAt 59 (.slice A N c) (.int .i64 (k : Int))).run Tryz.prog W = .ok (.pointer (some ⟨b1, o1 + k * 5, none⟩)) W := fun W => idx_con eA hlt W
      have hbw : Below w0.heap.size w0 wr := HB0.out.trans (HB1.out.mono hw0)
      have hq : ∀ o u, (conE.cells cs[k])[o]? = some u → wr.cell? ⟨b1, o1 + k * 5 + o, none⟩ = some u := fun o u hu => (hbw.cell (p := ⟨b1, o1 + k * 5 + o, none⟩) zA).trans (HX.out k hkl o u hu)
      obtain ⟨hfit, i, j, hi, hj, hlo, hhi⟩ := HC.out.ok cs[k] (List.getElem_mem hkl)
      have hfold : (cs.take (k + 1)).foldl (stepS l) S0 = stepS l ((cs.take k).foldl (stepS l) S0) cs[k] := by
        rw [List.take_succ_eq_append_getElem hkl, List.foldl_append]; rfl
      generalize cs[k] = x at hq hfit hlo hhi hfold
      have q0 : wr.cell? ⟨b1, o1 + k * 5, none⟩ = some (.int .u32 x.lo) := hq 0 _ rfl
      have q1 : wr.cell? ⟨b1, o1 + k * 5 + 1, none⟩ = some (.int .u32 x.hi) := hq 1 _ rfl
      have q2 : wr.cell? ⟨b1, o1 + k * 5 + 2, none⟩ = some (.int .i32 x.nx) := hq 2 _ rfl
      have q3 : wr.cell? ⟨b1, o1 + k * 5 + 3, none⟩ = some (.int .i32 x.ny) := hq 3 _ rfl
      have q4 : wr.cell? ⟨b1, o1 + k * 5 + 4, none⟩ = some (.int .i32 x.dep) := hq 4 _ rfl
      have hSA := HS1.out.below (bel_alloc (Below.refl _ _) (.cells x.arr 100))
      have HAD := Lib.hid (sumAdd_any p base v l _ vx vy x i j _ hSA hbp hn HSA.out hi hj hlo hhi hfit HV.out)
      have HF := Lib.hid hfold
      clear eA zA hbw hq hfit hlo hhi hfold hSA
      go_wp2_with fail
      refine HAD.out.mono ?_
      rintro e w2 ⟨rfl, h2⟩
      have H2 := Lib.hid h2
      clear h2
      go_wp2
      go_roundw
      case rel => exact ⟨k + 1, by omega, by go_num, by rw [HF.out]; exact H2.out.1, (HB1.out.alloc (by omega) _).trans H2.out.2⟩
      case measure => simp [intOf]; omega
    · have hkl : k = cs.length := by rw [← HN.out]; omega
      have HK := Lib.hid hkl
      clear hkl
      go_wp2
      go_end0
      have := HS1.out
      rw [HK.out, List.take_length] at this
      exact ⟨rfl, this, HB1.out⟩
theorem zeros_own (W : World) (base N : Nat) (hb : base ≤ W.heap.size) (hN : N ≤ 4096) : Own i64E 2 (W.alloc (.cells (madeCells #[.int .i64 0] N) 2)) base (.slice (some ⟨W.heap.size, 0, none⟩) N N) (List.replicate N 0) := by
  have hg := heap_alloc_new W (.cells (madeCells #[.int .i64 0] N) 2)
  have := own_of_at (E := i64E) (t := 2) (l := List.replicate N 0) (cap := N) hg (by simp) (by simp [maxLen]; omega) (by rw [size_madeCells, show i64E.sz = 1 from rfl, Nat.mul_one]) (fun i hi j u hu => by
    have hj : j < 1 := by
      have := (List.getElem?_eq_some_iff.1 hu).1
      rwa [i64E.len] at this
    obtain rfl : j = 0 := by omega
    simp at hi
    simp [i64E] at hu
    subst hu
    rw [show i64E.sz = 1 from rfl, Nat.mul_one, Nat.add_zero]
    simp [madeCells, hi, Nat.mod_one]) base hb
  rw [List.length_replicate] at this
  exact this
theorem run_make64 (N : Nat) (hN : N ≤ 4096) (W : World) : (Instr.makeSlice 230 (.int .i64 (N : Int)) (.int .i64 (N : Int))).run Tryz.prog W = .ok (.slice (some ⟨W.heap.size, 0, none⟩) N N) (W.alloc (.cells (madeCells #[.int .i64 0] N) 2)) := by
  obtain ⟨i0, hi, hz0, hz1, hz2⟩ := info_parts i64Info
  have := run_makeSlice (P := Tryz.prog) (w := W) 230 2 i0 (.int .i64 0) Tryz.underlying230 hi hz0 .i64 .i64 (N : Int) (N : Int) (by omega) (Int.le_refl _) (by rw [hz1]; simp; omega) (by rw [hz2]; omega) (by omega)
  rw [hz1] at this
  simp only [Int.toNat_natCast, Nat.mul_one] at this
  exact this
theorem zero_sums (l : List Body) (f : Int × Int → Int) (hf : f (0, 0) = 0) : (l.map fun b => f ((fun _ : Int => ((0 : Int), (0 : Int))) b.key)) = List.replicate l.length 0 := by
  simp only [hf]
  exact List.map_const'
theorem mkSums (w : World) (v : Value) (l : List Body) (N : Nat) (hN : N = l.length) (hN4 : N ≤ 4096) (hl : Reads bodyE w v l) (hrb : 0 < l.length → ∀ k, v.ownBlock = some k → k < w.heap.size) (o : Bool) (vx vy : Value)
    (hx : vx = .slice (some ⟨bif o then w.heap.size else w.heap.size + 1, 0, none⟩) N N) (hy : vy = .slice (some ⟨bif o then w.heap.size + 1 else w.heap.size, 0, none⟩) N N) :
    SumsAt ((((w.alloc (.cells (madeCells #[.int .i64 0] N) 2)).alloc (.cells (madeCells #[.int .i64 0] N) 2)).alloc (.cells #[v, vx, vy] 274)).drew) (w.heap.size + 1 + 1) w.heap.size v l (fun _ => (0, 0)) vx vy := by
  have hb : Below w.heap.size w ((((w.alloc (.cells (madeCells #[.int .i64 0] N) 2)).alloc (.cells (madeCells #[.int .i64 0] N) 2)).alloc (.cells #[v, vx, vy] 274)).drew) := (by repeat (first | with_reducible exact Below.refl _ _ | with_reducible refine bel_alloc ?_ _ | with_reducible refine bel_drewN ?_ _ | with_reducible refine bel_drew ?_ | with_reducible refine bel_grow ?_ _ | with_reducible refine bel_set ?_ (by first | omega | (simp; done) | (simp; omega)) _))
  have h1 := ((zeros_own w w.heap.size N (Nat.le_refl _) hN4).alloc (.cells (madeCells #[.int .i64 0] N) 2)).alloc (.cells #[v, vx, vy] 274) |>.below (bel_drew (Below.refl _ _))
  have h2 := (zeros_own (w.alloc (.cells (madeCells #[.int .i64 0] N) 2)) w.heap.size N (by simp) hN4).alloc (.cells #[v, vx, vy] 274) |>.below (bel_drew (Below.refl _ _))
  rw [show (w.alloc (.cells (madeCells #[.int .i64 0] N) 2)).heap.size = w.heap.size + 1 by simp] at h2
  have hk : CellsAt ((((w.alloc (.cells (madeCells #[.int .i64 0] N) 2)).alloc (.cells (madeCells #[.int .i64 0] N) 2)).alloc (.cells #[v, vx, vy] 274)).drew) (w.heap.size + 1 + 1) #[v, vx, vy] 274 := (by repeat (first | with_reducible exact CellsAt.newAt (by first | rfl | (simp; done) | omega) rfl | with_reducible refine CellsAt.alloc ?_ _ | with_reducible refine CellsAt.drewN ?_ _ | with_reducible refine CellsAt.drew ?_ | with_reducible refine CellsAt.grow ?_ _ | with_reducible refine CellsAt.far ?_ (by first | omega | (simp; done) | (simp; omega)) _))
  have z1 := zero_sums l (·.1) rfl
  have z2 := zero_sums l (·.2) rfl
  rw [← hN] at z1 z2
  cases o
  · simp only [cond_false] at hx hy
    subst hx hy
    exact ⟨hk, hl.below hb, hrb, by rw [z1]; exact h2, by rw [z2]; exact h1, fun k e e2 => by simp [Value.ownBlock] at e e2; omega⟩
  · simp only [cond_true] at hx hy
    subst hx hy
    exact ⟨hk, hl.below hb, hrb, by rw [z1]; exact h1, by rw [z2]; exact h2, fun k e e2 => by simp [Value.ownBlock] at e e2; omega⟩
set_option maxRecDepth 100000 in
set_option maxHeartbeats 2000000 in
theorem sums_any (v : Value) (l : List Body) (vc : Value) (cs : List Con) (w : World) (hl : Reads bodyE w v l) (hr : Reads conE w vc cs) (hn : l.length ≤ 4096) (hs : Asc l) (hV : ∀ b ∈ l, Sound b) (hc : ConsOk l cs) :
    Calls Tryz.prog 154 #[v, vc] w fun e w' => ∃ vx vy, e = .returned (.tuple #[vx, vy]) ∧ Own i64E 2 w' w.heap.size vx (l.map fun b => (sumS l cs b.key).1) ∧ Own i64E 2 w' w.heap.size vy (l.map fun b => (sumS l cs b.key).2) ∧ Below w.heap.size w w' := by
  obtain ⟨A, c, b1, o1, rfl, hA, hx⟩ := hl.bodies
  have HLv := Lib.hid hl
  have HR := Lib.hid hr
  have HS := Lib.hid hs
  have HV := Lib.hid hV
  have HC := Lib.hid hc
  have hrb : 0 < l.length → ∀ k, Value.ownBlock (.slice A l.length c) = some k → k < w.heap.size := fun h0 k hk => by
    obtain ⟨rfl, h⟩ := hA h0
    simp [Value.ownBlock] at hk
    omega
  obtain ⟨N, hN⟩ : ∃ N, N = l.length := ⟨_, rfl⟩
  have HN := Lib.hid hN
  have hlN : N ≤ 4096 := by omega
  have mk := fun W => run_make64 N hlN W
  have HRB := Lib.hid hrb
  rw [← hN]
  clear hl hA hx hr hs hV hc hN hrb
  go_enter Tryz.func154, Tryz.ntmps154
  go_upto_region 1 with fail
  go_cut [6] (fun x wx => ∃ P vx vy, x = .pointer (some ⟨P, 0, none⟩) ∧ SumsAt wx P w.heap.size (.slice A N c) l (fun _ => (0, 0)) vx vy ∧ w.heap.size ≤ P ∧ Below w.heap.size w wx)
  case first =>
    go_region_held3 (fun _ => True) (trivial) (fail)
    all_goals
      go_wp2
      go_meet
    · exact ⟨_, _, _, rfl, mkSums w _ l N HN.out hlN (by rw [HN.out]; exact HLv.out) (by rw [HN.out]; exact HRB.out) true _ _ rfl rfl, by omega, (by repeat (first | with_reducible exact Below.refl _ _ | with_reducible refine bel_alloc ?_ _ | with_reducible refine bel_drewN ?_ _ | with_reducible refine bel_drew ?_ | with_reducible refine bel_grow ?_ _ | with_reducible refine bel_set ?_ (by first | omega | (simp; done) | (simp; omega)) _))⟩
    · exact ⟨_, _, _, rfl, mkSums w _ l N HN.out hlN (by rw [HN.out]; exact HLv.out) (by rw [HN.out]; exact HRB.out) false _ _ rfl rfl, by omega, (by repeat (first | with_reducible exact Below.refl _ _ | with_reducible refine bel_alloc ?_ _ | with_reducible refine bel_drewN ?_ _ | with_reducible refine bel_drew ?_ | with_reducible refine bel_grow ?_ _ | with_reducible refine bel_set ?_ (by first | omega | (simp; done) | (simp; omega)) _))⟩
  case rest =>
  obtain ⟨P, vx, vy, rfl, hS, hP, hB⟩ := hcut
  have HE := Lib.hid (jEach_any P w.heap.size _ l _ vx vy vc cs w wc HR.out hB (Nat.le_refl _) hS hP hn HS.out HV.out HC.out)
  have HB := Lib.hid hB
  have hPl := hS.blk.lt
  clear hS hB
  go_wp2_with (go_at_call 185; refine HE.out.mono ?_; rintro e w3 ⟨rfl, h3⟩; have H3 := Lib.hid h3; have d1 : w3.cell? ⟨P, 1, none⟩ = some vx := h3.1.blk.at 1 rfl; have d2 : w3.cell? ⟨P, 2, none⟩ = some vy := h3.1.blk.at 2 rfl; have l3 := h3.1.blk.lt; clear h3)
  refine wp_region_grow (by kernel_rfl) (by kernel_rfl) ?_
  repeat (first | go_big_quiet_skip | (go_big_quiet_want; go_big_quiet_op; first | go_big_quiet_on))
  refine wpQuiet_nil ?_
  rintro _ ⟨g4, rfl⟩
  go_wp2
  have hx := H3.out.1.x
  have hy := H3.out.1.y
  refine bodyPost_ret (v := .tuple #[vx, vy]) (by simp [results, Tryz.results154, go_sem]) rfl ⟨vx, vy, rfl, hx.below g4.below, hy.below g4.below, bel_grow (HB.out.trans H3.out.2) g4⟩
end Go.Proofs.YtnhaiecbjipodaaGreatDoor
/- jacobi.Round. -/
namespace Go.Proofs.YtnhaiecbjipodaaGreatDoor
open Go.RowKit Go.Shelf Go.Proofs
attribute [local go_sem] Grow.cell Grow.froz Grow.lt lt_s1 lt_s2 lt_s3 lt_s4 lt_s5
def velX (l : List Body) (cs : List Con) (b : Body) : Int := wrap64 (b.vx + (sumS l cs b.key).1)
def velY (l : List Body) (cs : List Con) (b : Body) : Int := wrap64 (b.vy + (sumS l cs b.key).2)
def roundB (l : List Body) (cs : List Con) (b : Body) : Body := { b with vx := clampI (velX l cs b) 16777216, vy := clampI (velY l cs b) 16777216 }
def roundC (l : List Body) (cs : List Con) (b : Body) : Bool := !(clampI (velX l cs b) 16777216 == velX l cs b) || !(clampI (velY l cs b) 16777216 == velY l cs b)
theorem Calls.grow_same {P : Program} {f : FuncId} {args : Array Value} {w : World} {g : Grow w} {v : Value} (h : Calls P f args g.world fun e w' => e = .returned v ∧ g.world = w') : Calls P f args g.world fun e w'' => e = .returned v ∧ ∃ g' : Grow w, w'' = g'.world :=
  h.mono fun _ _ ⟨he, hb⟩ => ⟨he, g, hb.symm⟩
theorem Own.cell64 {w : World} {base : Nat} {v : Value} {l : List Int} (h : Own i64E 2 w base v l) {i : Nat} (hi : i < l.length) : ∃ g c, v = .slice (some ⟨g, 0, none⟩) l.length c ∧ g < w.heap.size ∧ w.cell? ⟨g, i, none⟩ = some (.int .i64 l[i]) := by
  obtain ⟨g, c, u, rfl, _, hg, _, _, _, ha⟩ := own_at h (by omega)
  have e1 := ha i hi 0 (.int .i64 l[i]) rfl
  rw [show i64E.sz = 1 from rfl, Nat.mul_one, Nat.add_zero] at e1
  exact ⟨g, c, rfl, lt_of_block hg, CellsAt.at (w := w) hg i e1⟩
set_option maxRecDepth 100000 in
set_option maxHeartbeats 4000000 in
theorem round_any (v : Value) (l : List Body) (vc : Value) (cs : List Con) (w : World) (hl : Reads bodyE w v l) (hr : Reads conE w vc cs) (hn : l.length ≤ 4096) (hs : Asc l) (hV : ∀ b ∈ l, Sound b) (hc : ConsOk l cs) :
    Calls Tryz.prog 127 #[v, vc] w fun e w' => ∃ v', e = .returned (.tuple #[v', .bool (l.any (roundC l cs))]) ∧ Own bodyE 27 w' w.heap.size v' (l.map (roundB l cs)) ∧ Below w.heap.size w w' := by
  have HSU := Lib.hid (sums_any v l vc cs w hl hr hn hs hV hc)
  obtain ⟨A, c, b1, o1, rfl, hA, hx⟩ := hl.bodies
  have hA := Lib.hid hA
  have hx := Lib.hid hx
  have HV := Lib.hid hV
  obtain ⟨N, hN⟩ : ∃ N, N = l.length := ⟨_, rfl⟩
  have HN := Lib.hid hN
  have hlN : N ≤ 4096 := by omega
  rw [← hN] at HSU ⊢
  clear hl hr hs hc hV hN
  go_enter Tryz.func127, Tryz.ntmps127
  go_wp2_with (go_at_call 154; refine HSU.out.mono ?_; rintro e w1 ⟨sx, sy, rfl, hsx, hsy, hb1⟩; have HSX := Lib.hid hsx; have HSY := Lib.hid hsy; have HB1 := Lib.hid hb1; clear hsx hsy hb1 HSU)
  have hz1 := HB1.out.size
  obtain ⟨Ax, cx, hsxe⟩ := HSX.out.form
  obtain ⟨Ay, cy, hsye⟩ := HSY.out.form
  rw [List.length_map, ← HN.out] at hsxe hsye
  subst hsxe hsye
  go_loopw [8, 9, 24] (fun f u i wr => ∃ (k : Nat), k ≤ N ∧ i = .int .i64 k ∧ f = .bool ((l.take k).any (roundC l cs)) ∧ Own bodyE 27 wr w1.heap.size u ((l.take k).map (roundB l cs)) ∧ Below w1.heap.size w1 wr) (fun _ _ i _ => N - (intOf i).toNat)
  case atStart => exact ⟨0, by omega, rfl, rfl, Own.nil _ _ _ _, Below.refl _ _⟩
  case round =>
    obtain ⟨k, hk, rfl, rfl, hown, hB⟩ := hrel
    have HO := Lib.hid hown
    have HB := Lib.hid hB
    have hzr := hB.size
    clear hown hB
    by_cases hlt : k < N
    · have hkl : k < l.length := by rw [← HN.out]; exact hlt
      obtain ⟨eA, zA⟩ := hA.out (by omega)
      have ix := fun w => idx_body (c := c) eA hlt w
      clear eA
      obtain ⟨q0, q1, q2, q3, q4, q5, q6, q7, q8, q9⟩ := ((hx.out k hkl).below HB1.out).below HB.out
      obtain ⟨gx, cx', e1, lx, x0⟩ := HSX.out.cell64 (i := k) (by simpa using hkl)
      obtain ⟨gy, cy', e2, ly, y0⟩ := HSY.out.cell64 (i := k) (by simpa using hkl)
      simp only [Value.slice.injEq] at e1 e2
      obtain ⟨rfl, e1, rfl⟩ := e1
      obtain ⟨rfl, e2, rfl⟩ := e2
      clear e1 e2
      rw [List.getElem_map] at x0 y0
      have x1 := (HB.out.cell (p := ⟨gx, k, none⟩) lx).trans x0
      have y1 := (HB.out.cell (p := ⟨gy, k, none⟩) ly).trans y0
      have lxr : gx < wr.heap.size := by omega
      have lyr : gy < wr.heap.size := by omega
      have jx : ∀ W, (Instr.indexAt 230 (.slice (some ⟨gx, 0, none⟩) N cx) (.int .i64 (k : Int))).run Tryz.prog W = .ok (.pointer (some ⟨gx, k, none⟩)) W := fun W => by have := idx_i64 (A := some ⟨gx, 0, none⟩) (c := cx) rfl hlt W; rwa [Nat.zero_add] at this
      have jy : ∀ W, (Instr.indexAt 230 (.slice (some ⟨gy, 0, none⟩) N cy) (.int .i64 (k : Int))).run Tryz.prog W = .ok (.pointer (some ⟨gy, k, none⟩)) W := fun W => by have := idx_i64 (A := some ⟨gy, 0, none⟩) (c := cy) rfl hlt W; rwa [Nat.zero_add] at this
      obtain ⟨b, hb⟩ : ∃ b, b = l[k] := ⟨_, rfl⟩
      rw [← hb] at q0 q1 q2 q3 q4 q5 q6 q7 q8 q9 x1 y1
      have hso := HV.out l[k] (List.getElem_mem hkl)
      rw [← hb] at hso
      obtain ⟨_, _, ⟨vx0, vx1⟩, vy0, vy1⟩ := hso
      have vx2 : wrap64 b.vx = b.vx := IntWalk.wrap64_in _ (by omega)
      have vy2 : wrap64 b.vy = b.vy := IntWalk.wrap64_in _ (by omega)
      obtain ⟨sx, hsx⟩ : ∃ s, s = (sumS l cs b.key).1 := ⟨_, rfl⟩
      obtain ⟨sy, hsy⟩ : ∃ s, s = (sumS l cs b.key).2 := ⟨_, rfl⟩
      rw [← hsx] at x1
      rw [← hsy] at y1
      obtain ⟨nx, hnx⟩ : ∃ n, n = velX l cs b := ⟨_, rfl⟩
      obtain ⟨ny, hny⟩ : ∃ n, n = velY l cs b := ⟨_, rfl⟩
      have wx : wrap64 (b.vx + sx) = nx := by rw [hnx, hsx]; rfl
      have wy : wrap64 (b.vy + sy) = ny := by rw [hny, hsy]; rfl
      obtain ⟨mx, hmx⟩ : ∃ m, m = clampI nx 16777216 := ⟨_, rfl⟩
      obtain ⟨my, hmy⟩ : ∃ m, m = clampI ny 16777216 := ⟨_, rfl⟩
      have hmxb : -16777216 ≤ mx ∧ mx ≤ 16777216 := by rw [hmx]; exact clampI_le (by omega)
      have hmyb : -16777216 ≤ my ∧ my ≤ 16777216 := by rw [hmy]; exact clampI_le (by omega)
      obtain ⟨mx0, mx1⟩ := hmxb
      obtain ⟨my0, my1⟩ := hmyb
      obtain ⟨fx, hfx⟩ : ∃ f, f = !(mx == nx) := ⟨_, rfl⟩
      obtain ⟨fy, hfy⟩ : ∃ f, f = !(my == ny) := ⟨_, rfl⟩
      have HLX := fun w => fxLimit_any nx 16777216 w (by omega) (by omega)
      have HLY := fun w => fxLimit_any ny 16777216 w (by omega) (by omega)
      rw [← hmx, ← hfx] at HLX
      rw [← hmy, ← hfy] at HLY
      have hRB : roundB l cs l[k] = { b with vx := mx, vy := my } := by rw [← hb, hmx, hmy, hnx, hny]; rfl
      have hRC : roundC l cs l[k] = (fx || fy) := by rw [← hb, hfx, hfy, hmx, hmy, hnx, hny]; rfl
      have HRB := Lib.hid hRB
      have HRC := Lib.hid hRC
      clear hb hsx hsy hnx hny hmx hmy hfx hfy x0 y0 hRB hRC
      obtain ⟨cf, hcf⟩ : ∃ cf, cf = (l.take k).any (roundC l cs) := ⟨_, rfl⟩
      have HCF := Lib.hid hcf
      rw [← hcf]
      clear hcf
      go_upto_region 7 with fail
      refine wp_region_grow (by kernel_rfl) (by kernel_rfl) ?_
      repeat (first | go_big_quiet_skip | (go_big_quiet_want; go_big_quiet_op; first | go_big_quiet_on | (go_big_quiet_call (first
          | (go_at_call 153; exact Calls.grow_same (HLX _))))))
      refine wpQuiet_nil ?_
      rintro _ ⟨g1, rfl⟩
      have zz1 : wr.heap.size < g1.world.heap.size := Nat.lt_of_lt_of_le (by first | omega | (simp; done) | (simp; omega)) g1.le
      have zz2 : gx < g1.world.heap.size := Nat.lt_of_lt_of_le (by first | omega | (simp; done) | (simp; omega)) g1.le
      have zz3 : gy < g1.world.heap.size := Nat.lt_of_lt_of_le (by first | omega | (simp; done) | (simp; omega)) g1.le
      go_upto_region 8 with fail
      refine wp_region_grow (by kernel_rfl) (by kernel_rfl) ?_
      repeat (first | go_big_quiet_skip | (go_big_quiet_want; go_big_quiet_op; first | go_big_quiet_on | (go_big_quiet_call (first
          | (go_at_call 153; exact Calls.grow_same (HLY _))))))
      refine wpQuiet_nil ?_
      rintro _ ⟨g2, rfl⟩
      have zz4 : wr.heap.size < g2.world.heap.size := Nat.lt_of_lt_of_le (by first | omega | (simp; done) | (simp; omega)) g2.le
      have hK2 : CellsAt g2.world wr.heap.size b.arr 27 := (by repeat (first | with_reducible exact CellsAt.newAt (by first | rfl | (simp; done) | omega) rfl | with_reducible refine CellsAt.alloc ?_ _ | with_reducible refine CellsAt.drewN ?_ _ | with_reducible refine CellsAt.drew ?_ | with_reducible refine CellsAt.grow ?_ _ | with_reducible refine CellsAt.far ?_ (by first | omega | (simp; done) | (simp; omega)) _))
      have kk5 : g2.world.frozen? ⟨wr.heap.size, 0, none⟩ = false := hK2.froz 0
      have kk6 : g2.world.frozen? ⟨wr.heap.size, 1, none⟩ = false := hK2.froz 1
      go_upto_region 10 with fail
      obtain ⟨W, hW⟩ : ∃ W, W = (g2.world.setCell ⟨wr.heap.size, 8, none⟩ (.int .i32 mx)).setCell ⟨wr.heap.size, 9, none⟩ (.int .i32 my) := ⟨_, rfl⟩
      rw [← hW]
      have hKW : CellsAt W wr.heap.size ({ b with vx := mx, vy := my } : Body).arr 27 := by rw [hW]; exact ((hK2.set 8 _).set 9 _).eq (by simp [Body.arr])
      have hbW : Below wr.heap.size wr W := by rw [hW]; exact (by repeat (first | with_reducible exact Below.refl _ _ | with_reducible refine bel_alloc ?_ _ | with_reducible refine bel_drewN ?_ _ | with_reducible refine bel_drew ?_ | with_reducible refine bel_grow ?_ _ | with_reducible refine bel_set ?_ (by first | omega | (simp; done) | (simp; omega)) _))
      clear hW
      have kk7 : W.cell? ⟨wr.heap.size, 0, none⟩ = some (.int .u32 b.key) := hKW.at 0 rfl
      have kk8 : W.cell? ⟨wr.heap.size, 1, none⟩ = some (.int .i32 b.radius) := hKW.at 1 rfl
      have kk9 : W.cell? ⟨wr.heap.size, 2, none⟩ = some (.int .i32 b.ax) := hKW.at 2 rfl
      have kk10 : W.cell? ⟨wr.heap.size, 3, none⟩ = some (.int .i32 b.ay) := hKW.at 3 rfl
      have kk11 : W.cell? ⟨wr.heap.size, 4, none⟩ = some (.int .i32 b.inv) := hKW.at 4 rfl
      have kk12 : W.cell? ⟨wr.heap.size, 5, none⟩ = some (.int .i32 b.bounce) := hKW.at 5 rfl
      have kk13 : W.cell? ⟨wr.heap.size, 6, none⟩ = some (.int .i32 b.px) := hKW.at 6 rfl
      have kk14 : W.cell? ⟨wr.heap.size, 7, none⟩ = some (.int .i32 b.py) := hKW.at 7 rfl
      have kk15 : W.cell? ⟨wr.heap.size, 8, none⟩ = some (.int .i32 mx) := hKW.at 8 rfl
      have kk16 : W.cell? ⟨wr.heap.size, 9, none⟩ = some (.int .i32 my) := hKW.at 9 rfl
      have lKW := hKW.lt
      have HBW := Lib.hid hbW
      clear hKW hbW hK2
      go_cut [8] (fun x wx => x = .bool (cf || fx || fy) ∧ wx = W)
      case first =>
        cases cf <;> cases fx <;> cases fy
        all_goals
          go_wp2
          go_meet
          exact ⟨rfl, rfl⟩
      case rest =>
      obtain ⟨rfl, rfl⟩ := hcut
      have hOw : Own bodyE 27 wc w1.heap.size u9 ((l.take k).map (roundB l cs)) := HO.out.below HBW.out
      have hBw : Below w1.heap.size w1 wc := HB.out.trans (HBW.out.mono hzr)
      have HOW := Lib.hid hOw
      have HBC := Lib.hid hBw
      have hszw := hBw.size
      clear hOw hBw
      go_wp2_with (at_builtin; refine own_append bodyE w1.heap.size rfl (.tmp 68) (.tmp 70) 38 27 _ 40 rfl Tryz.underlying38 bodyInfo rfl (by decide) _ ((l.take k).map (roundB l cs)) ({ b with vx := mx, vy := my } : Body) _ (by rfl) rfl (by first | rfl | simp [go_sem]) HOW.out HBC.out (by omega) (by simp; omega) ?_; intro v1 w2 own1 bel1 gr1 sz1)
      have H1 := Lib.hid (And.intro own1 bel1)
      clear own1 bel1 gr1 sz1
      go_roundw
      case rel =>
        refine ⟨k + 1, by omega, by go_num, ?_, by rw [map_take (roundB l cs) hkl, HRB.out]; exact H1.out.1, H1.out.2⟩
        rw [any_take (roundC l cs) hkl, HRC.out, ← HCF.out, Bool.or_assoc]
      case measure => simp [intOf]; omega
    · have hkl : k = l.length := by rw [← HN.out]; omega
      have HK := Lib.hid hkl
      clear hkl
      obtain ⟨cf, hcf⟩ : ∃ cf, cf = l.any (roundC l cs) := ⟨_, rfl⟩
      have hcf2 : (l.take k).any (roundC l cs) = cf := by rw [HK.out, List.take_length, hcf]
      rw [hcf2]
      have HCF := Lib.hid hcf
      clear hcf hcf2
      go_wp2
      have hO := HO.out
      rw [HK.out, List.take_length] at hO
      obtain ⟨rv, hrv⟩ : ∃ rv, rv = u9 := ⟨_, rfl⟩
      refine bodyPost_ret (v := .tuple #[_, .bool cf]) (by simp [results, Tryz.results127, go_sem]; rfl) rfl ⟨_, by rw [HCF.out], own_base hO (by omega), HB1.out.trans (HB.out.mono hz1)⟩
end Go.Proofs.YtnhaiecbjipodaaGreatDoor
/- jacobi.Solve. -/
namespace Go.Proofs.YtnhaiecbjipodaaGreatDoor
open Go.RowKit Go.Shelf Go.Proofs
attribute [local go_sem] Grow.cell Grow.froz Grow.lt lt_s1 lt_s2 lt_s3 lt_s4 lt_s5
def roundL (l : List Body) (cs : List Con) : List Body := l.map (roundB l cs)
def solveN (cs : List Con) (l : List Body) : Nat → List Body
  | 0 => l
  | n + 1 => roundL (solveN cs l n) cs
def solveF (cs : List Con) (l : List Body) : Nat → Bool
  | 0 => false
  | n + 1 => solveF cs l n || (solveN cs l n).any (roundC (solveN cs l n) cs)
theorem roundL_keys (l : List Body) (cs : List Con) : (roundL l cs).map Body.key = l.map Body.key := by
  unfold roundL
  rw [List.map_map]
  rfl
theorem solveN_keys (cs : List Con) (l : List Body) : ∀ n, (solveN cs l n).map Body.key = l.map Body.key
  | 0 => rfl
  | n + 1 => (roundL_keys _ _).trans (solveN_keys cs l n)
theorem solveN_len (cs : List Con) (l : List Body) (n : Nat) : (solveN cs l n).length = l.length := by
  have := congrArg List.length (solveN_keys cs l n)
  simpa using this
theorem asc_iff {l : List Body} : Asc l ↔ (l.map Body.key).Pairwise (· < ·) := by
  unfold Asc
  rw [List.pairwise_map]
theorem Asc.of_keys {l m : List Body} (h : Asc l) (hk : m.map Body.key = l.map Body.key) : Asc m := by
  rw [asc_iff] at *
  rw [hk]; exact h
theorem ConsOk.of_keys {l m : List Body} {cs : List Con} (h : ConsOk l cs) (hk : m.map Body.key = l.map Body.key) : ConsOk m cs := by
  have hl : m.length = l.length := by have := congrArg List.length hk; simpa using this
  have hg : ∀ i (h1 : i < m.length) (h2 : i < l.length), m[i].key = l[i].key := fun i h1 h2 => by
    have := congrArg (fun z => z[i]?) hk
    simpa [h1, h2] using this
  refine ⟨fun c hc => ?_, h.len⟩
  obtain ⟨hf, i, j, hi, hj, h1, h2⟩ := h.ok c hc
  exact ⟨hf, i, j, by omega, by omega, by rw [h1, hg], by rw [h2, hg]⟩
theorem round_sound {l : List Body} {cs : List Con} {b : Body} (h : Sound b) : Sound (roundB l cs b) :=
  ⟨h.inv, h.bounce, clampI_le (by omega), clampI_le (by omega)⟩
theorem solveN_sound {cs : List Con} {l : List Body} (h : ∀ b ∈ l, Sound b) : ∀ n, ∀ b ∈ solveN cs l n, Sound b
  | 0 => h
  | n + 1 => fun b hb => by
    obtain ⟨x, hx, rfl⟩ := List.mem_map.1 hb
    exact round_sound (solveN_sound h n x hx)
set_option maxRecDepth 100000 in
set_option maxHeartbeats 4000000 in
theorem solve_any (v : Value) (l : List Body) (vc : Value) (cs : List Con) (w : World) (hl : Reads bodyE w v l) (hr : Reads conE w vc cs) (hn : l.length ≤ 4096) (hs : Asc l) (hV : ∀ b ∈ l, Sound b) (hc : ConsOk l cs) :
    Calls Tryz.prog 81 #[v, vc] w fun e w' => ∃ v', e = .returned (.tuple #[v', .bool (solveF cs l 4)]) ∧ Reads bodyE w' v' (solveN cs l 4) ∧ Below w.heap.size w w' := by
  have HL := Lib.hid hl
  have HR := Lib.hid hr
  have HS := Lib.hid hs
  have HV := Lib.hid hV
  have HC := Lib.hid hc
  clear hl hr hs hV hc
  go_enter Tryz.func81, Tryz.ntmps81
  go_wp2
  go_loopw [0, 6, 9] (fun u f i wr => ∃ (k : Nat), k ≤ 4 ∧ i = .int .i64 k ∧ f = .bool (solveF cs l k) ∧ Reads bodyE wr u (solveN cs l k) ∧ Below w.heap.size w wr) (fun _ _ i _ => 4 - (intOf i).toNat)
  case atStart => exact ⟨0, by omega, rfl, rfl, HL.out, Below.refl _ _⟩
  case round =>
    obtain ⟨k, hk, rfl, rfl, hu, hB⟩ := hrel
    have HU := Lib.hid hu
    have HB := Lib.hid hB
    clear hu hB
    by_cases hlt : k < 4
    · have hki : (k : Int) < 4 := by omega
      have HRO := Lib.hid (round_any u0 (solveN cs l k) vc cs wr HU.out (HR.out.below HB.out) (by rw [solveN_len]; exact hn) (HS.out.of_keys (solveN_keys cs l k)) (solveN_sound HV.out k) (HC.out.of_keys (solveN_keys cs l k)))
      have hsf : solveF cs l (k + 1) = (solveF cs l k || (solveN cs l k).any (roundC (solveN cs l k) cs)) := rfl
      generalize solveF cs l k = f at *
      generalize hq : (solveN cs l k).any (roundC (solveN cs l k) cs) = q at *
      have HSF := Lib.hid hsf
      have HQ := Lib.hid hq
      clear hsf hq
      cases f <;> cases q
      all_goals
        go_wp2_with (go_at_call 127; refine HRO.out.mono ?_; rintro e w2 ⟨v2, rfl, h2⟩; have H2 := Lib.hid h2; clear h2)
        go_roundw
        case rel => exact ⟨k + 1, by omega, by go_num, by rw [HSF.out]; rfl, H2.out.1.reads (by rw [List.length_map, solveN_len]; omega), HB.out.trans (H2.out.2.mono HB.out.size)⟩
        case measure => simp [intOf]; omega
    · have hk4 : k = 4 := by omega
      subst hk4
      obtain ⟨f, hf⟩ : ∃ f, f = solveF cs l 4 := ⟨_, rfl⟩
      rw [← hf]
      have HF := Lib.hid hf
      clear hf
      go_wp2
      refine bodyPost_ret (v := .tuple #[u0, .bool f]) (by simp [results, Tryz.results81, go_sem]) rfl ⟨u0, by rw [HF.out], HU.out, HB.out⟩
end Go.Proofs.YtnhaiecbjipodaaGreatDoor
/- correct.Amount, correct.Share. -/
namespace Go.Proofs.YtnhaiecbjipodaaGreatDoor
open Go.RowKit Go.Shelf Go.Proofs
attribute [local go_sem] Grow.cell Grow.froz Grow.lt lt_s1 lt_s2 lt_s3 lt_s4 lt_s5
def amountI (c : Con) (a b : Body) : Int := if c.dep ≤ 1024 ∨ (a.inv = 0 ∧ b.inv = 0) then 0 else (c.dep - 1024) * 26214 / 65536
def shareI (c : Con) (a b : Body) (inv : Int) : Int := amountI c a b * inv / max 1 (a.inv + b.inv)
theorem amount_bd {c : Con} {a b : Body} (hc : c.Fit) : 0 ≤ amountI c a b ∧ amountI c a b ≤ 1073741824 := by
  have := hc.dep
  unfold amountI
  split <;> omega
theorem share_bd {c : Con} {a b : Body} {inv : Int} (hc : c.Fit) (ha : 0 ≤ a.inv) (hb : 0 ≤ b.inv) (h0 : 0 ≤ inv) (h1 : inv ≤ 1048576) : 0 ≤ shareI c a b inv ∧ shareI c a b inv ≤ 1125899906842624 := by
  obtain ⟨a0, a1⟩ := amount_bd (a := a) (b := b) hc
  have hm := Int.mul_nonneg a0 h0
  have hm2 := Int.mul_le_mul a1 h1 h0 (by omega : (0 : Int) ≤ 1073741824)
  have hp : 0 < max 1 (a.inv + b.inv) := by omega
  unfold shareI
  exact ⟨Int.ediv_nonneg hm (by omega), Int.le_trans (Int.ediv_le_self _ hm) (by omega)⟩
set_option maxRecDepth 100000 in
set_option maxHeartbeats 1000000 in
theorem amount_any (c : Con) (a b : Body) (w : World) (hc : c.Fit) (ha : Sound a) (hb : Sound b) :
    Calls Tryz.prog 158 #[.agg c.arr, .agg a.arr, .agg b.arr] w fun e w' => e = .returned (.int .i64 (amountI c a b)) ∧ Below w.heap.size w w' := by
  obtain ⟨_, _, d0, d1⟩ := hc
  obtain ⟨⟨m0, m1⟩, _, _, _⟩ := ha
  obtain ⟨⟨n0, n1⟩, _, _, _⟩ := hb
  have ha : amountI c a b = if c.dep ≤ 1024 ∨ (a.inv = 0 ∧ b.inv = 0) then 0 else (c.dep - 1024) * 26214 / 65536 := rfl
  by_cases h1 : c.dep ≤ 1024
  · rw [if_pos (.inl h1)] at ha
    rw [ha]
    clear ha
    go_enter Tryz.func158, Tryz.ntmps158
    go_wp2
    go_ret
    exact ⟨rfl, (by repeat (first | with_reducible exact Below.refl _ _ | with_reducible refine bel_alloc ?_ _ | with_reducible refine bel_drewN ?_ _ | with_reducible refine bel_drew ?_ | with_reducible refine bel_grow ?_ _ | with_reducible refine bel_set ?_ (by first | omega | (simp; done) | (simp; omega)) _))⟩
  · by_cases h2 : a.inv = 0
    · have e2 : (a.inv == 0) = true := by simp [h2]
      by_cases h3 : b.inv = 0
      · have e3 : (b.inv == 0) = true := by simp [h3]
        rw [if_pos (.inr ⟨h2, h3⟩)] at ha
        rw [ha]
        clear ha h2 h3
        go_enter Tryz.func158, Tryz.ntmps158
        go_wp2
        go_ret
        exact ⟨rfl, (by repeat (first | with_reducible exact Below.refl _ _ | with_reducible refine bel_alloc ?_ _ | with_reducible refine bel_drewN ?_ _ | with_reducible refine bel_drew ?_ | with_reducible refine bel_grow ?_ _ | with_reducible refine bel_set ?_ (by first | omega | (simp; done) | (simp; omega)) _))⟩
      · have e3 : (b.inv == 0) = false := by simp [h3]
        rw [if_neg (by omega)] at ha
        rw [ha]
        clear ha h2 h3
        go_enter Tryz.func158, Tryz.ntmps158
        go_wp2
        go_ret
        exact ⟨rfl, (by repeat (first | with_reducible exact Below.refl _ _ | with_reducible refine bel_alloc ?_ _ | with_reducible refine bel_drewN ?_ _ | with_reducible refine bel_drew ?_ | with_reducible refine bel_grow ?_ _ | with_reducible refine bel_set ?_ (by first | omega | (simp; done) | (simp; omega)) _))⟩
    · have e2 : (a.inv == 0) = false := by simp [h2]
      rw [if_neg (by omega)] at ha
      rw [ha]
      clear ha h2
      go_enter Tryz.func158, Tryz.ntmps158
      go_wp2
      go_ret
      exact ⟨rfl, (by repeat (first | with_reducible exact Below.refl _ _ | with_reducible refine bel_alloc ?_ _ | with_reducible refine bel_drewN ?_ _ | with_reducible refine bel_drew ?_ | with_reducible refine bel_grow ?_ _ | with_reducible refine bel_set ?_ (by first | omega | (simp; done) | (simp; omega)) _))⟩
set_option maxRecDepth 100000 in
set_option maxHeartbeats 1000000 in
theorem share_any (c : Con) (a b : Body) (hi : Bool) (inv : Int) (hinv : inv = if hi = true then b.inv else a.inv) (w : World) (hc : c.Fit) (ha : Sound a) (hb : Sound b) :
    Calls Tryz.prog 131 #[.agg c.arr, .agg a.arr, .agg b.arr, .bool hi] w fun e w' => e = .returned (.int .i64 (shareI c a b inv)) ∧ Below w.heap.size w w' := by
  have HA := fun w => amount_any c a b w hc ha hb
  obtain ⟨a0, a1⟩ := amount_bd (a := a) (b := b) hc
  have hs : shareI c a b inv = amountI c a b * inv / max 1 (a.inv + b.inv) := rfl
  rw [hs]
  clear hs
  generalize amountI c a b = A at *
  obtain ⟨⟨m0, m1⟩, _, _, _⟩ := ha
  obtain ⟨⟨n0, n1⟩, _, _, _⟩ := hb
  have i0 : 0 ≤ inv := by rw [hinv]; split <;> omega
  have i1 : inv ≤ 1048576 := by rw [hinv]; split <;> omega
  have hm := Int.mul_nonneg a0 i0
  have hm2 := Int.mul_le_mul a1 i1 i0 (by omega : (0 : Int) ≤ 1073741824)
  obtain ⟨M, hM⟩ : ∃ M, M = max 1 (a.inv + b.inv) := ⟨_, rfl⟩
  have HM := fun w => mulDiv_any A inv M w (by omega) (by omega) (by omega) (by omega) (by omega) (by omega) (by omega) (by omega)
  have hM2 : max 1 (a.inv + b.inv) = M := hM.symm
  rw [hM2]
  cases hi
  · simp only [Bool.false_eq_true, if_false] at hinv
    subst hinv
    clear hm hm2 hM
    go_enter Tryz.func131, Tryz.ntmps131
    go_upto_region 4 with fail
    refine wp_region_grow (by kernel_rfl) (by kernel_rfl) ?_
    repeat (first | go_big_quiet_skip | (go_big_quiet_want; go_big_quiet_op; first | go_big_quiet_on | (go_big_quiet_call (first
        | (go_at_call 158; exact Calls.grow_of (HA _))
        | (go_at_call 157; exact Calls.grow_of (HM _))))))
    refine wpQuiet_nil ?_
    rintro _ ⟨g1, rfl⟩
    go_wp2
    go_ret
    exact ⟨rfl, (by repeat (first | with_reducible exact Below.refl _ _ | with_reducible refine bel_alloc ?_ _ | with_reducible refine bel_drewN ?_ _ | with_reducible refine bel_drew ?_ | with_reducible refine bel_grow ?_ _ | with_reducible refine bel_set ?_ (by first | omega | (simp; done) | (simp; omega)) _))⟩
  · simp only [if_true] at hinv
    subst hinv
    clear hm hm2 hM
    go_enter Tryz.func131, Tryz.ntmps131
    go_upto_region 4 with fail
    refine wp_region_grow (by kernel_rfl) (by kernel_rfl) ?_
    repeat (first | go_big_quiet_skip | (go_big_quiet_want; go_big_quiet_op; first | go_big_quiet_on | (go_big_quiet_call (first
        | (go_at_call 158; exact Calls.grow_of (HA _))
        | (go_at_call 157; exact Calls.grow_of (HM _))))))
    refine wpQuiet_nil ?_
    rintro _ ⟨g1, rfl⟩
    go_wp2
    go_ret
    exact ⟨rfl, (by repeat (first | with_reducible exact Below.refl _ _ | with_reducible refine bel_alloc ?_ _ | with_reducible refine bel_drewN ?_ _ | with_reducible refine bel_drew ?_ | with_reducible refine bel_grow ?_ _ | with_reducible refine bel_set ?_ (by first | omega | (simp; done) | (simp; omega)) _))⟩
end Go.Proofs.YtnhaiecbjipodaaGreatDoor
/- The closure of correct.Shifts. -/
namespace Go.Proofs.YtnhaiecbjipodaaGreatDoor
open Go.RowKit Go.Shelf Go.Proofs
attribute [local go_sem] Grow.cell Grow.froz Grow.lt lt_s1 lt_s2 lt_s3 lt_s4 lt_s5
theorem share_bd2 {c : Con} {a b : Body} {inv : Int} (hc : c.Fit) (ha : 0 ≤ a.inv) (hb : 0 ≤ b.inv) (hi : inv = a.inv ∨ inv = b.inv) : 0 ≤ shareI c a b inv ∧ shareI c a b inv ≤ 1073741824 := by
  obtain ⟨a0, a1⟩ := amount_bd (a := a) (b := b) hc
  have i0 : 0 ≤ inv := by omega
  have hm := Int.mul_nonneg a0 i0
  have hM : inv ≤ max 1 (a.inv + b.inv) := by omega
  have hm2 := Int.mul_le_mul_of_nonneg_left hM a0
  unfold shareI
  exact ⟨Int.ediv_nonneg hm (by omega), Int.le_trans (Int.ediv_le_of_le_mul (by omega) hm2) a1⟩
def shV (sh sg n : Int) : Int := sg * (sh * n / 65536)
theorem shiftInfo : (Tryz.prog.info? 196).map (fun i => (i.zero, i.size, i.bytes)) = some (some (.agg #[.int .i64 0, .int .i64 0]), 2, 16) := by kernel_rfl
/-- The variable out and its slice. -/
structure OutAt (w : World) (oB base : Nat) (l : List Body) (S : Int → Int × Int) (vo : Value) : Prop where
  blk : CellsAt w oB #[vo] 155
  own : Own shiftE 196 w base vo (l.map fun b => S b.key)
theorem OutAt.below {w w' : World} {oB base : Nat} {l : List Body} {S : Int → Int × Int} {vo : Value} (h : OutAt w oB base l S vo) (hb : Below w.heap.size w w') : OutAt w' oB base l S vo := ⟨h.blk.below hb h.blk.lt, h.own.below hb⟩
def putS (w : World) (g o : Nat) (q : Int × Int) : World := (w.setCell ⟨g, o, none⟩ (.int .i64 q.1)).setCell ⟨g, o + 1, none⟩ (.int .i64 q.2)
theorem own_putS {w : World} {base g cap : Nat} {l : List (Int × Int)} {n : Nat} (h : Own shiftE 196 w base (.slice (some ⟨g, 0, none⟩) n cap) l) {i : Nat} (hi : i < l.length) (q : Int × Int) : Own shiftE 196 (putS w g (i * 2) q) base (.slice (some ⟨g, 0, none⟩) n cap) (l.set i q) := by
  obtain ⟨g', cap', cur, e, hb, hg, hc, hm, hs, hat⟩ := own_at h (by omega)
  simp only [Value.slice.injEq, Option.some.injEq, Addr.mk.injEq, and_true] at e
  obtain ⟨rfl, rfl, rfl⟩ := e
  have c0 : CellsAt w g cur 196 := hg
  have c1 := (c0.set (i * 2) (.int .i64 q.1)).set (i * 2 + 1) (.int .i64 q.2)
  have hsz : (i + 1) * 2 ≤ cur.size := by
    rw [hs]
    exact Nat.mul_le_mul_right 2 (by omega)
  have := own_of_at (E := shiftE) (l := l.set i q) (cap := cap) c1 (by simpa using hc) hm (by simpa using hs) (by
    intro k hk j u hu
    have hk' : k < l.length := by simpa using hk
    have hj : j < 2 := by
      have := (List.getElem?_eq_some_iff.1 hu).1
      rwa [shiftE.len] at this
    by_cases hki : k = i
    · subst hki
      simp only [List.getElem_set_self] at hu
      show _ = _
      rw [show shiftE.sz = 2 from rfl]
      have hh : ([Value.int .i64 q.1, Value.int .i64 q.2])[j]? = some u := hu
      obtain rfl | rfl : j = 0 ∨ j = 1 := by omega
      all_goals
        simp at hh
        subst hh
        simp [Array.getElem?_setIfInBounds]
        omega
    · rw [List.getElem_set_ne (fun e => hki e.symm)] at hu
      have h1 := hat k hk' j u hu
      rw [show shiftE.sz = 2 from rfl] at *
      have hne : ∀ d, d < 2 → ¬ i * 2 + d = k * 2 + j := fun d hd => by omega
      have h0 := hne 0 (by omega)
      simp only [Nat.add_zero] at h0
      simp [Array.getElem?_setIfInBounds, h0, hne 1 (by omega), h1]) base hb
  rw [List.length_set] at this
  exact this
theorem map_updS {l : List Body} (hd : (l.map Body.key).Nodup) (S : Int → Int × Int) {i : Nat} (hi : i < l.length) (d : Int × Int) : (l.map fun b => updS S l[i].key d b.key) = (l.map fun b => S b.key).set i d := by
  refine List.ext_getElem (by simp) fun j h1 h2 => ?_
  have hj : j < l.length := by simpa using h1
  rw [List.getElem_map, List.getElem_set]
  unfold updS
  by_cases hij : i = j
  · subst hij; simp
  · rw [if_neg hij, List.getElem_map, if_neg]
    intro e
    have h3 : (l.map Body.key)[j]'(by simpa using hj) = (l.map Body.key)[i]'(by simpa using hi) := by simpa using e
    exact hij ((List.getElem_inj hd).1 h3).symm
def shS (c : Con) (sh sg : Int) (S : Int → Int × Int) (k : Int) : Int → Int × Int := updS S k (wrap64 ((S k).1 + shV sh sg c.nx), wrap64 ((S k).2 + shV sh sg c.ny))
set_option maxRecDepth 100000 in
set_option maxHeartbeats 2000000 in
theorem shMove_any (oB cB base i : Nat) (l : List Body) (S : Int → Int × Int) (vo : Value) (c : Con) (sh sg : Int) (w : World) (h : OutAt w oB base l S vo) (hC : CellsAt w cB c.arr 100) (hd : (l.map Body.key).Nodup) (hi : i < l.length) (hc : c.Fit) (s0 : 0 ≤ sh) (s1 : sh ≤ 1073741824) (g0 : -1 ≤ sg) (g1 : sg ≤ 1) :
    Calls Tryz.prog 130 #[.int .i64 (i : Int), .int .i64 sh, .int .i64 sg, .pointer (some ⟨oB, 0, none⟩), .pointer (some ⟨cB, 0, none⟩)] w fun e w' => e = .returned (.tuple #[]) ∧ OutAt w' oB base l (shS c sh sg S l[i].key) vo ∧ Alter (fun k => vo.ownBlock = some k) w w' := by
  obtain ⟨g, cap, cur, hvo, hbg, hcur, hcap, _, hsz, hat⟩ := own_at h.own (by simp; omega)
  have hg : CellsAt w g cur 196 := hcur
  have e1 := hat i (by simpa using hi) 0 (.int .i64 (S l[i].key).1) (by rw [List.getElem_map]; rfl)
  have e2 := hat i (by simpa using hi) 1 (.int .i64 (S l[i].key).2) (by rw [List.getElem_map]; rfl)
  rw [show shiftE.sz = 2 from rfl] at e1 e2
  rw [List.length_map] at hvo
  obtain ⟨N, hN⟩ : ∃ N, N = l.length := ⟨_, rfl⟩
  have hiN : i < N := by omega
  rw [← hN] at hvo
  have x0 : w.cell? ⟨g, i * 2, none⟩ = some (.int .i64 (S l[i].key).1) := hg.at _ e1
  have y0 : w.cell? ⟨g, i * 2 + 1, none⟩ = some (.int .i64 (S l[i].key).2) := hg.at _ e2
  have fz : ∀ j, w.frozen? ⟨g, j, none⟩ = false := fun j => hg.froz j
  have lg := hg.lt
  have lo := h.blk.lt
  have lc := hC.lt
  have o0 : w.cell? ⟨oB, 0, none⟩ = some (.slice (some ⟨g, 0, none⟩) N cap) := by rw [← hvo]; exact h.blk.at 0 rfl
  have ngo : g ≠ oB := fun e => own_not_cells h.own h.blk (by decide) (by rw [hvo, e]; rfl)
  have ngc : g ≠ cB := fun e => own_not_cells h.own hC (by decide) (by rw [hvo, e]; rfl)
  have kk1 : w.cell? ⟨cB, 0, none⟩ = some (.int .u32 c.lo) := hC.at 0 rfl
  have kk2 : w.cell? ⟨cB, 1, none⟩ = some (.int .u32 c.hi) := hC.at 1 rfl
  have kk3 : w.cell? ⟨cB, 2, none⟩ = some (.int .i32 c.nx) := hC.at 2 rfl
  have kk4 : w.cell? ⟨cB, 3, none⟩ = some (.int .i32 c.ny) := hC.at 3 rfl
  have kk5 : w.cell? ⟨cB, 4, none⟩ = some (.int .i32 c.dep) := hC.at 4 rfl
  have ix : ∀ W, (Instr.indexAt 155 (.slice (some ⟨g, 0, none⟩) N cap) (.int .i64 (i : Int))).run Tryz.prog W = .ok (.pointer (some ⟨g, i * 2, none⟩)) W := fun W => by have := idx_shift (A := some ⟨g, 0, none⟩) (c := cap) rfl hiN W; rwa [Nat.zero_add] at this
  obtain ⟨⟨n0, n1⟩, ⟨n2, n3⟩, _⟩ := hc
  have px := mul_abs (x := sh) (y := c.nx) (X := 1073741824) (Y := 2147483648) (by omega) (by omega) (by omega) (by omega)
  have py := mul_abs (x := sh) (y := c.ny) (X := 1073741824) (Y := 2147483648) (by omega) (by omega) (by omega) (by omega)
  have wx1 : wrap64 (sh * c.nx) = sh * c.nx := IntWalk.wrap64_in _ (by omega)
  have wy1 : wrap64 (sh * c.ny) = sh * c.ny := IntWalk.wrap64_in _ (by omega)
  have eX : wrap64 (sg * (wrap64 (sh * c.nx) / 65536)) = shV sh sg c.nx := by
    rw [wx1]
    unfold shV
    generalize sh * c.nx = P at *
    have qx := mul_abs (x := sg) (y := P / 65536) (X := 1) (Y := 1152921504606846976) (by omega) (by omega) (by omega) (by omega)
    exact IntWalk.wrap64_in _ (by omega)
  have eY : wrap64 (sg * (wrap64 (sh * c.ny) / 65536)) = shV sh sg c.ny := by
    rw [wy1]
    unfold shV
    generalize sh * c.ny = P at *
    have qx := mul_abs (x := sg) (y := P / 65536) (X := 1) (Y := 1152921504606846976) (by omega) (by omega) (by omega) (by omega)
    exact IntWalk.wrap64_in _ (by omega)
  obtain ⟨vX, hvX⟩ : ∃ v, v = shV sh sg c.nx := ⟨_, rfl⟩
  obtain ⟨vY, hvY⟩ : ∃ v, v = shV sh sg c.ny := ⟨_, rfl⟩
  rw [← hvX] at eX
  rw [← hvY] at eY
  have HS : shS c sh sg S l[i].key = updS S l[i].key (wrap64 ((S l[i].key).1 + vX), wrap64 ((S l[i].key).2 + vY)) := by unfold shS; rw [hvX, hvY]
  obtain ⟨sx, hx⟩ : ∃ s, s = (S l[i].key).1 := ⟨_, rfl⟩
  obtain ⟨sy, hy⟩ : ∃ s, s = (S l[i].key).2 := ⟨_, rfl⟩
  rw [← hx] at x0
  rw [← hy] at y0
  rw [← hx, ← hy] at HS
  obtain ⟨mX, hmX⟩ : ∃ m, m = wrap64 (sx + vX) := ⟨_, rfl⟩
  obtain ⟨mY, hmY⟩ : ∃ m, m = wrap64 (sy + vY) := ⟨_, rfl⟩
  rw [← hmX, ← hmY] at HS
  have HS := Lib.hid HS
  have HH := Lib.hid h
  have HD := Lib.hid hd
  have HVO := Lib.hid hvo
  have HNN := Lib.hid hN
  have EX : wrap64 (sx + wrap64 (sg * (wrap64 (sh * c.nx) / 65536))) = mX := by rw [eX, hmX]
  have EY : wrap64 (sy + wrap64 (sg * (wrap64 (sh * c.ny) / 65536))) = mY := by rw [eY, hmY]
  have EX := Lib.hid EX
  have EY := Lib.hid EY
  clear h hd hvo hC hcur hat e1 e2 hN hg hx hy hvX hvY px py hcap hsz wx1 wy1 eX eY hmX hmY
  go_enter Tryz.func130, Tryz.ntmps130
  go_upto_region 0 with fail
  refine wp_region_grow_tail 14 (by kernel_rfl) (by kernel_rfl) ?_
  simp only [List.take_succ_cons, List.take_zero]
  repeat (first | go_big_quiet_skip | (go_big_quiet_want; go_big_quiet_op; first | go_big_quiet_on))
  refine wpQuiet_nil ?_
  rintro _ ⟨ga, rfl⟩
  simp only [List.drop_succ_cons, List.drop_zero]
  have zz6 : g < ga.world.heap.size := Nat.lt_of_lt_of_le (by first | omega | (simp; done) | (simp; omega)) ga.le
  have zz7 : oB < ga.world.heap.size := Nat.lt_of_lt_of_le (by first | omega | (simp; done) | (simp; omega)) ga.le
  have zz8 : cB < ga.world.heap.size := Nat.lt_of_lt_of_le (by first | omega | (simp; done) | (simp; omega)) ga.le
  have xa := ga.keep x0
  go_upto_region 1 with fail
  rw [EX.out]
  refine wp_region_grow_tail 14 (by kernel_rfl) (by kernel_rfl) ?_
  simp only [List.take_succ_cons, List.take_zero]
  repeat (first | go_big_quiet_skip | (go_big_quiet_want; go_big_quiet_op; first | go_big_quiet_on))
  refine wpQuiet_nil ?_
  rintro _ ⟨gb, rfl⟩
  simp only [List.drop_succ_cons, List.drop_zero]
  have zz9 : g < gb.world.heap.size := Nat.lt_of_lt_of_le (by first | omega | (simp; done) | (simp; omega)) gb.le
  have zz10 : oB < gb.world.heap.size := Nat.lt_of_lt_of_le (by first | omega | (simp; done) | (simp; omega)) gb.le
  have zz11 : cB < gb.world.heap.size := Nat.lt_of_lt_of_le (by first | omega | (simp; done) | (simp; omega)) gb.le
  have ngo' : oB ≠ g := fun e => ngo e.symm
  have ngc' : cB ≠ g := fun e => ngc e.symm
  go_wp2
  go_end0
  try rw [EY.out]
  have hOa := HH.out.below ga.below
  have hpa := own_putS (by rw [← HVO.out]; exact hOa.own) (i := i) (by simpa using hi) (mX, mY)
  obtain ⟨g', cap', cur', eS, _, hcur', _⟩ := own_at hOa.own (by simp; omega)
  rw [HVO.out] at eS
  simp only [Value.slice.injEq, Option.some.injEq, Addr.mk.injEq, and_true] at eS
  obtain ⟨rfl, _, rfl⟩ := eS
  have k1 : CellsAt ga.world g cur' 196 := hcur'
  have k2 := ((k1.set (i * 2) (.int .i64 mX)).grow gb).set (i * 2 + 1) (.int .i64 mY)
  have k3 := (k1.set (i * 2) (.int .i64 mX)).set (i * 2 + 1) (.int .i64 mY)
  have hA : Alter (fun k => k = g) w (gb.world.setCell ⟨g, i * 2 + 1, none⟩ (.int .i64 mY)) := alter_set (S := fun k => k = g) (alter_grow (alter_set (S := fun k => k = g) (Alter.of_below ga.below _) (.inl rfl) _) gb) (.inl rfl) _
  have hob : oB < w.heap.size := lo
  refine ⟨rfl, ⟨?_, ?_⟩, hA.mono fun k _ e => by rw [HVO.out, e]; rfl⟩
  · exact HH.out.blk.of_block (hA.block oB lo (fun e => ngo e.symm))
  · rw [HS.out, map_updS HD.out S hi, HVO.out]
    refine own_block hpa fun k hk _ => ?_
    simp [Value.ownBlock] at hk
    subst hk
    exact k2.trans k3.symm
end Go.Proofs.YtnhaiecbjipodaaGreatDoor
