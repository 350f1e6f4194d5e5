/- Contracts of the program's functions, by walks, and plain facts beside them: WPure, World4, Script1, Script2, Kinds. -/
import Derived.Test.YtnhaiecbjipodaaGreatDoorB25
import Derived.Test.YtnhaiecbjipodaaGreatDoorB27
import Derived.Test.YtnhaiecbjipodaaGreatDoorB29
import Derived.Test.YtnhaiecbjipodaaGreatDoorB30
/- The states of a world, plainly. -/
namespace Go.Proofs.YtnhaiecbjipodaaGreatDoor
open Go.RowKit Go.Shelf Go.Proofs
def Sane (b : Body) : Prop := errOf b = 0 ∧ 0 ≤ b.key ∧ b.key ≤ 4294967295
def SaneL (l : List Body) : Prop := ∀ b ∈ l, Sane b
theorem Sane.fit {b : Body} (h : Sane b) : b.Fit := by
  obtain ⟨h0, k0, k1⟩ := h
  obtain ⟨h1, h2, h3, h4, h5, h6⟩ := errOf_zero.1 h0
  exact ⟨⟨k0, k1⟩, ⟨by omega, by omega⟩, ⟨by omega, by omega⟩, ⟨by omega, by omega⟩, ⟨by omega, by omega⟩, ⟨by omega, by omega⟩, ⟨by omega, by omega⟩, ⟨by omega, by omega⟩, ⟨by omega, by omega⟩, ⟨by omega, by omega⟩⟩
theorem sane_of {b : Body} (hf : b.Fit) (h : errOf b = 0) : Sane b := ⟨h, hf.key⟩
structure Inv (l : List Body) : Prop where
  ok : SaneL l
  nodup : (l.map Body.key).Nodup
  len : l.length ≤ 4096
def sortB (l : List Body) : List Body := l.mergeSort fun a b => decide (a.key ≤ b.key)
theorem sortB_perm (l : List Body) : (sortB l).Perm l := List.mergeSort_perm _ _
theorem sortB_le (l : List Body) : (sortB l).Pairwise fun a b => a.key ≤ b.key := by
  have := List.pairwise_mergeSort (le := fun a b : Body => decide (a.key ≤ b.key)) (fun a b c h1 h2 => by simp at *; omega) (fun a b => by simp; omega) l
  exact this.imp (by simp)
theorem asc_of {l : List Body} (hs : l.Pairwise fun a b => a.key ≤ b.key) (hd : (l.map Body.key).Nodup) : Asc l := by
  rw [List.nodup_iff_pairwise_ne, List.pairwise_map] at hd
  exact (hs.and hd).imp fun h => by omega
theorem asc_unique : ∀ {l m : List Body}, l.Perm m → Asc l → Asc m → l = m
  | [], m, h, _, _ => by rw [List.nil_perm.1 h]
  | a :: l, [], h, _, _ => by simpa using h.length_eq
  | a :: l, b :: m, h, hl, hm => by
    have hl' := List.pairwise_cons.1 hl
    have hm' := List.pairwise_cons.1 hm
    have e : a = b := by
      have h1 : a ∈ b :: m := h.subset (List.mem_cons_self ..)
      have h2 : b ∈ a :: l := h.symm.subset (List.mem_cons_self ..)
      rcases List.mem_cons.1 h1 with h1 | h1
      · exact h1
      · rcases List.mem_cons.1 h2 with h2 | h2
        · exact h2.symm
        · have := hl'.1 b h2; have := hm'.1 a h1; omega
    subst e
    rw [asc_unique ((List.perm_cons a).1 h) hl'.2 hm'.2]
theorem nodup_perm {l m : List Body} (h : l.Perm m) (hd : (m.map Body.key).Nodup) : (l.map Body.key).Nodup := (h.map Body.key).nodup_iff.2 hd
theorem view_eq {l l' : List Body} (hd : (l.map Body.key).Nodup) (hp : l'.Perm l) (hs : l'.Pairwise fun a b => a.key ≤ b.key) : l' = sortB l :=
  asc_unique (hp.trans (sortB_perm l).symm) (asc_of hs (nodup_perm hp hd)) (asc_of (sortB_le l) (nodup_perm (sortB_perm l) hd))
theorem sortB_asc {l : List Body} (hd : (l.map Body.key).Nodup) : Asc (sortB l) := asc_of (sortB_le l) (nodup_perm (sortB_perm l) hd)
theorem sortB_id {l : List Body} (h : Asc l) : sortB l = l := (view_eq h.nodup (List.Perm.refl _) (h.imp fun h => by omega)).symm
theorem sortB_sane {l : List Body} (h : SaneL l) : SaneL (sortB l) := fun b hb => h b ((sortB_perm l).subset hb)
theorem sortB_good {l : List Body} (h : Inv l) : Good (sortB l) := ⟨sortB_asc h.nodup, fun b hb => (sortB_sane h.ok b hb).1, by rw [(sortB_perm l).length_eq]; exact h.len⟩
theorem sane_addR {l : List Body} {b : Body} (h : SaneL l) (hb : b.Fit) : SaneL (addR l b) := by
  unfold addR
  split
  · rename_i he
    intro x hx
    rcases List.mem_append.1 hx with hx | hx
    · exact h x hx
    · rw [List.mem_singleton.1 hx]
      refine sane_of hb ?_
      unfold addE at he
      split at he
      · exact he
      · rename_i hn; exact Decidable.not_not.1 hn
  · exact h
theorem sane_fold {vs : List Body} : ∀ {l : List Body}, SaneL l → (∀ b ∈ vs, b.Fit) → SaneL (vs.foldl addR l) := by
  induction vs with
  | nil => exact fun h _ => h
  | cons a r ih => exact fun h hf => ih (sane_addR h (hf a (List.mem_cons_self ..))) (fun b hb => hf b (List.mem_cons_of_mem _ hb))
theorem sane_repl {vs : List Body} (hf : ∀ b ∈ vs, b.Fit) : SaneL (replL vs) := sane_fold (by intro b hb; cases hb) hf
theorem sane_rem {l : List Body} {k : Int} (h : SaneL l) : SaneL (remR l k) := by
  unfold remR
  cases hi : idx l k with
  | none => exact h
  | some i =>
    intro b hb
    have hil := idx_lt hi
    have hb' := List.dropLast_subset _ hb
    rcases List.mem_or_eq_of_mem_set hb' with h1 | h1
    · exact h b h1
    · refine h b ?_
      rw [h1]
      have : l ≠ [] := by intro e; subst e; simp at hil
      rw [List.getLastD_eq_getLast?, List.getLast?_eq_some_getLast this]
      exact List.getLast_mem this
theorem sane_push {b : Body} {x y : Int} (h : Sane b) : Sane (pushB b x y) := ⟨push_ok h.1, h.2⟩
theorem sane_imp {l : List Body} {k x y : Int} (h : SaneL l) : SaneL (impR l k x y) := by
  unfold impR
  cases hi : idx l k with
  | none => exact h
  | some i =>
    intro b hb
    have hil := idx_lt hi
    rcases List.mem_or_eq_of_mem_set hb with h1 | h1
    · exact h b h1
    · rw [h1]
      refine sane_push (h _ ?_)
      simp [hil]
theorem addR_len {l : List Body} {b : Body} : (addR l b).length ≤ l.length + 1 := by
  unfold addR; split <;> simp
theorem repl_take_id {vs : List Body} (hG : Good vs) : ∀ k, k ≤ vs.length → replL (vs.take k) = vs.take k
  | 0, _ => by simp [replL]
  | k + 1, hk => by
    rw [replL_take (by omega), repl_take_id hG k (by omega)]
    have he : addE (vs.take k) vs[k] = 0 := by
      unfold addE
      have h1 : idx (vs.take k) vs[k].key = none := by
        rw [idx_mem]
        intro b hb
        obtain ⟨j, hj, rfl⟩ := List.mem_iff_getElem.1 hb
        rw [List.length_take] at hj
        rw [List.getElem_take]
        have := List.pairwise_iff_getElem.1 hG.asc j k (by omega) (by omega) (by omega)
        omega
      have h2 := hG.len
      rw [if_neg (by rw [hG.ok _ (List.getElem_mem _)]; decide), h1]
      rw [if_neg (by simp), if_neg (by rw [List.length_take]; omega)]
    unfold addR
    rw [if_pos he, List.take_succ_eq_append_getElem (by omega)]
theorem repl_id {vs : List Body} (hG : Good vs) : replL vs = vs := by
  have := repl_take_id hG vs.length (Nat.le_refl _)
  rwa [List.take_length] at this
theorem sane_grav {b : Body} (h : Sane b) : Sane (gravB b) := by
  obtain ⟨h0, hk⟩ := h
  unfold gravB
  split
  · exact ⟨h0, hk⟩
  · refine ⟨?_, hk⟩
    rw [errOf_zero] at *
    have := clampI_le (n := b.vy - 1024) (l := 16777216) (by omega)
    exact ⟨h0.1, h0.2.1, h0.2.2.1, h0.2.2.2.1, h0.2.2.2.2.1, h0.2.2.2.2.2.1, h0.2.2.2.2.2.2.1, this.1, this.2⟩
theorem sane_round {l : List Body} {cs : List Con} {b : Body} (h : Sane b) : Sane (roundB l cs b) := by
  obtain ⟨h0, hk⟩ := h
  refine ⟨?_, hk⟩
  rw [errOf_zero] at *
  have c1 := clampI_le (n := velX l cs b) (l := 16777216) (by omega)
  have c2 := clampI_le (n := velY l cs b) (l := 16777216) (by omega)
  exact ⟨h0.1, h0.2.1, h0.2.2.1, h0.2.2.2.1, h0.2.2.2.2.1, c1.1, c1.2, c2.1, c2.2⟩
theorem sane_move {b : Body} {s : Int × Int} (h : Sane b) : Sane (moveB b s) := by
  obtain ⟨h0, hk⟩ := h
  refine ⟨?_, hk⟩
  rw [errOf_zero] at *
  have c1 := clampI_le (n := moveX b.px s.1 b.vx) (l := 1073741824) (by omega)
  have c2 := clampI_le (n := moveX b.py s.2 b.vy) (l := 1073741824) (by omega)
  exact ⟨h0.1, h0.2.1, h0.2.2.1, h0.2.2.2.1, ⟨c1.1, c1.2, c2.1, c2.2⟩, h0.2.2.2.2.2⟩
theorem sane_solve {l : List Body} {cs : List Con} (h : SaneL l) : ∀ n, SaneL (solveN cs l n)
  | 0 => h
  | n + 1 => fun b hb => by
    obtain ⟨x, hx, rfl⟩ := List.mem_map.1 hb
    exact sane_round (sane_solve h n x hx)
theorem sane_step {l : List Body} (h : SaneL l) : SaneL (stepL l) := fun b hb => by
  obtain ⟨⟨x, s⟩, hx, rfl⟩ := List.mem_map.1 hb
  have hg : SaneL (gravL l) := fun b hb => by
    obtain ⟨y, hy, rfl⟩ := List.mem_map.1 hb
    exact sane_grav (h y hy)
  exact sane_move (sane_solve hg 4 x (List.of_mem_zip hx).1)
theorem solvedL_keys (l : List Body) : (solvedL l).map Body.key = l.map Body.key := (solveN_keys _ _ 4).trans (gravL_keys l)
theorem movL_keys {l : List Body} {s : List (Int × Int)} (h : s.length = l.length) : (movL l s).map Body.key = l.map Body.key := by
  unfold movL
  rw [List.map_map, show (Body.key ∘ fun p : Body × (Int × Int) => moveB p.1 p.2) = Body.key ∘ Prod.fst from rfl, ← List.map_map, List.map_fst_zip (by omega)]
theorem stepL_keys (l : List Body) : (stepL l).map Body.key = l.map Body.key := by
  have h : (solvedL l).length = l.length := by have := congrArg List.length (solvedL_keys l); simpa using this
  unfold stepL
  rw [movL_keys (by unfold shiftsL; rw [List.length_map, h]), solvedL_keys]
theorem stepL_len (l : List Body) : (stepL l).length = l.length := by have := congrArg List.length (stepL_keys l); simpa using this
theorem step_good {l : List Body} (h : Good l) (hs : SaneL l) : Good (stepL l) := ⟨h.asc.of_keys (stepL_keys l), fun b hb => (sane_step hs b hb).1, by rw [stepL_len]; exact h.len⟩
theorem check_good {l : List Body} (h : Good l) : checkL l = 0 := by
  have he : eachL l = 0 := by
    unfold eachL
    rw [if_neg (by have := h.len; omega)]
    exact firstErr_zero.2 h.ok
  refine check_yes he fun j hj => ?_
  rw [keyAt_get hj, keyAt_get (by omega)]
  exact List.pairwise_iff_getElem.1 h.asc j (j + 1) (by omega) hj (by omega)
theorem good_check {l : List Body} (h : checkL l = 0) : Good l := by
  by_cases he : eachL l = 0
  · have h2 := he
    unfold eachL at h2
    by_cases hn : 4096 < l.length
    · rw [if_pos hn] at h2; omega
    · rw [if_neg hn] at h2
      refine ⟨?_, firstErr_zero.1 h2, by omega⟩
      unfold checkL at h
      rw [if_neg (by simpa using he)] at h
      by_cases ho : ordB l = true
      · have h3 := ord_iff.1 ho
        refine List.pairwise_iff_getElem.2 fun i j hi hj hij => ?_
        have step : ∀ d, ∀ (hd : i + d + 1 < l.length), l[i].key < l[i + d + 1].key := by
          intro d
          induction d with
          | zero => intro hd; have := h3 i hd; rwa [keyAt_get (by omega), keyAt_get hd] at this
          | succ d ih =>
            intro hd
            have h4 := ih (by omega)
            have := h3 (i + d + 1) hd
            rw [keyAt_get (by omega), keyAt_get (by omega)] at this
            exact Int.lt_trans h4 this
        have := step (j - i - 1) (by omega)
        simpa [show i + (j - i - 1) + 1 = j by omega] using this
      · rw [if_neg ho] at h; omega
  · rw [check_err he] at h; exact absurd h he
end Go.Proofs.YtnhaiecbjipodaaGreatDoor
/- The world's Step, Snapshot, Restore. -/
namespace Go.Proofs.YtnhaiecbjipodaaGreatDoor
open Go.RowKit Go.Shelf Go.Proofs
attribute [local go_sem] Grow.cell Grow.froz Grow.lt lt_s1 lt_s2 lt_s3 lt_s4 lt_s5
/-- A world in memory that has turned into another one, in its footprint alone. -/
def After (w w' : World) (p : Nat) (F : Nat → Prop) (l : List Body) : Prop := ∃ F', StoreAt w' p F' l ∧ Alter F w w' ∧ ∀ k, F' k → F k ∨ w.heap.size ≤ k
theorem Own.lt {α : Type} {E : Enc α} {t : TypeId} {w : World} {b : Nat} {v : Value} {l : List α} (h : Own E t w b v l) : ∀ k, v.ownBlock = some k → k < w.heap.size := by
  intro k hk
  rcases h.2 with ⟨rfl, _⟩ | ⟨g, cap, cur, rfl, _, h3, _⟩
  · simp [Value.ownBlock] at hk
  · obtain rfl : g = k := by simpa [Value.ownBlock] using hk
    exact lt_of_block h3
theorem StoreAt.bound {w : World} {p : Nat} {F : Nat → Prop} {l : List Body} (h : StoreAt w p F l) : StoreAt w p (fun k => F k ∧ k < w.heap.size) l := by
  obtain ⟨v, m, h⟩ := h
  refine ⟨v, m, h.blk, ⟨h.fp, h.blk.lt⟩, h.own, fun k hk => ⟨h.fo k hk, h.own.lt k hk⟩, h.nodup, h.len, ?_⟩
  rcases h.ok with h1 | ⟨mb, es, h1, h2, h3, h4⟩
  · exact .inl h1
  · exact .inr ⟨mb, es, h1, ⟨h2, h3.lt⟩, h3, h4⟩
theorem StoreAt.nodup {w : World} {p : Nat} {F : Nat → Prop} {l : List Body} (h : StoreAt w p F l) : (l.map Body.key).Nodup := by obtain ⟨v, m, h⟩ := h; exact h.nodup
theorem StoreAt.len {w : World} {p : Nat} {F : Nat → Prop} {l : List Body} (h : StoreAt w p F l) : l.length ≤ 4096 := by obtain ⟨v, m, h⟩ := h; exact h.len
theorem StoreAt.inv {w : World} {p : Nat} {F : Nat → Prop} {l : List Body} (h : StoreAt w p F l) (hs : SaneL l) : Inv l := ⟨hs, h.nodup, h.len⟩
theorem After.step {w w1 w2 : World} {p : Nat} {F : Nat → Prop} {l l' : List Body} (h : StoreAt w p F l) (hb : Below w.heap.size w w1) (ha : ∀ G, (∀ k, G k → F k ∧ k < w.heap.size) → StoreAt w1 p G l → After w1 w2 p G l') : After w w2 p F l' := by
  obtain ⟨F', h1, h2, h3⟩ := ha (fun k => F k ∧ k < w.heap.size) (fun _ h => h) (h.bound.below hb)
  refine ⟨F', h1, (Alter.of_below hb F).trans h2 (fun k _ h => h.1), fun k hk => ?_⟩
  rcases h3 k hk with h | h
  · exact .inl h.1
  · exact .inr (Nat.le_trans hb.size h)
theorem worldView_s (p : Nat) (w : World) (F : Nat → Prop) (l : List Body) (h : StoreAt w p F l) :
    Calls Tryz.prog 11 #[.pointer (some ⟨p, 0, none⟩)] w fun e w' => ∃ v', e = .returned v' ∧ Own bodyE 27 w' w.heap.size v' (sortB l) ∧ Below w.heap.size w w' := by
  refine (worldView_any p w F l h).mono ?_
  rintro e w' ⟨v', l', rfl, h1, h2, h3, h4⟩
  rw [view_eq h.nodup h2 h3] at h1
  exact ⟨v', rfl, h1, h4⟩
set_option maxRecDepth 100000 in
set_option maxHeartbeats 1000000 in
theorem worldSnap_any (p : Nat) (w : World) (F : Nat → Prop) (l : List Body) (h : StoreAt w p F l) (hs : SaneL l) :
    Calls Tryz.prog 10 #[.pointer (some ⟨p, 0, none⟩)] w fun e w' => ∃ v', e = .returned v' ∧ OB w' w.heap.size v' (bytesL (sortB l)) ∧ Below w.heap.size w w' := by
  have hp := h.lt
  have hI := h.inv hs
  have HV := Lib.hid (worldView_s p w F l h)
  have hlen : (sortB l).length ≤ 1000000 := by rw [(sortB_perm l).length_eq]; have := hI.len; omega
  have hf : ∀ b ∈ sortB l, b.Fit := fun b hb => (sortB_sane hs b hb).fit
  have he : encL (sortB l) = (bytesL (sortB l), 0) := enc_ok (check_good (sortB_good hI))
  have HE := fun v W (hr : Reads bodyE W v (sortB l)) => encode_any v (sortB l) W hr hf
  rw [he] at HE
  have HE := Lib.hid HE
  have HLEN := Lib.hid hlen
  clear h hs hI hlen hf he
  obtain ⟨bs, hbs⟩ : ∃ bs, bs = bytesL (sortB l) := ⟨_, rfl⟩
  rw [← hbs] at HE ⊢
  clear hbs
  go_enter Tryz.func10, Tryz.ntmps10
  go_wp2_with (first
    | (go_at_call 11; refine HV.out.mono ?_; rintro e w1 ⟨v1, rfl, h1, hb1⟩; have H1 := Lib.hid h1; have HB1 := Lib.hid hb1; clear h1 hb1)
    | (go_at_call 27; refine (HE.out _ _ (H1.out.reads (by have := HLEN.out; omega))).mono ?_; rintro e w2 ⟨v2, rfl, h2, hb2⟩; have H2 := Lib.hid h2; have HB2 := Lib.hid hb2; clear h2 hb2))
  go_ret
  exact ⟨_, rfl, ⟨H2.out.1, own_base H2.out.2 HB1.out.size⟩, HB1.out.trans (HB2.out.mono HB1.out.size)⟩
set_option maxRecDepth 100000 in
set_option maxHeartbeats 1000000 in
theorem worldStep_any (p : Nat) (w : World) (F : Nat → Prop) (l : List Body) (h : StoreAt w p F l) (hs : SaneL l) (hg : Glob w) :
    Calls Tryz.prog 23 #[.pointer (some ⟨p, 0, none⟩)] w fun e w' => e = .returned (.agg #[.int .i64 (((candL (sortB l)).length : Nat) : Int), .int .i64 (((contactsL (sortB l)).length : Nat) : Int), .bool (flag3 (sortB l))]) ∧ After w w' p F (stepL (sortB l)) := by
  have hp := h.lt
  have hI := h.inv hs
  have hG := sortB_good hI
  have HSL := Lib.hid (stepL_len (sortB l))
  have HG := Lib.hid (step_good hG (sortB_sane hs))
  have HV := fun W (hb : Below w.heap.size w W) => worldView_s p W F l (h.below hb)
  have HS := fun v W (hr : Reads bodyE W v (sortB l)) (hgw : Glob W) => step_any v (sortB l) W hr hG hgw
  have HLEN := Lib.hid hG.len
  have HV := Lib.hid HV
  have HAT := Lib.hid h
  obtain ⟨tt, htt⟩ : ∃ tt : Int, tt = (((candL (sortB l)).length : Nat) : Int) := ⟨_, rfl⟩
  obtain ⟨nn, hnn⟩ : ∃ nn : Int, nn = (((contactsL (sortB l)).length : Nat) : Int) := ⟨_, rfl⟩
  obtain ⟨ff, hff⟩ : ∃ ff, ff = flag3 (sortB l) := ⟨_, rfl⟩
  obtain ⟨sl, hsl⟩ : ∃ sl, sl = sortB l := ⟨_, rfl⟩
  obtain ⟨nl, hnl⟩ : ∃ nl, nl = stepL (sortB l) := ⟨_, rfl⟩
  rw [← htt, ← hnn, ← hff, ← hnl] at HS
  rw [← htt, ← hnn, ← hff, ← hnl]
  rw [← hnl] at HG
  rw [← hsl] at HS HV HLEN
  have HS := Lib.hid HS
  have HGL := Lib.hid hg
  clear h hs hI hG htt hnn hff hnl hsl hg HSL
  go_enter Tryz.func23, Tryz.ntmps23
  go_upto_region 4 with (first
    | (go_at_call 11; refine (HV.out _ (by repeat (first | with_reducible exact Below.refl _ _ | with_reducible refine bel_alloc ?_ _ | with_reducible refine bel_drewN ?_ _ | with_reducible refine bel_drew ?_ | with_reducible refine bel_grow ?_ _ | with_reducible refine bel_set ?_ (by first | omega | (simp; done) | (simp; omega)) _))).mono ?_; rintro e w1 ⟨v1, rfl, h1, hb1⟩; obtain ⟨g1, rfl⟩ := Grow.of hb1; have H1 := Lib.hid h1; clear h1 hb1)
    | (go_at_call 22; refine (HS.out _ _ (H1.out.reads (by have := HLEN.out; omega)) (HGL.out.below (by repeat (first | with_reducible exact Below.refl _ _ | with_reducible refine bel_alloc ?_ _ | with_reducible refine bel_drewN ?_ _ | with_reducible refine bel_drew ?_ | with_reducible refine bel_grow ?_ _ | with_reducible refine bel_set ?_ (by first | omega | (simp; done) | (simp; omega)) _)))).mono ?_; rintro e w2 ⟨v2, rfl, h2, hb2, hfr⟩; obtain ⟨g2, rfl⟩ := Grow.of hb2; have H2 := Lib.hid h2; have HFR := Lib.hid hfr; clear h2 hb2 hfr))
  have hbg : Below w.heap.size w (g2.world.alloc (.cells #[.int .i64 tt, .int .i64 nn, .bool ff] 64)) := (by repeat (first | with_reducible exact Below.refl _ _ | with_reducible refine bel_alloc ?_ _ | with_reducible refine bel_drewN ?_ _ | with_reducible refine bel_drew ?_ | with_reducible refine bel_grow ?_ _ | with_reducible refine bel_set ?_ (by first | omega | (simp; done) | (simp; omega)) _))
  have hF1 := HAT.out.bound.below hbg
  have HRP := Lib.hid (replace_any p v2 nl _ _ l hF1 (H2.out.below (bel_alloc (Below.refl _ _) _)) (fun k hk hf => by have := HFR.out k hk; have := g1.le; simp at this; omega))
  rw [repl_id HG.out] at HRP
  have lg1 := g1.le
  have lg2 := g2.le
  simp at lg1
  have KR : CellsAt (g2.world.alloc (.cells #[.int .i64 tt, .int .i64 nn, .bool ff] 64)) w.heap.size #[.int .i64 0, .int .i64 0, .bool false] 64 := (by repeat (first | with_reducible exact CellsAt.newAt (by first | rfl | (simp; done) | omega) rfl | with_reducible refine CellsAt.alloc ?_ _ | with_reducible refine CellsAt.drewN ?_ _ | with_reducible refine CellsAt.drew ?_ | with_reducible refine CellsAt.grow ?_ _ | with_reducible refine CellsAt.far ?_ (by first | omega | (simp; done) | (simp; omega)) _))
  have KS : CellsAt (g2.world.alloc (.cells #[.int .i64 tt, .int .i64 nn, .bool ff] 64)) g2.world.heap.size #[.int .i64 tt, .int .i64 nn, .bool ff] 64 := (by repeat (first | with_reducible exact CellsAt.newAt (by first | rfl | (simp; done) | omega) rfl | with_reducible refine CellsAt.alloc ?_ _ | with_reducible refine CellsAt.drewN ?_ _ | with_reducible refine CellsAt.drew ?_ | with_reducible refine CellsAt.grow ?_ _ | with_reducible refine CellsAt.far ?_ (by first | omega | (simp; done) | (simp; omega)) _))
  have HKR := Lib.hid KR
  have HKS := Lib.hid KS
  have HBG := Lib.hid hbg
  clear hF1 hbg KR KS
  generalize g2.world.alloc (.cells #[.int .i64 tt, .int .i64 nn, .bool ff] 64) = W at *
  go_upto_region 5 with (go_at_call 41; refine HRP.out.mono ?_; rintro e w3 ⟨rfl, F3, h3, ha3, hf3⟩; have KR := HKR.out.alter ha3 (by simp); have KS := HKS.out.alter ha3 (by simp; omega); have fz : ∀ o, w3.frozen? ⟨w.heap.size, o, none⟩ = false := fun o => KR.froz o; have H3 := Lib.hid h3; have HA3 := Lib.hid ha3; have HF3 := Lib.hid hf3; clear h3 ha3 hf3)
  have kk1 : w3.cell? ⟨g2.world.heap.size, 0, none⟩ = some (.int .i64 tt) := KS.at 0 rfl
  have kk2 : w3.cell? ⟨g2.world.heap.size, 1, none⟩ = some (.int .i64 nn) := KS.at 1 rfl
  have kk3 : w3.cell? ⟨g2.world.heap.size, 2, none⟩ = some (.bool ff) := KS.at 2 rfl
  have kk4 : w3.cell? ⟨w.heap.size, 0, none⟩ = some (.int .i64 0) := KR.at 0 rfl
  have kk5 : w3.cell? ⟨w.heap.size, 1, none⟩ = some (.int .i64 0) := KR.at 1 rfl
  have kk6 : w3.cell? ⟨w.heap.size, 2, none⟩ = some (.bool false) := KR.at 2 rfl
  go_wp2
  refine bodyPost_ret (v := .agg #[.int .i64 tt, .int .i64 nn, .bool ff]) (ret_cells w.heap.size #[.int .i64 tt, .int .i64 nn, .bool ff] 64 ?_ ?_) rfl ⟨rfl, ?_⟩
  · exact (((KR.set 0 _).set 1 _).set 2 _).eq (by simp)
  · intro W K
    have kk7 : W.cell? ⟨w.heap.size, 0, none⟩ = some (.int .i64 tt) := K.at 0 rfl
    have kk8 : W.cell? ⟨w.heap.size, 1, none⟩ = some (.int .i64 nn) := K.at 1 rfl
    have kk9 : W.cell? ⟨w.heap.size, 2, none⟩ = some (.bool ff) := K.at 2 rfl
    simp [results, Tryz.results23, go_sem, *]
  · have lW := HKR.out.lt
    have hA : Alter F w w3 := (Alter.of_below HBG.out F).trans HA3.out (fun _ _ h => h.1)
    obtain ⟨v5, m5, h5⟩ := H3.out
    refine ⟨F3, ⟨v5, m5, h5.alter (S := fun k => k = w.heap.size) (alter_set (S := fun k => k = w.heap.size) (alter_set (S := fun k => k = w.heap.size) (alter_set (S := fun k => k = w.heap.size) (Alter.refl _ _) (.inl rfl) _) (.inl rfl) _) (.inl rfl) _) fun k hk e => ?_⟩, alter_set (alter_set (alter_set hA (.inr (Nat.le_refl _)) _) (.inr (Nat.le_refl _)) _) (.inr (Nat.le_refl _)) _, fun k hk => ?_⟩
    · rcases HF3.out k hk with h | h <;> omega
    · rcases HF3.out k hk with h | h
      · exact .inl h.1
      · right; omega
theorem restR_len {b : List Int} (h : (decL b).2 = 0) : Good (decL b).1 := by
  unfold decL at *
  split at h
  · split at h
    · rename_i h1 h2; exact absurd h h2
    · rename_i h1 h2; rw [if_pos h1, if_neg h2]; exact good_check (Decidable.not_not.1 h2)
  · exact absurd h (by decide)
def restR (l : List Body) (b : List Int) : List Body := if (decL b).2 = 0 then (decL b).1 else l
set_option maxRecDepth 100000 in
set_option maxHeartbeats 1000000 in
theorem worldRest_any (p : Nat) (v : Value) (b : List Int) (w : World) (F : Nat → Prop) (l : List Body) (h : StoreAt w p F l) (hb : RB w v b) :
    Calls Tryz.prog 58 #[.pointer (some ⟨p, 0, none⟩), v] w fun e w' => e = .returned (.int .i64 (decL b).2) ∧ After w w' p F (restR l b) := by
  have hp := h.lt
  have HD := Lib.hid (decode_own v b w hb)
  have HAT := Lib.hid h
  have hgd : (decL b).2 = 0 → Good (decL b).1 := restR_len
  have HGD := Lib.hid hgd
  obtain ⟨A, c, b1, o1, rfl, _, _, _, _⟩ := hb.form
  clear h hb hgd
  unfold restR
  obtain ⟨m, hm⟩ : ∃ m, m = (decL b).2 := ⟨_, rfl⟩
  obtain ⟨nl, hnl⟩ : ∃ nl, nl = (decL b).1 := ⟨_, rfl⟩
  rw [← hm, ← hnl] at HD HGD ⊢
  clear hm hnl
  by_cases hz : m = 0
  · subst hz
    rw [if_pos rfl]
    go_enter Tryz.func58, Tryz.ntmps58
    go_upto_region 5 with (go_at_call 24; refine HD.out.mono ?_; rintro e w1 ⟨v1, rfl, h1, hb1, hfr⟩; obtain ⟨g1, rfl⟩ := Grow.of hb1; have H1 := Lib.hid h1; have HFR := Lib.hid hfr; clear h1 hb1 hfr)
    have HRP := Lib.hid (replace_any p v1 nl _ _ l (HAT.out.bound.below g1.below) H1.out (fun k hk hf => by have := HFR.out k hk; omega))
    rw [repl_id (HGD.out (by trivial))] at HRP
    have lp1 : p < g1.world.heap.size := Nat.lt_of_lt_of_le hp g1.le
    go_wp2_with (go_at_call 41; refine HRP.out.mono ?_; rintro e w3 ⟨rfl, h3⟩; have H3 := Lib.hid h3; clear h3)
    go_ret
    obtain ⟨F3, h3, ha3, hf3⟩ := H3.out
    refine ⟨rfl, F3, h3, (Alter.of_below g1.below F).trans ha3 (fun _ _ h => h.1), fun k hk => ?_⟩
    rcases hf3 k hk with h | h
    · exact .inl h.1
    · exact .inr (Nat.le_trans g1.le h)
  · rw [if_neg hz]
    have hz' : (m == 0) = false := by simpa using hz
    clear HGD hz
    go_enter Tryz.func58, Tryz.ntmps58
    go_wp2_with (go_at_call 24; refine HD.out.mono ?_; rintro e w1 ⟨v1, rfl, h1, hb1, hfr⟩; obtain ⟨g1, rfl⟩ := Grow.of hb1; clear h1 hb1 hfr)
    go_ret
    exact ⟨rfl, F, HAT.out.below g1.below, Alter.of_below g1.below F, fun _ h => .inl h⟩
end Go.Proofs.YtnhaiecbjipodaaGreatDoor
/- script: the operations' functions. -/
namespace Go.Proofs.YtnhaiecbjipodaaGreatDoor
open Go.RowKit Go.Shelf Go.Proofs
attribute [local go_sem] Grow.cell Grow.froz Grow.lt lt_s1 lt_s2 lt_s3 lt_s4 lt_s5
/-- An operation's cells. -/
abbrev OpA (k : Int) (b : Body) (q x y : Int) (A : Option Addr) (n c : Nat) : Array Value :=
  #[.int .i64 k, .int .u32 b.key, .int .i32 b.radius, .int .i32 b.ax, .int .i32 b.ay, .int .i32 b.inv, .int .i32 b.bounce, .int .i32 b.px, .int .i32 b.py, .int .i32 b.vx, .int .i32 b.vy, .int .u32 q, .int .i32 x, .int .i32 y, .slice A n c]
abbrev OutA (e : Int) (A : Option Addr) (n c : Nat) (k : Int) (f : Bool) : Array Value := #[.int .i64 e, .slice A n c, .int .i64 k, .bool f]
section
variable (k : Int) (b : Body) (q x y : Int) (A : Option Addr) (n c : Nat) (w : World)
set_option maxHeartbeats 1000000 in
theorem kinds1_any : Calls Tryz.prog 53 #[.agg (OpA k b q x y A n c)] w fun e w' => e = .returned (.agg b.arr) ∧ Below w.heap.size w w' := by
  go_enter Tryz.func53, Tryz.ntmps53
  go_wp2
  refine bodyPost_ret (v := .agg b.arr) (ret_cells (w.heap.size + 1) b.arr 27 ?_ ?_) rfl ⟨rfl, (by repeat (first | with_reducible exact Below.refl _ _ | with_reducible refine bel_alloc ?_ _ | with_reducible refine bel_drewN ?_ _ | with_reducible refine bel_drew ?_ | with_reducible refine bel_grow ?_ _ | with_reducible refine bel_set ?_ (by first | omega | (simp; done) | (simp; omega)) _))⟩
  · exact CellsAt.newAt (by simp) rfl
  · intro W K
    have kk1 : W.cell? ⟨(w.heap.size + 1), 0, none⟩ = some (.int .u32 b.key) := K.at 0 rfl
    have kk2 : W.cell? ⟨(w.heap.size + 1), 1, none⟩ = some (.int .i32 b.radius) := K.at 1 rfl
    have kk3 : W.cell? ⟨(w.heap.size + 1), 2, none⟩ = some (.int .i32 b.ax) := K.at 2 rfl
    have kk4 : W.cell? ⟨(w.heap.size + 1), 3, none⟩ = some (.int .i32 b.ay) := K.at 3 rfl
    have kk5 : W.cell? ⟨(w.heap.size + 1), 4, none⟩ = some (.int .i32 b.inv) := K.at 4 rfl
    have kk6 : W.cell? ⟨(w.heap.size + 1), 5, none⟩ = some (.int .i32 b.bounce) := K.at 5 rfl
    have kk7 : W.cell? ⟨(w.heap.size + 1), 6, none⟩ = some (.int .i32 b.px) := K.at 6 rfl
    have kk8 : W.cell? ⟨(w.heap.size + 1), 7, none⟩ = some (.int .i32 b.py) := K.at 7 rfl
    have kk9 : W.cell? ⟨(w.heap.size + 1), 8, none⟩ = some (.int .i32 b.vx) := K.at 8 rfl
    have kk10 : W.cell? ⟨(w.heap.size + 1), 9, none⟩ = some (.int .i32 b.vy) := K.at 9 rfl
    simp [results, Tryz.results53, go_sem, *]
theorem kinds2_any : Calls Tryz.prog 56 #[.agg (OpA k b q x y A n c)] w fun e w' => e = .returned (.int .u32 q) ∧ Below w.heap.size w w' := by
  go_enter Tryz.func56, Tryz.ntmps56
  go_wp2
  go_ret
  exact ⟨rfl, (by repeat (first | with_reducible exact Below.refl _ _ | with_reducible refine bel_alloc ?_ _ | with_reducible refine bel_drewN ?_ _ | with_reducible refine bel_drew ?_ | with_reducible refine bel_grow ?_ _ | with_reducible refine bel_set ?_ (by first | omega | (simp; done) | (simp; omega)) _))⟩
theorem kinds3_any : Calls Tryz.prog 59 #[.agg (OpA k b q x y A n c)] w fun e w' => e = .returned (.slice A n c) ∧ Below w.heap.size w w' := by
  go_enter Tryz.func59, Tryz.ntmps59
  go_wp2
  go_ret
  exact ⟨rfl, (by repeat (first | with_reducible exact Below.refl _ _ | with_reducible refine bel_alloc ?_ _ | with_reducible refine bel_drewN ?_ _ | with_reducible refine bel_drew ?_ | with_reducible refine bel_grow ?_ _ | with_reducible refine bel_set ?_ (by first | omega | (simp; done) | (simp; omega)) _))⟩
end
theorem fail1_any (w : World) (i j : Nat) : Calls Tryz.prog 52 #[.func (.func i) #[] #[], .func (.func j) #[] #[]] w fun e w' => e = .returned (.func (.func 90) #[] #[.pointer (some ⟨w.heap.size, 0, none⟩), .pointer (some ⟨w.heap.size + 1, 0, none⟩)]) ∧ w' = (w.alloc (.cells #[.func (.func i) #[] #[]] 122)).alloc (.cells #[.func (.func j) #[] #[]] 123) := by
  go_enter Tryz.func52, Tryz.ntmps52
  go_wp2
  go_ret
  exact ⟨rfl, rfl⟩
theorem fail2_any (w : World) (i j : Nat) : Calls Tryz.prog 54 #[.func (.func i) #[] #[], .func (.func j) #[] #[]] w fun e w' => e = .returned (.func (.func 91) #[] #[.pointer (some ⟨w.heap.size, 0, none⟩), .pointer (some ⟨w.heap.size + 1, 0, none⟩)]) ∧ w' = (w.alloc (.cells #[.func (.func i) #[] #[]] 125)).alloc (.cells #[.func (.func j) #[] #[]] 127) := by
  go_enter Tryz.func54, Tryz.ntmps54
  go_wp2
  go_ret
  exact ⟨rfl, rfl⟩
theorem fail3_any (w : World) (i j : Nat) : Calls Tryz.prog 57 #[.func (.func i) #[] #[], .func (.func j) #[] #[]] w fun e w' => e = .returned (.func (.func 93) #[] #[.pointer (some ⟨w.heap.size, 0, none⟩), .pointer (some ⟨w.heap.size + 1, 0, none⟩)]) ∧ w' = (w.alloc (.cells #[.func (.func i) #[] #[]] 129)).alloc (.cells #[.func (.func j) #[] #[]] 131) := by
  go_enter Tryz.func57, Tryz.ntmps57
  go_wp2
  go_ret
  exact ⟨rfl, rfl⟩
theorem After.past {w w1 w3 w4 : World} {p : Nat} {F G S : Nat → Prop} {l : List Body} (h : After w1 w3 p G l) (hb : Below w.heap.size w w1) (hG : ∀ k, G k → F k ∧ k < w.heap.size) (ha : Alter S w3 w4) (hS : ∀ k, S k → w.heap.size ≤ k ∧ k < w1.heap.size) : After w w4 p F l := by
  obtain ⟨F3, ⟨v, m, h3⟩, ha3, hf3⟩ := h
  have hz := hb.size
  refine ⟨F3, ⟨v, m, h3.alter ha fun k hk hs => ?_⟩, ((Alter.of_below hb F).trans ha3 (fun k _ h => (hG k h).1)).trans ha (fun k hk hs => absurd (hS k hs).1 (by omega)), fun k hk => ?_⟩
  · have := hS k hs
    rcases hf3 k hk with h | h
    · have := hG k h; omega
    · omega
  · rcases hf3 k hk with h | h
    · exact .inl (hG k h).1
    · right; omega
theorem After.of_same {w w' : World} {p : Nat} {F : Nat → Prop} {l : List Body} (h : StoreAt w' p F l) (ha : Alter F w w') : After w w' p F l := ⟨F, h, ha, fun _ h => .inl h⟩
theorem worldImp_any (p : Nat) (k x y : Int) (w : World) (F : Nat → Prop) (l : List Body) (h : StoreAt w p F l) (hs : SaneL l) (hx : I32 x) (hy : I32 y) :
    Calls Tryz.prog 61 #[.pointer (some ⟨p, 0, none⟩), .int .u32 k, .agg #[.int .i32 x, .int .i32 y]] w fun e w' => e = .returned (.int .i64 (getE l k)) ∧ After w w' p F (impR l k x y) := by
  unfold getE impR
  cases hi : idx l k with
  | none =>
    refine (impulse_none p k x y w F l h hi).mono ?_
    rintro e w' ⟨rfl, hb⟩
    exact ⟨rfl, .of_same (h.below hb) (Alter.of_below hb F)⟩
  | some i =>
    refine (impulse_hit p k x y w F l h (fun b hb => (hs b hb).1) hx.1 hx.2 hy.1 hy.2 i hi).mono ?_
    rintro e w' ⟨rfl, h1, h2⟩
    exact ⟨rfl, .of_same h1 h2⟩
theorem worldRem_a (p : Nat) (k : Int) (w : World) (F : Nat → Prop) (l : List Body) (h : StoreAt w p F l) :
    Calls Tryz.prog 55 #[.pointer (some ⟨p, 0, none⟩), .int .u32 k] w fun e w' => e = .returned (.int .i64 (getE l k)) ∧ After w w' p F (remR l k) :=
  (worldRem_any p k w F l h).mono fun _ _ ⟨h1, h2, h3⟩ => ⟨h1, .of_same h2 h3⟩
theorem worldAdd_f (p : Nat) (b : Body) (w : World) (F : Nat → Prop) (l : List Body) (h : StoreAt w p F l) :
    Calls Tryz.prog 15 #[.pointer (some ⟨p, 0, none⟩), .agg b.arr] w fun e w' => e = .returned (.int .i64 (addE l b)) ∧ After w w' p F (addR l b) := worldAdd_any p b w F l h
theorem After.alter {w w' : World} {p : Nat} {F : Nat → Prop} {l : List Body} (h : After w w' p F l) : Alter F w w' := by obtain ⟨_, _, h, _⟩ := h; exact h
section
variable (k : Int) (b : Body) (q x y : Int) (A : Option Addr) (n c : Nat) (w : World)
/-- The closure that adds. -/
theorem doAdd_any (p a1 a2 : Nat) (F : Nat → Prop) (l : List Body) (h : StoreAt w p F l) (h1 : CellsAt w a1 #[.func (.func 15) #[] #[]] 122) (h2 : CellsAt w a2 #[.func (.func 53) #[] #[]] 123) :
    Calls Tryz.prog 90 #[.pointer (some ⟨p, 0, none⟩), .agg (OpA k b q x y A n c), .pointer (some ⟨a1, 0, none⟩), .pointer (some ⟨a2, 0, none⟩)] w fun e w' => e = .returned (.agg (OutA (addE l b) none 0 0 0 false)) ∧ After w w' p F (addR l b) := by
  have hp := h.lt
  have l1 := h1.lt
  have c1 : w.cell? ⟨a1, 0, none⟩ = some (.func (.func 15) #[] #[]) := h1.at 0 rfl
  have l2 := h2.lt
  have c2 : w.cell? ⟨a2, 0, none⟩ = some (.func (.func 53) #[] #[]) := h2.at 0 rfl
  have HA := fun W (hb : Below w.heap.size w W) => worldAdd_f p b W _ l (h.bound.below hb)
  obtain ⟨m, hm⟩ : ∃ m, m = addE l b := ⟨_, rfl⟩
  obtain ⟨nl, hnl⟩ : ∃ nl, nl = addR l b := ⟨_, rfl⟩
  rw [← hm, ← hnl] at HA ⊢
  have HA := Lib.hid HA
  clear h hm hnl h1 h2
  go_enter Tryz.func90, Tryz.ntmps90
  go_upto_region 1 with fail
  refine wp_region_grow_tail 5 (by kernel_rfl) (by kernel_rfl) ?_
  simp only [List.take_succ_cons, List.take_zero]
  repeat (first | go_big_quiet_skip | (go_big_quiet_want; go_big_quiet_op; first | go_big_quiet_on | (go_big_quiet_call (first
      | (go_at_call 53; exact Calls.grow_of (kinds1_any k b q x y A n c _))))))
  refine wpQuiet_nil ?_
  rintro _ ⟨g1, rfl⟩
  simp only [List.drop_succ_cons, List.drop_zero]
  have hb1 : Below w.heap.size w g1.world := (by repeat (first | with_reducible exact Below.refl _ _ | with_reducible refine bel_alloc ?_ _ | with_reducible refine bel_drewN ?_ _ | with_reducible refine bel_drew ?_ | with_reducible refine bel_grow ?_ _ | with_reducible refine bel_set ?_ (by first | omega | (simp; done) | (simp; omega)) _))
  have KR : CellsAt g1.world (w.heap.size + 1) (OutA 0 none 0 0 0 false) 42 := (by repeat (first | with_reducible exact CellsAt.newAt (by first | rfl | (simp; done) | omega) rfl | with_reducible refine CellsAt.alloc ?_ _ | with_reducible refine CellsAt.drewN ?_ _ | with_reducible refine CellsAt.drew ?_ | with_reducible refine CellsAt.grow ?_ _ | with_reducible refine CellsAt.far ?_ (by first | omega | (simp; done) | (simp; omega)) _))
  have HB1 := Lib.hid hb1
  have HKR := Lib.hid KR
  have lp1 : p < g1.world.heap.size := Nat.lt_of_lt_of_le hp hb1.size
  clear hb1 KR
  go_wp2_with (go_at_call 15; refine (HA.out _ HB1.out).mono ?_; rintro e w3 ⟨rfl, h3⟩; have KR := HKR.out.alter h3.alter (by simp); have fz : ∀ o, w3.frozen? ⟨w.heap.size + 1, o, none⟩ = false := fun o => KR.froz o; have lR := KR.lt; have H3 := Lib.hid h3; clear h3; have kk0 : w3.cell? ⟨w.heap.size + 1, 0, none⟩ = some (.int .i64 0) := KR.at 0 rfl; have kk1 : w3.cell? ⟨w.heap.size + 1, 1, none⟩ = some (.slice none 0 0) := KR.at 1 rfl; have kk2 : w3.cell? ⟨w.heap.size + 1, 2, none⟩ = some (.int .i64 0) := KR.at 2 rfl; have kk3 : w3.cell? ⟨w.heap.size + 1, 3, none⟩ = some (.bool false) := KR.at 3 rfl)
  refine bodyPost_ret (v := .agg (OutA m none 0 0 0 false)) (ret_cells (w.heap.size + 1) (OutA m none 0 0 0 false) 42 ?_ ?_) rfl ⟨rfl, ?_⟩
  · exact ((((KR.set 0 _).set 1 _).set 2 _).set 3 _).eq (by simp)
  · intro W K
    have kk11 : W.cell? ⟨(w.heap.size + 1), 0, none⟩ = some (.int .i64 m) := K.at 0 rfl
    have kk12 : W.cell? ⟨(w.heap.size + 1), 1, none⟩ = some (.slice none 0 0) := K.at 1 rfl
    have kk13 : W.cell? ⟨(w.heap.size + 1), 2, none⟩ = some (.int .i64 0) := K.at 2 rfl
    have kk14 : W.cell? ⟨(w.heap.size + 1), 3, none⟩ = some (.bool false) := K.at 3 rfl
    simp [results, Tryz.results90, go_sem, *]
  · exact H3.out.past HB1.out (fun _ h => h) (S := fun k => k = w.heap.size + 1) (alter_set (S := fun k => k = w.heap.size + 1) (alter_set (S := fun k => k = w.heap.size + 1) (alter_set (S := fun k => k = w.heap.size + 1) (alter_set (S := fun k => k = w.heap.size + 1) (Alter.refl _ _) (.inl rfl) _) (.inl rfl) _) (.inl rfl) _) (.inl rfl) _) (fun k hk => by have := HKR.out.lt; omega)
/-- The closure that removes. -/
theorem doRem_any (p a1 a2 : Nat) (F : Nat → Prop) (l : List Body) (h : StoreAt w p F l) (h1 : CellsAt w a1 #[.func (.func 55) #[] #[]] 125) (h2 : CellsAt w a2 #[.func (.func 56) #[] #[]] 127) :
    Calls Tryz.prog 91 #[.pointer (some ⟨p, 0, none⟩), .agg (OpA k b q x y A n c), .pointer (some ⟨a1, 0, none⟩), .pointer (some ⟨a2, 0, none⟩)] w fun e w' => e = .returned (.agg (OutA (getE l q) none 0 0 0 false)) ∧ After w w' p F (remR l q) := by
  have hp := h.lt
  have l1 := h1.lt
  have c1 : w.cell? ⟨a1, 0, none⟩ = some (.func (.func 55) #[] #[]) := h1.at 0 rfl
  have l2 := h2.lt
  have c2 : w.cell? ⟨a2, 0, none⟩ = some (.func (.func 56) #[] #[]) := h2.at 0 rfl
  have HA := fun W (hb : Below w.heap.size w W) => worldRem_a p q W _ l (h.bound.below hb)
  obtain ⟨m, hm⟩ : ∃ m, m = getE l q := ⟨_, rfl⟩
  obtain ⟨nl, hnl⟩ : ∃ nl, nl = remR l q := ⟨_, rfl⟩
  rw [← hm, ← hnl] at HA ⊢
  have HA := Lib.hid HA
  clear h hm hnl h1 h2
  go_enter Tryz.func91, Tryz.ntmps91
  go_upto_region 1 with fail
  refine wp_region_grow_tail 5 (by kernel_rfl) (by kernel_rfl) ?_
  simp only [List.take_succ_cons, List.take_zero]
  repeat (first | go_big_quiet_skip | (go_big_quiet_want; go_big_quiet_op; first | go_big_quiet_on | (go_big_quiet_call (first
      | (go_at_call 56; exact Calls.grow_of (kinds2_any k b q x y A n c _))))))
  refine wpQuiet_nil ?_
  rintro _ ⟨g1, rfl⟩
  simp only [List.drop_succ_cons, List.drop_zero]
  have hb1 : Below w.heap.size w g1.world := (by repeat (first | with_reducible exact Below.refl _ _ | with_reducible refine bel_alloc ?_ _ | with_reducible refine bel_drewN ?_ _ | with_reducible refine bel_drew ?_ | with_reducible refine bel_grow ?_ _ | with_reducible refine bel_set ?_ (by first | omega | (simp; done) | (simp; omega)) _))
  have KR : CellsAt g1.world (w.heap.size + 1) (OutA 0 none 0 0 0 false) 42 := (by repeat (first | with_reducible exact CellsAt.newAt (by first | rfl | (simp; done) | omega) rfl | with_reducible refine CellsAt.alloc ?_ _ | with_reducible refine CellsAt.drewN ?_ _ | with_reducible refine CellsAt.drew ?_ | with_reducible refine CellsAt.grow ?_ _ | with_reducible refine CellsAt.far ?_ (by first | omega | (simp; done) | (simp; omega)) _))
  have HB1 := Lib.hid hb1
  have HKR := Lib.hid KR
  have lp1 : p < g1.world.heap.size := Nat.lt_of_lt_of_le hp hb1.size
  clear hb1 KR
  go_wp2_with (go_at_call 55; refine (HA.out _ HB1.out).mono ?_; rintro e w3 ⟨rfl, h3⟩; have KR := HKR.out.alter h3.alter (by simp); have fz : ∀ o, w3.frozen? ⟨w.heap.size + 1, o, none⟩ = false := fun o => KR.froz o; have lR := KR.lt; have H3 := Lib.hid h3; clear h3; have kk0 : w3.cell? ⟨w.heap.size + 1, 0, none⟩ = some (.int .i64 0) := KR.at 0 rfl; have kk1 : w3.cell? ⟨w.heap.size + 1, 1, none⟩ = some (.slice none 0 0) := KR.at 1 rfl; have kk2 : w3.cell? ⟨w.heap.size + 1, 2, none⟩ = some (.int .i64 0) := KR.at 2 rfl; have kk3 : w3.cell? ⟨w.heap.size + 1, 3, none⟩ = some (.bool false) := KR.at 3 rfl)
  refine bodyPost_ret (v := .agg (OutA m none 0 0 0 false)) (ret_cells (w.heap.size + 1) (OutA m none 0 0 0 false) 42 ?_ ?_) rfl ⟨rfl, ?_⟩
  · exact ((((KR.set 0 _).set 1 _).set 2 _).set 3 _).eq (by simp)
  · intro W K
    have kk15 : W.cell? ⟨(w.heap.size + 1), 0, none⟩ = some (.int .i64 m) := K.at 0 rfl
    have kk16 : W.cell? ⟨(w.heap.size + 1), 1, none⟩ = some (.slice none 0 0) := K.at 1 rfl
    have kk17 : W.cell? ⟨(w.heap.size + 1), 2, none⟩ = some (.int .i64 0) := K.at 2 rfl
    have kk18 : W.cell? ⟨(w.heap.size + 1), 3, none⟩ = some (.bool false) := K.at 3 rfl
    simp [results, Tryz.results91, go_sem, *]
  · exact H3.out.past HB1.out (fun _ h => h) (S := fun k => k = w.heap.size + 1) (alter_set (S := fun k => k = w.heap.size + 1) (alter_set (S := fun k => k = w.heap.size + 1) (alter_set (S := fun k => k = w.heap.size + 1) (alter_set (S := fun k => k = w.heap.size + 1) (Alter.refl _ _) (.inl rfl) _) (.inl rfl) _) (.inl rfl) _) (.inl rfl) _) (fun k hk => by have := HKR.out.lt; omega)
/-- The closure that restores. -/
theorem doRest_any (p a1 a2 : Nat) (F : Nat → Prop) (l : List Body) (h : StoreAt w p F l) (bs : List Int) (hr : RB w (.slice A n c) bs) (h1 : CellsAt w a1 #[.func (.func 58) #[] #[]] 129) (h2 : CellsAt w a2 #[.func (.func 59) #[] #[]] 131) :
    Calls Tryz.prog 93 #[.pointer (some ⟨p, 0, none⟩), .agg (OpA k b q x y A n c), .pointer (some ⟨a1, 0, none⟩), .pointer (some ⟨a2, 0, none⟩)] w fun e w' => e = .returned (.agg (OutA ((decL bs).2) none 0 0 0 false)) ∧ After w w' p F (restR l bs) := by
  have hp := h.lt
  have l1 := h1.lt
  have c1 : w.cell? ⟨a1, 0, none⟩ = some (.func (.func 58) #[] #[]) := h1.at 0 rfl
  have l2 := h2.lt
  have c2 : w.cell? ⟨a2, 0, none⟩ = some (.func (.func 59) #[] #[]) := h2.at 0 rfl
  have HA := fun W (hb : Below w.heap.size w W) => worldRest_any p (.slice A n c) bs W _ l (h.bound.below hb) (hr.below (hb.mono (by omega)))
  obtain ⟨m, hm⟩ : ∃ m, m = (decL bs).2 := ⟨_, rfl⟩
  obtain ⟨nl, hnl⟩ : ∃ nl, nl = restR l bs := ⟨_, rfl⟩
  rw [← hm, ← hnl] at HA ⊢
  have HA := Lib.hid HA
  clear h hm hnl h1 h2
  go_enter Tryz.func93, Tryz.ntmps93
  go_upto_region 1 with fail
  refine wp_region_grow_tail 5 (by kernel_rfl) (by kernel_rfl) ?_
  simp only [List.take_succ_cons, List.take_zero]
  repeat (first | go_big_quiet_skip | (go_big_quiet_want; go_big_quiet_op; first | go_big_quiet_on | (go_big_quiet_call (first
      | (go_at_call 59; exact Calls.grow_of (kinds3_any k b q x y A n c _))))))
  refine wpQuiet_nil ?_
  rintro _ ⟨g1, rfl⟩
  simp only [List.drop_succ_cons, List.drop_zero]
  have hb1 : Below w.heap.size w g1.world := (by repeat (first | with_reducible exact Below.refl _ _ | with_reducible refine bel_alloc ?_ _ | with_reducible refine bel_drewN ?_ _ | with_reducible refine bel_drew ?_ | with_reducible refine bel_grow ?_ _ | with_reducible refine bel_set ?_ (by first | omega | (simp; done) | (simp; omega)) _))
  have KR : CellsAt g1.world (w.heap.size + 1) (OutA 0 none 0 0 0 false) 42 := (by repeat (first | with_reducible exact CellsAt.newAt (by first | rfl | (simp; done) | omega) rfl | with_reducible refine CellsAt.alloc ?_ _ | with_reducible refine CellsAt.drewN ?_ _ | with_reducible refine CellsAt.drew ?_ | with_reducible refine CellsAt.grow ?_ _ | with_reducible refine CellsAt.far ?_ (by first | omega | (simp; done) | (simp; omega)) _))
  have HB1 := Lib.hid hb1
  have HKR := Lib.hid KR
  have lp1 : p < g1.world.heap.size := Nat.lt_of_lt_of_le hp hb1.size
  clear hb1 KR
  go_wp2_with (go_at_call 58; refine (HA.out _ HB1.out).mono ?_; rintro e w3 ⟨rfl, h3⟩; have KR := HKR.out.alter h3.alter (by simp); have fz : ∀ o, w3.frozen? ⟨w.heap.size + 1, o, none⟩ = false := fun o => KR.froz o; have lR := KR.lt; have H3 := Lib.hid h3; clear h3; have kk0 : w3.cell? ⟨w.heap.size + 1, 0, none⟩ = some (.int .i64 0) := KR.at 0 rfl; have kk1 : w3.cell? ⟨w.heap.size + 1, 1, none⟩ = some (.slice none 0 0) := KR.at 1 rfl; have kk2 : w3.cell? ⟨w.heap.size + 1, 2, none⟩ = some (.int .i64 0) := KR.at 2 rfl; have kk3 : w3.cell? ⟨w.heap.size + 1, 3, none⟩ = some (.bool false) := KR.at 3 rfl)
  refine bodyPost_ret (v := .agg (OutA m none 0 0 0 false)) (ret_cells (w.heap.size + 1) (OutA m none 0 0 0 false) 42 ?_ ?_) rfl ⟨rfl, ?_⟩
  · exact ((((KR.set 0 _).set 1 _).set 2 _).set 3 _).eq (by simp)
  · intro W K
    have kk19 : W.cell? ⟨(w.heap.size + 1), 0, none⟩ = some (.int .i64 m) := K.at 0 rfl
    have kk20 : W.cell? ⟨(w.heap.size + 1), 1, none⟩ = some (.slice none 0 0) := K.at 1 rfl
    have kk21 : W.cell? ⟨(w.heap.size + 1), 2, none⟩ = some (.int .i64 0) := K.at 2 rfl
    have kk22 : W.cell? ⟨(w.heap.size + 1), 3, none⟩ = some (.bool false) := K.at 3 rfl
    simp [results, Tryz.results93, go_sem, *]
  · exact H3.out.past HB1.out (fun _ h => h) (S := fun k => k = w.heap.size + 1) (alter_set (S := fun k => k = w.heap.size + 1) (alter_set (S := fun k => k = w.heap.size + 1) (alter_set (S := fun k => k = w.heap.size + 1) (alter_set (S := fun k => k = w.heap.size + 1) (Alter.refl _ _) (.inl rfl) _) (.inl rfl) _) (.inl rfl) _) (.inl rfl) _) (fun k hk => by have := HKR.out.lt; omega)
end
end Go.Proofs.YtnhaiecbjipodaaGreatDoor
/- script: impulse, step, snapshot. -/
namespace Go.Proofs.YtnhaiecbjipodaaGreatDoor
open Go.RowKit Go.Shelf Go.Proofs
attribute [local go_sem] Grow.cell Grow.froz Grow.lt lt_s1 lt_s2 lt_s3 lt_s4 lt_s5
theorem shapeOB {w : World} {base : Nat} {v : Value} {l : List Int} (h : OB w base v l) : ∃ A n c, v = .slice A n c := by
  obtain ⟨A, c, h⟩ := h.2.form
  exact ⟨A, _, c, h⟩
section
variable (k : Int) (b : Body) (q x y : Int) (A : Option Addr) (n c : Nat) (w : World)
set_option maxHeartbeats 1000000 in
theorem doImp_any (p : Nat) (F : Nat → Prop) (l : List Body) (h : StoreAt w p F l) (hs : SaneL l) (hx : I32 x) (hy : I32 y) :
    Calls Tryz.prog 60 #[.pointer (some ⟨p, 0, none⟩), .agg (OpA k b q x y A n c)] w fun e w' => e = .returned (.agg (OutA (getE l q) none 0 0 0 false)) ∧ After w w' p F (impR l q x y) := by
  have hp := h.lt
  have HA := fun W (hb : Below w.heap.size w W) => worldImp_any p q x y W _ l (h.bound.below hb) hs hx hy
  obtain ⟨m, hm⟩ : ∃ m, m = getE l q := ⟨_, rfl⟩
  obtain ⟨nl, hnl⟩ : ∃ nl, nl = impR l q x y := ⟨_, rfl⟩
  rw [← hm, ← hnl] at HA ⊢
  have hb1 : Below w.heap.size w ((w.alloc (.cells (OpA k b q x y A n c) 44)).alloc (.cells (OutA 0 none 0 0 0 false) 42)) := (by repeat (first | with_reducible exact Below.refl _ _ | with_reducible refine bel_alloc ?_ _ | with_reducible refine bel_drewN ?_ _ | with_reducible refine bel_drew ?_ | with_reducible refine bel_grow ?_ _ | with_reducible refine bel_set ?_ (by first | omega | (simp; done) | (simp; omega)) _))
  have KR : CellsAt ((w.alloc (.cells (OpA k b q x y A n c) 44)).alloc (.cells (OutA 0 none 0 0 0 false) 42)) (w.heap.size + 1) (OutA 0 none 0 0 0 false) 42 := CellsAt.newAt (by simp) rfl
  have HA := Lib.hid HA
  have HB1 := Lib.hid hb1
  have HKR := Lib.hid KR
  clear h hm hnl hs hx hy hb1 KR
  go_enter Tryz.func60, Tryz.ntmps60
  go_wp2_with (go_at_call 61; refine (HA.out _ HB1.out).mono ?_; rintro e w3 ⟨rfl, h3⟩; have KR := HKR.out.alter h3.alter (by simp); have fz : ∀ o, w3.frozen? ⟨w.heap.size + 1, o, none⟩ = false := fun o => KR.froz o; have lR := KR.lt; have H3 := Lib.hid h3; clear h3; have kk0 : w3.cell? ⟨w.heap.size + 1, 0, none⟩ = some (.int .i64 0) := KR.at 0 rfl; have kk1 : w3.cell? ⟨w.heap.size + 1, 1, none⟩ = some (.slice none 0 0) := KR.at 1 rfl; have kk2 : w3.cell? ⟨w.heap.size + 1, 2, none⟩ = some (.int .i64 0) := KR.at 2 rfl; have kk3 : w3.cell? ⟨w.heap.size + 1, 3, none⟩ = some (.bool false) := KR.at 3 rfl)
  refine bodyPost_ret (v := .agg (OutA m none 0 0 0 false)) (ret_cells (w.heap.size + 1) (OutA m none 0 0 0 false) 42 ?_ ?_) rfl ⟨rfl, ?_⟩
  · exact ((((KR.set 0 _).set 1 _).set 2 _).set 3 _).eq (by simp)
  · intro W K
    have kk1 : W.cell? ⟨(w.heap.size + 1), 0, none⟩ = some (.int .i64 m) := K.at 0 rfl
    have kk2 : W.cell? ⟨(w.heap.size + 1), 1, none⟩ = some (.slice none 0 0) := K.at 1 rfl
    have kk3 : W.cell? ⟨(w.heap.size + 1), 2, none⟩ = some (.int .i64 0) := K.at 2 rfl
    have kk4 : W.cell? ⟨(w.heap.size + 1), 3, none⟩ = some (.bool false) := K.at 3 rfl
    simp [results, Tryz.results60, go_sem, *]
  · exact H3.out.past HB1.out (fun _ h => h) (S := fun k => k = w.heap.size + 1) (alter_set (S := fun k => k = w.heap.size + 1) (alter_set (S := fun k => k = w.heap.size + 1) (alter_set (S := fun k => k = w.heap.size + 1) (alter_set (S := fun k => k = w.heap.size + 1) (Alter.refl _ _) (.inl rfl) _) (.inl rfl) _) (.inl rfl) _) (.inl rfl) _) (fun k hk => by have := HKR.out.lt; omega)
set_option maxHeartbeats 1000000 in
theorem doSnap_any (p : Nat) (F : Nat → Prop) (l : List Body) (h : StoreAt w p F l) (hs : SaneL l) :
    Calls Tryz.prog 63 #[.pointer (some ⟨p, 0, none⟩), .agg (OpA k b q x y A n c)] w fun e w' => ∃ A' n' c', e = .returned (.agg (OutA 0 A' n' c' 0 false)) ∧ OB w' w.heap.size (.slice A' n' c') (bytesL (sortB l)) ∧ After w w' p F l := by
  have hp := h.lt
  have HA := fun W (hb : Below w.heap.size w W) => worldSnap_any p W _ l (h.bound.below hb) hs
  obtain ⟨bs, hbs⟩ : ∃ bs, bs = bytesL (sortB l) := ⟨_, rfl⟩
  rw [← hbs] at HA ⊢
  have hb1 : Below w.heap.size w ((w.alloc (.cells (OpA k b q x y A n c) 44)).alloc (.cells (OutA 0 none 0 0 0 false) 42)) := (by repeat (first | with_reducible exact Below.refl _ _ | with_reducible refine bel_alloc ?_ _ | with_reducible refine bel_drewN ?_ _ | with_reducible refine bel_drew ?_ | with_reducible refine bel_grow ?_ _ | with_reducible refine bel_set ?_ (by first | omega | (simp; done) | (simp; omega)) _))
  have KR : CellsAt ((w.alloc (.cells (OpA k b q x y A n c) 44)).alloc (.cells (OutA 0 none 0 0 0 false) 42)) (w.heap.size + 1) (OutA 0 none 0 0 0 false) 42 := CellsAt.newAt (by simp) rfl
  have HA := Lib.hid HA
  have HB1 := Lib.hid hb1
  have HKR := Lib.hid KR
  have HAT := Lib.hid h
  clear h hbs hs hb1 KR
  go_enter Tryz.func63, Tryz.ntmps63
  go_wp2_with (go_at_call 10; refine (HA.out _ HB1.out).mono ?_; rintro e w3 ⟨v3, rfl, h3, hb3⟩; obtain ⟨A3, n3, c3, rfl⟩ := shapeOB h3; have KR := HKR.out.below hb3 HKR.out.lt; have fz : ∀ o, w3.frozen? ⟨w.heap.size + 1, o, none⟩ = false := fun o => KR.froz o; have lR := KR.lt; have H3 := Lib.hid h3; have HB3 := Lib.hid hb3; clear h3 hb3; have kk0 : w3.cell? ⟨w.heap.size + 1, 0, none⟩ = some (.int .i64 0) := KR.at 0 rfl; have kk1 : w3.cell? ⟨w.heap.size + 1, 1, none⟩ = some (.slice none 0 0) := KR.at 1 rfl; have kk2 : w3.cell? ⟨w.heap.size + 1, 2, none⟩ = some (.int .i64 0) := KR.at 2 rfl; have kk3 : w3.cell? ⟨w.heap.size + 1, 3, none⟩ = some (.bool false) := KR.at 3 rfl)
  refine bodyPost_ret (v := .agg (OutA 0 A3 n3 c3 0 false)) (ret_cells (w.heap.size + 1) (OutA 0 A3 n3 c3 0 false) 42 ?_ ?_) rfl ⟨A3, n3, c3, rfl, ?_, ?_⟩
  · exact ((((KR.set 0 _).set 1 _).set 2 _).set 3 _).eq (by simp)
  · intro W K
    have kk5 : W.cell? ⟨(w.heap.size + 1), 0, none⟩ = some (.int .i64 0) := K.at 0 rfl
    have kk6 : W.cell? ⟨(w.heap.size + 1), 1, none⟩ = some (.slice A3 n3 c3) := K.at 1 rfl
    have kk7 : W.cell? ⟨(w.heap.size + 1), 2, none⟩ = some (.int .i64 0) := K.at 2 rfl
    have kk8 : W.cell? ⟨(w.heap.size + 1), 3, none⟩ = some (.bool false) := K.at 3 rfl
    simp [results, Tryz.results63, go_sem, *]
  · have hz := HB1.out.size
    refine ⟨H3.out.1, own_base (own_block H3.out.2 fun j hj hjl => ?_) hz⟩
    refine (alter_set (S := fun k => k = w.heap.size + 1) (alter_set (S := fun k => k = w.heap.size + 1) (alter_set (S := fun k => k = w.heap.size + 1) (alter_set (S := fun k => k = w.heap.size + 1) (Alter.refl _ _) (.inl rfl) _) (.inl rfl) _) (.inl rfl) _) (.inl rfl) _).block j hjl (fun e => ?_)
    have := H3.out.2.base_le j hj
    have := HKR.out.lt
    omega
  · have hb := HB1.out.trans (HB3.out.mono HB1.out.size)
    have hb4 : Below w.heap.size w ((((w3.setCell ⟨w.heap.size + 1, 0, none⟩ (.int .i64 0)).setCell ⟨w.heap.size + 1, 1, none⟩ (.slice A3 n3 c3)).setCell ⟨w.heap.size + 1, 2, none⟩ (.int .i64 0)).setCell ⟨w.heap.size + 1, 3, none⟩ (.bool false)) := bel_set (bel_set (bel_set (bel_set hb (by omega) _) (by omega) _) (by omega) _) (by omega) _
    exact .of_same (HAT.out.below hb4) (Alter.of_below hb4 F)
set_option maxHeartbeats 1000000 in
theorem doStep_any (p : Nat) (F : Nat → Prop) (l : List Body) (h : StoreAt w p F l) (hs : SaneL l) (hg : Glob w) :
    Calls Tryz.prog 62 #[.pointer (some ⟨p, 0, none⟩), .agg (OpA k b q x y A n c)] w fun e w' => e = .returned (.agg (OutA 0 none 0 0 (((contactsL (sortB l)).length : Nat) : Int) (flag3 (sortB l)))) ∧ After w w' p F (stepL (sortB l)) := by
  have hp := h.lt
  have HA := fun W (hb : Below w.heap.size w W) => worldStep_any p W _ l (h.bound.below hb) hs (hg.below hb)
  obtain ⟨tt, htt⟩ : ∃ tt : Int, tt = (((candL (sortB l)).length : Nat) : Int) := ⟨_, rfl⟩
  obtain ⟨nn, hnn⟩ : ∃ nn : Int, nn = (((contactsL (sortB l)).length : Nat) : Int) := ⟨_, rfl⟩
  obtain ⟨ff, hff⟩ : ∃ ff, ff = flag3 (sortB l) := ⟨_, rfl⟩
  obtain ⟨nl, hnl⟩ : ∃ nl, nl = stepL (sortB l) := ⟨_, rfl⟩
  rw [← htt, ← hnn, ← hff, ← hnl] at HA
  rw [← hnn, ← hff, ← hnl]
  have hb1 : Below w.heap.size w ((w.alloc (.cells (OpA k b q x y A n c) 44)).alloc (.cells (OutA 0 none 0 0 0 false) 42)) := (by repeat (first | with_reducible exact Below.refl _ _ | with_reducible refine bel_alloc ?_ _ | with_reducible refine bel_drewN ?_ _ | with_reducible refine bel_drew ?_ | with_reducible refine bel_grow ?_ _ | with_reducible refine bel_set ?_ (by first | omega | (simp; done) | (simp; omega)) _))
  have KR : CellsAt ((w.alloc (.cells (OpA k b q x y A n c) 44)).alloc (.cells (OutA 0 none 0 0 0 false) 42)) (w.heap.size + 1) (OutA 0 none 0 0 0 false) 42 := CellsAt.newAt (by simp) rfl
  have HA := Lib.hid HA
  have HB1 := Lib.hid hb1
  have HKR := Lib.hid KR
  clear h htt hnn hff hnl hs hg hb1 KR
  go_enter Tryz.func62, Tryz.ntmps62
  go_wp2_with (go_at_call 23; refine (HA.out _ HB1.out).mono ?_; rintro e w3 ⟨rfl, h3⟩; have KR := HKR.out.alter h3.alter (by simp); have fz : ∀ o, w3.frozen? ⟨w.heap.size + 1, o, none⟩ = false := fun o => KR.froz o; have lR := KR.lt; have H3 := Lib.hid h3; clear h3; have kk0 : w3.cell? ⟨w.heap.size + 1, 0, none⟩ = some (.int .i64 0) := KR.at 0 rfl; have kk1 : w3.cell? ⟨w.heap.size + 1, 1, none⟩ = some (.slice none 0 0) := KR.at 1 rfl; have kk2 : w3.cell? ⟨w.heap.size + 1, 2, none⟩ = some (.int .i64 0) := KR.at 2 rfl; have kk3 : w3.cell? ⟨w.heap.size + 1, 3, none⟩ = some (.bool false) := KR.at 3 rfl)
  refine bodyPost_ret (v := .agg (OutA 0 none 0 0 nn ff)) (ret_cells (w.heap.size + 1) (OutA 0 none 0 0 nn ff) 42 ?_ ?_) rfl ⟨rfl, ?_⟩
  · exact (((((KR.set 0 _).set 1 _).set 2 _).set 3 _).eq (by simp)).alloc _
  · intro W K
    have kk9 : W.cell? ⟨(w.heap.size + 1), 0, none⟩ = some (.int .i64 0) := K.at 0 rfl
    have kk10 : W.cell? ⟨(w.heap.size + 1), 1, none⟩ = some (.slice none 0 0) := K.at 1 rfl
    have kk11 : W.cell? ⟨(w.heap.size + 1), 2, none⟩ = some (.int .i64 nn) := K.at 2 rfl
    have kk12 : W.cell? ⟨(w.heap.size + 1), 3, none⟩ = some (.bool ff) := K.at 3 rfl
    simp [results, Tryz.results62, go_sem, *]
  · exact H3.out.past HB1.out (fun _ h => h) (S := fun k => k = w.heap.size + 1) (alter_alloc (alter_set (S := fun k => k = w.heap.size + 1) (alter_set (S := fun k => k = w.heap.size + 1) (alter_set (S := fun k => k = w.heap.size + 1) (alter_set (S := fun k => k = w.heap.size + 1) (Alter.refl _ _) (.inl rfl) _) (.inl rfl) _) (.inl rfl) _) (.inl rfl) _) _) (fun k hk => by have := HKR.out.lt; omega)
end
end Go.Proofs.YtnhaiecbjipodaaGreatDoor
/- script: the map of the kinds. -/
namespace Go.Proofs.YtnhaiecbjipodaaGreatDoor
open Go.RowKit Go.Shelf Go.Proofs Go.MapKept
attribute [local go_sem] Grow.cell Grow.froz Grow.lt lt_s1 lt_s2 lt_s3 lt_s4 lt_s5
section
variable {P : Program} {kt : TypeId} {κ : Type} [DecidableEq κ] {K : MKey P kt κ}
theorem wpList_insert {ops : Array Oper} {rest : List Oper} {o : Oper} {a : Act} {Q : Exit → Act → World → Prop} {w : World} (hg : o.guard = none) (m x y : Operand) (t e : TypeId) (hop : o.op = Op.insert t m x y)
    (ht : P.underlying t = some (.map kt e)) (b : Nat) (l : List (κ × Value)) (k : κ) (v : Value) (hm : a.eval m = .map (some b)) (hk : a.eval x = K.kv k) (hv : a.eval y = v) (h : MapAt K w b l)
    (hK : ∀ w', MapAt K w' b (putM l k v) → w.grownBy w' (some b) → w'.heap.size = w.heap.size → wpList P ops Q rest (a.put o.dst undef) w') : wpList P ops Q (o :: rest) a w := by
  refine wpList_plain hg fun K' hK' => ?_
  obtain ⟨w', hr, h1, h2, h3⟩ := run_mapUpdate (K := K) h ht k v
  unfold Oper.wp
  simp [execOp, hop, hm, hk, hv, hr, Result.andThen]
  exact hK' _ _ (hK w' h1 h2 h3)
end
abbrev kindKey : MKey Tryz.prog 3 Int := intKey Tryz.prog 3 .i64 Tryz.underlying3
theorem CellsAt.grownBy {w w' : World} {b m : Nat} {cs : Array Value} {t : TypeId} (h : CellsAt w b cs t) (hg : w.grownBy w' (some m)) (hne : b ≠ m) : CellsAt w' b cs t := h.of_block (hg.block b h.lt (by simpa using hne))
abbrev fnV (i : Nat) : Value := .func (.func i) #[] #[]
abbrev cloV (i a : Nat) : Value := .func (.func i) #[] #[.pointer (some ⟨a, 0, none⟩), .pointer (some ⟨a + 1, 0, none⟩)]
abbrev kindsL (a1 a2 a3 : Nat) : List (Int × Value) := [(1, cloV 90 a1), (2, cloV 91 a2), (6, cloV 93 a3), (3, fnV 60), (4, fnV 62), (5, fnV 63)]
structure KindsAt (w : World) (mb a1 a2 a3 : Nat) : Prop where
  m : MapAt kindKey w mb (kindsL a1 a2 a3)
  x1 : CellsAt w a1 #[fnV 15] 122
  y1 : CellsAt w (a1 + 1) #[fnV 53] 123
  x2 : CellsAt w a2 #[fnV 55] 125
  y2 : CellsAt w (a2 + 1) #[fnV 56] 127
  x3 : CellsAt w a3 #[fnV 58] 129
  y3 : CellsAt w (a3 + 1) #[fnV 59] 131
set_option maxRecDepth 100000 in
set_option maxHeartbeats 1000000 in
theorem kinds_any (w : World) : Calls Tryz.prog 29 #[] w fun e w' => ∃ mb a1 a2 a3, e = .returned (.map (some mb)) ∧ KindsAt w' mb a1 a2 a3 ∧ Below w.heap.size w w' := by
  have mk : (Instr.makeMap 84 none).run Tryz.prog w = .ok (.map (some w.heap.size)) (w.alloc (.map #[] 0)) := rfl
  go_enter Tryz.func29, Tryz.ntmps29
  go_wp2_with (first
    | (go_at_call 52; refine (fail1_any _ _ _).mono ?_; rintro e w' ⟨rfl, rfl⟩)
    | (refine wpList_insert (K := kindKey) rfl (.tmp 1) (.const (.int .i64 1)) (.tmp 2) 84 43 rfl Tryz.underlying84 w.heap.size _ 1 _ rfl rfl rfl ((MapAt.made w).of_block ((bel_alloc (bel_alloc (Below.refl _ _) _) _).block _ (by simp))) ?_; intro w1 hm1 hg1 hs1; have hb1 : Below w.heap.size w w1 := (bel_alloc (bel_alloc (bel_alloc (Below.refl _ _) _) _) _).grown hg1 (by simp; omega) (fun k e => by simp at e; omega); have hX1 : CellsAt w1 (w.heap.size + 1) #[fnV 15] 122 := (show CellsAt (((w.alloc (.map #[] 0)).alloc (.cells #[fnV 15] 122)).alloc (.cells #[fnV 53] 123)) (w.heap.size + 1) _ _ from CellsAt.alloc (CellsAt.newAt (by simp) rfl) _).grownBy hg1 (by omega); have hY1 : CellsAt w1 ((w.heap.size + 1) + 1) #[fnV 53] 123 := (show CellsAt (((w.alloc (.map #[] 0)).alloc (.cells #[fnV 15] 122)).alloc (.cells #[fnV 53] 123)) ((w.heap.size + 1) + 1) _ _ from CellsAt.newAt (by simp) rfl).grownBy hg1 (by omega); have HM1 := Lib.hid hm1; have HB1 := Lib.hid hb1; have HX1_1 := Lib.hid hX1; have HY1_1 := Lib.hid hY1; clear hm1 hb1 hX1 hY1 hg1 ; simp at hs1)
    | (go_at_call 54; refine (fail2_any _ _ _).mono ?_; rintro e w' ⟨rfl, rfl⟩)
    | (refine wpList_insert (K := kindKey) rfl (.tmp 1) (.const (.int .i64 2)) (.tmp 3) 84 43 rfl Tryz.underlying84 w.heap.size _ 2 _ rfl rfl rfl (HM1.out.of_block ((bel_alloc (bel_alloc (Below.refl _ _) _) _).block _ HM1.out.lt)) ?_; intro w2 hm2 hg2 hs2; have hb2 : Below w.heap.size w w2 := (bel_alloc (bel_alloc (HB1.out) _) _).grown hg2 (by have := HB1.out.size; simp; omega) (fun k e => by simp at e; omega); have hX2 : CellsAt w2 w1.heap.size #[fnV 55] 125 := (show CellsAt ((w1.alloc (.cells #[fnV 55] 125)).alloc (.cells #[fnV 56] 127)) w1.heap.size _ _ from CellsAt.alloc (CellsAt.newAt (by simp) rfl) _).grownBy hg2 (by have := HM1.out.lt; omega); have hY2 : CellsAt w2 (w1.heap.size + 1) #[fnV 56] 127 := (show CellsAt ((w1.alloc (.cells #[fnV 55] 125)).alloc (.cells #[fnV 56] 127)) (w1.heap.size + 1) _ _ from CellsAt.newAt (by simp) rfl).grownBy hg2 (by have := HM1.out.lt; omega); have hHX1_2 : CellsAt w2 (w.heap.size + 1) #[fnV 15] 122 := (show CellsAt ((w1.alloc (.cells #[fnV 55] 125)).alloc (.cells #[fnV 56] 127)) (w.heap.size + 1) _ _ from (HX1_1.out.alloc _).alloc _).grownBy hg2 (by omega); have hHY1_2 : CellsAt w2 ((w.heap.size + 1) + 1) #[fnV 53] 123 := (show CellsAt ((w1.alloc (.cells #[fnV 55] 125)).alloc (.cells #[fnV 56] 127)) ((w.heap.size + 1) + 1) _ _ from (HY1_1.out.alloc _).alloc _).grownBy hg2 (by have := HM1.out.lt; omega); have HM2 := Lib.hid hm2; have HB2 := Lib.hid hb2; have HX2_2 := Lib.hid hX2; have HY2_2 := Lib.hid hY2; have HHX1_2 := Lib.hid hHX1_2; have HHY1_2 := Lib.hid hHY1_2; clear hm2 hb2 hX2 hY2 hg2 hHX1_2 hHY1_2; simp at hs2)
    | (go_at_call 57; refine (fail3_any _ _ _).mono ?_; rintro e w' ⟨rfl, rfl⟩)
    | (refine wpList_insert (K := kindKey) rfl (.tmp 1) (.const (.int .i64 6)) (.tmp 4) 84 43 rfl Tryz.underlying84 w.heap.size _ 6 _ rfl rfl rfl (HM2.out.of_block ((bel_alloc (bel_alloc (Below.refl _ _) _) _).block _ HM2.out.lt)) ?_; intro w3 hm3 hg3 hs3; have hb3 : Below w.heap.size w w3 := (bel_alloc (bel_alloc (HB2.out) _) _).grown hg3 (by have := HB2.out.size; simp; omega) (fun k e => by simp at e; omega); have hX3 : CellsAt w3 w2.heap.size #[fnV 58] 129 := (show CellsAt ((w2.alloc (.cells #[fnV 58] 129)).alloc (.cells #[fnV 59] 131)) w2.heap.size _ _ from CellsAt.alloc (CellsAt.newAt (by simp) rfl) _).grownBy hg3 (by have := HM2.out.lt; omega); have hY3 : CellsAt w3 (w2.heap.size + 1) #[fnV 59] 131 := (show CellsAt ((w2.alloc (.cells #[fnV 58] 129)).alloc (.cells #[fnV 59] 131)) (w2.heap.size + 1) _ _ from CellsAt.newAt (by simp) rfl).grownBy hg3 (by have := HM2.out.lt; omega); have hHHX1_3 : CellsAt w3 (w.heap.size + 1) #[fnV 15] 122 := (show CellsAt ((w2.alloc (.cells #[fnV 58] 129)).alloc (.cells #[fnV 59] 131)) (w.heap.size + 1) _ _ from (HHX1_2.out.alloc _).alloc _).grownBy hg3 (by omega); have hHHY1_3 : CellsAt w3 ((w.heap.size + 1) + 1) #[fnV 53] 123 := (show CellsAt ((w2.alloc (.cells #[fnV 58] 129)).alloc (.cells #[fnV 59] 131)) ((w.heap.size + 1) + 1) _ _ from (HHY1_2.out.alloc _).alloc _).grownBy hg3 (by have := HM1.out.lt; omega); have hHX2_3 : CellsAt w3 w1.heap.size #[fnV 55] 125 := (show CellsAt ((w2.alloc (.cells #[fnV 58] 129)).alloc (.cells #[fnV 59] 131)) w1.heap.size _ _ from (HX2_2.out.alloc _).alloc _).grownBy hg3 (by have := HM1.out.lt; omega); have hHY2_3 : CellsAt w3 (w1.heap.size + 1) #[fnV 56] 127 := (show CellsAt ((w2.alloc (.cells #[fnV 58] 129)).alloc (.cells #[fnV 59] 131)) (w1.heap.size + 1) _ _ from (HY2_2.out.alloc _).alloc _).grownBy hg3 (by have := HM1.out.lt; omega); have HM3 := Lib.hid hm3; have HB3 := Lib.hid hb3; have HX3_3 := Lib.hid hX3; have HY3_3 := Lib.hid hY3; have HHHX1_3 := Lib.hid hHHX1_3; have HHHY1_3 := Lib.hid hHHY1_3; have HHX2_3 := Lib.hid hHX2_3; have HHY2_3 := Lib.hid hHY2_3; clear hm3 hb3 hX3 hY3 hg3 hHHX1_3 hHHY1_3 hHX2_3 hHY2_3; simp at hs3)
    | (refine wpList_insert (K := kindKey) rfl (.tmp 1) (.const (.int .i64 3)) (.func 60) 84 43 rfl Tryz.underlying84 w.heap.size _ 3 _ rfl rfl rfl HM3.out ?_; intro w4 hm4 hg4 hs4; have hb4 : Below w.heap.size w w4 := HB3.out.grown hg4 (by have := HB3.out.size; omega) (fun k e => by simp at e; omega); have hHHX1_4 : CellsAt w4 (w.heap.size + 1) #[fnV 15] 122 := HHHX1_3.out.grownBy hg4 (by omega); have hHHY1_4 : CellsAt w4 ((w.heap.size + 1) + 1) #[fnV 53] 123 := HHHY1_3.out.grownBy hg4 (by have := HM1.out.lt; have := HM2.out.lt; omega); have hHX2_4 : CellsAt w4 w1.heap.size #[fnV 55] 125 := HHX2_3.out.grownBy hg4 (by have := HM1.out.lt; have := HM2.out.lt; omega); have hHY2_4 : CellsAt w4 (w1.heap.size + 1) #[fnV 56] 127 := HHY2_3.out.grownBy hg4 (by have := HM1.out.lt; have := HM2.out.lt; omega); have hX3_4 : CellsAt w4 w2.heap.size #[fnV 58] 129 := HX3_3.out.grownBy hg4 (by have := HM1.out.lt; have := HM2.out.lt; omega); have hY3_4 : CellsAt w4 (w2.heap.size + 1) #[fnV 59] 131 := HY3_3.out.grownBy hg4 (by have := HM1.out.lt; have := HM2.out.lt; omega); have HM4 := Lib.hid hm4; have HB4 := Lib.hid hb4; have HHHX1_4 := Lib.hid hHHX1_4; have HHHY1_4 := Lib.hid hHHY1_4; have HHX2_4 := Lib.hid hHX2_4; have HHY2_4 := Lib.hid hHY2_4; have HX3_4 := Lib.hid hX3_4; have HY3_4 := Lib.hid hY3_4; clear hm4 hb4 hg4 hs4 hHHX1_4 hHHY1_4 hHX2_4 hHY2_4 hX3_4 hY3_4)
    | (refine wpList_insert (K := kindKey) rfl (.tmp 1) (.const (.int .i64 4)) (.func 62) 84 43 rfl Tryz.underlying84 w.heap.size _ 4 _ rfl rfl rfl HM4.out ?_; intro w5 hm5 hg5 hs5; have hb5 : Below w.heap.size w w5 := HB4.out.grown hg5 (by have := HB4.out.size; omega) (fun k e => by simp at e; omega); have hHHX1_5 : CellsAt w5 (w.heap.size + 1) #[fnV 15] 122 := HHHX1_4.out.grownBy hg5 (by omega); have hHHY1_5 : CellsAt w5 ((w.heap.size + 1) + 1) #[fnV 53] 123 := HHHY1_4.out.grownBy hg5 (by have := HM1.out.lt; have := HM2.out.lt; omega); have hHX2_5 : CellsAt w5 w1.heap.size #[fnV 55] 125 := HHX2_4.out.grownBy hg5 (by have := HM1.out.lt; have := HM2.out.lt; omega); have hHY2_5 : CellsAt w5 (w1.heap.size + 1) #[fnV 56] 127 := HHY2_4.out.grownBy hg5 (by have := HM1.out.lt; have := HM2.out.lt; omega); have hX3_5 : CellsAt w5 w2.heap.size #[fnV 58] 129 := HX3_4.out.grownBy hg5 (by have := HM1.out.lt; have := HM2.out.lt; omega); have hY3_5 : CellsAt w5 (w2.heap.size + 1) #[fnV 59] 131 := HY3_4.out.grownBy hg5 (by have := HM1.out.lt; have := HM2.out.lt; omega); have HM5 := Lib.hid hm5; have HB5 := Lib.hid hb5; have HHHX1_5 := Lib.hid hHHX1_5; have HHHY1_5 := Lib.hid hHHY1_5; have HHX2_5 := Lib.hid hHX2_5; have HHY2_5 := Lib.hid hHY2_5; have HX3_5 := Lib.hid hX3_5; have HY3_5 := Lib.hid hY3_5; clear hm5 hb5 hg5 hs5 hHHX1_5 hHHY1_5 hHX2_5 hHY2_5 hX3_5 hY3_5)
    | (refine wpList_insert (K := kindKey) rfl (.tmp 1) (.const (.int .i64 5)) (.func 63) 84 43 rfl Tryz.underlying84 w.heap.size _ 5 _ rfl rfl rfl HM5.out ?_; intro w6 hm6 hg6 hs6; have hb6 : Below w.heap.size w w6 := HB5.out.grown hg6 (by have := HB5.out.size; omega) (fun k e => by simp at e; omega); have hHHX1_6 : CellsAt w6 (w.heap.size + 1) #[fnV 15] 122 := HHHX1_5.out.grownBy hg6 (by omega); have hHHY1_6 : CellsAt w6 ((w.heap.size + 1) + 1) #[fnV 53] 123 := HHHY1_5.out.grownBy hg6 (by have := HM1.out.lt; have := HM2.out.lt; omega); have hHX2_6 : CellsAt w6 w1.heap.size #[fnV 55] 125 := HHX2_5.out.grownBy hg6 (by have := HM1.out.lt; have := HM2.out.lt; omega); have hHY2_6 : CellsAt w6 (w1.heap.size + 1) #[fnV 56] 127 := HHY2_5.out.grownBy hg6 (by have := HM1.out.lt; have := HM2.out.lt; omega); have hX3_6 : CellsAt w6 w2.heap.size #[fnV 58] 129 := HX3_5.out.grownBy hg6 (by have := HM1.out.lt; have := HM2.out.lt; omega); have hY3_6 : CellsAt w6 (w2.heap.size + 1) #[fnV 59] 131 := HY3_5.out.grownBy hg6 (by have := HM1.out.lt; have := HM2.out.lt; omega); have HM6 := Lib.hid hm6; have HB6 := Lib.hid hb6; have HHHX1_6 := Lib.hid hHHX1_6; have HHHY1_6 := Lib.hid hHHY1_6; have HHX2_6 := Lib.hid hHX2_6; have HHY2_6 := Lib.hid hHY2_6; have HX3_6 := Lib.hid hX3_6; have HY3_6 := Lib.hid hY3_6; clear hm6 hb6 hg6 hs6 hHHX1_6 hHHY1_6 hHX2_6 hHY2_6 hX3_6 hY3_6))
  go_ret
  have e1 : w1.heap.size = w.heap.size + 1 + 1 + 1 := by simpa using hs1
  have e2 : w2.heap.size = w.heap.size + 1 + 1 + 1 + 1 + 1 := by simpa [e1] using hs2
  refine ⟨_, rfl, ⟨_, _, _, ⟨HM6.out, ?_, ?_, ?_, ?_, ?_, ?_⟩⟩, HB6.out⟩
  · exact HHHX1_6.out
  · exact HHHY1_6.out
  · have := HHX2_6.out; rw [e1] at this; exact this
  · have := HHY2_6.out; rw [e1] at this; exact this
  · have := HX3_6.out; rw [e2] at this; exact this
  · have := HY3_6.out; rw [e2] at this; exact this
end Go.Proofs.YtnhaiecbjipodaaGreatDoor
