/- Contracts of the program's functions, by walks, and plain facts beside them: GridAt, Insert. -/
import Derived.Test.YtnhaiecbjipodaaGreatDoorB19
import Derived.Test.YtnhaiecbjipodaaGreatDoorB20
/- The grid in memory: its block of 1024 slices and a number. -/
namespace Go.Proofs.YtnhaiecbjipodaaGreatDoor
open Go.RowKit Go.Shelf Go.Proofs
def gridZ : Array Value := (Array.replicate 1024 (.slice none 0 0)).push (.int .i64 0)
theorem zeroGrid (w : World) : (zeroValue 217).run Tryz.prog w = .ok (.agg gridZ) w := by kernel_rfl
def u32E : Enc Int := ⟨1, fun k => [.int .u32 k], fun _ => rfl, fun c u hu => by
  simp at hu
  subst hu
  rfl, by decide⟩
theorem u32Info : (Tryz.prog.info? 23).map (fun i => (i.zero, i.size, i.bytes)) = some (some (.int .u32 0), 1, 4) := by kernel_rfl

/-- The block p holds a grid whose bucket n holds these keys. -/
structure GridIn (w : World) (p : Nat) (bk : Nat → List Int) (cs : Array Value) : Prop where
  blk : CellsAt w p cs 217
  size : cs.size = 1025
  last : ∃ e, cs[1024]? = some (.int .i64 e)
  own : ∀ n, n < 1024 → ∃ v, cs[n]? = some v ∧ Own u32E 23 w p v (bk n)
  apart : ∀ n m, n < 1024 → m < 1024 → n ≠ m → ∀ v u k, cs[n]? = some v → cs[m]? = some u → v.ownBlock = some k → u.ownBlock ≠ some k
def GridAt (w : World) (p : Nat) (bk : Nat → List Int) : Prop := ∃ cs, GridIn w p bk cs
theorem GridAt.zero (w : World) : GridAt (w.alloc (.cells gridZ 217)) w.heap.size (fun _ => []) := by
  have hz : ∀ n, n < 1024 → gridZ[n]? = some (.slice none 0 0) := fun n hn => by
    unfold gridZ
    rw [Array.getElem?_push, if_neg (by simp; omega), Array.getElem?_replicate, if_pos hn]
  refine ⟨gridZ, CellsAt.new _ _ _, by simp [gridZ], ⟨0, by unfold gridZ; rw [Array.getElem?_push, if_pos (by simp)]⟩, fun n hn => ⟨_, hz n hn, Own.nil _ _ _ _⟩, fun n m hn hm _ v u k hv hu hk => ?_⟩
  rw [hz n hn] at hv
  cases hv
  simp [Value.ownBlock] at hk
theorem GridAt.lt {w : World} {p : Nat} {bk : Nat → List Int} (h : GridAt w p bk) : p < w.heap.size := by
  obtain ⟨cs, h⟩ := h
  exact h.blk.lt
theorem GridIn.below {w w' : World} {p : Nat} {bk : Nat → List Int} {cs : Array Value} (h : GridIn w p bk cs) (hb : Below w.heap.size w w') : GridIn w' p bk cs :=
  ⟨h.blk.below hb h.blk.lt, h.size, h.last, fun n hn => by obtain ⟨v, h1, h2⟩ := h.own n hn; exact ⟨v, h1, h2.below hb⟩, h.apart⟩
theorem GridAt.below {w w' : World} {p : Nat} {bk : Nat → List Int} (h : GridAt w p bk) (hb : Below w.heap.size w w') : GridAt w' p bk := by
  obtain ⟨cs, h⟩ := h
  exact ⟨cs, h.below hb⟩
theorem own_lt {α : Type} {E : Enc α} {t : TypeId} {w : World} {base : Nat} {v : Value} {l : List α} (h : Own E t w base v l) : ∀ k, v.ownBlock = some k → k < w.heap.size := fun k hk => by
  rcases h.2 with ⟨rfl, _⟩ | ⟨g, cap, cur, rfl, _, h3, _⟩
  · simp [Value.ownBlock] at hk
  · obtain rfl : g = k := by simpa [Value.ownBlock] using hk
    exact lt_of_block h3
theorem own_not_cells {α : Type} {E : Enc α} {t t' : TypeId} {w : World} {base b : Nat} {v : Value} {l : List α} {cs : Array Value} (h : Own E t w base v l) (hc : CellsAt w b cs t') (hne : t' ≠ t) : v.ownBlock ≠ some b := fun hk => by
  rcases h.2 with ⟨rfl, _⟩ | ⟨g, cap, cur, rfl, _, h3, _⟩
  · simp [Value.ownBlock] at hk
  · obtain rfl : g = b := by simpa [Value.ownBlock] using hk
    have := hc.symm.trans h3
    simp at this
    exact hne this.2
theorem own_not_map {α : Type} {E : Enc α} {t : TypeId} {w : World} {base b : Nat} {v : Value} {l : List α} {es : Array MapEntry} {c : Nat} (h : Own E t w base v l) (hc : w.heap[b]? = some (.map es c)) : v.ownBlock ≠ some b := fun hk => by
  rcases h.2 with ⟨rfl, _⟩ | ⟨g, cap, cur, rfl, _, h3, _⟩
  · simp [Value.ownBlock] at hk
  · obtain rfl : g = b := by simpa [Value.ownBlock] using hk
    have := hc.symm.trans h3
    simp at this
/-- A bucket with a key more. -/
def updB (bk : Nat → List Int) (n : Nat) (l : List Int) : Nat → List Int := fun m => if m = n then l else bk m
theorem GridIn.put {w w5 : World} {p n : Nat} {bk : Nat → List Int} {cs : Array Value} {v v1 : Value} {l : List Int} (h : GridIn w p bk cs) (hn : n < 1024) (hv : cs[n]? = some v) (ho : Own u32E 23 w5 p v1 l)
    (hg : w.grownBy w5 v.ownBlock) (hk : v1.ownBlock = v.ownBlock ∨ ∀ k, v1.ownBlock = some k → w.heap.size ≤ k) :
    GridAt (w5.setCell ⟨p, n, none⟩ v1) p (updB bk n l) ∧ Below p w (w5.setCell ⟨p, n, none⟩ v1) := by
  have hvp : ∀ m, m < 1024 → ∀ u, cs[m]? = some u → u.ownBlock ≠ some p ∧ (∀ k, u.ownBlock = some k → p ≤ k ∧ k < w.heap.size) := fun m hm u hu => by
    obtain ⟨u', h1, h2⟩ := h.own m hm
    rw [hu] at h1
    cases h1
    exact ⟨own_not_cells h2 h.blk (by decide), fun k hk => ⟨Own.base_le h2 k hk, own_lt h2 k hk⟩⟩
  obtain ⟨hvp1, hvp2⟩ := hvp n hn v hv
  have hlt := h.blk.lt
  have hB5 : CellsAt w5 p cs 217 := h.blk.of_block (hg.block p hlt (fun e => hvp1 e.symm))
  have h1p : v1.ownBlock ≠ some p := by
    rcases hk with hk | hk
    · rw [hk]; exact hvp1
    · intro e; have := hk p e; omega
  have hs : (cs.setIfInBounds n v1).size = 1025 := by simp [h.size]
  refine ⟨⟨cs.setIfInBounds n v1, hB5.set n v1, hs, ?_, fun m hm => ?_, fun a b ha hb hab x y k hx hy hxk => ?_⟩, ?_⟩
  · obtain ⟨e, he⟩ := h.last
    exact ⟨e, by rw [Array.getElem?_setIfInBounds, if_neg (by omega)]; exact he⟩
  · by_cases hmn : m = n
    · subst hmn
      refine ⟨v1, by rw [Array.getElem?_setIfInBounds, if_pos rfl, if_pos (by rw [h.size]; omega)], ?_⟩
      rw [updB, if_pos rfl]
      exact own_block ho fun k hk _ => Below.heap_setCell _ _ _ _ (fun e => h1p (by rw [hk]; exact congrArg some e))
    · obtain ⟨u, hu, hou⟩ := h.own m hm
      refine ⟨u, by rw [Array.getElem?_setIfInBounds, if_neg (by omega)]; exact hu, ?_⟩
      rw [updB, if_neg hmn]
      refine own_block hou fun k hk hkl => (Below.heap_setCell _ _ _ _ (fun e => (hvp m hm u hu).1 (by rw [hk]; exact congrArg some e))).trans (hg.block k hkl (fun e => ?_))
      exact h.apart m n hm hn hmn u v k hu hv hk e.symm
  · rw [Array.getElem?_setIfInBounds] at hx hy
    intro hyk
    have hn' : n < cs.size := by rw [h.size]; omega
    by_cases han : n = a
    · subst han
      rw [if_pos rfl, if_pos hn'] at hx
      rw [if_neg (by omega)] at hy
      cases hx
      rcases hk with hk | hk
      · exact h.apart n b hn hb (by omega) v y k hv hy (by rw [← hk]; exact hxk) hyk
      · have h1 := hk k hxk
        have h2 := ((hvp b hb y hy).2 k hyk).2
        omega
    · rw [if_neg han] at hx
      by_cases hbn : n = b
      · subst hbn
        rw [if_pos rfl, if_pos hn'] at hy
        cases hy
        rcases hk with hk | hk
        · exact h.apart a n ha hn (by omega) x v k hx hv hxk (by rw [← hk]; exact hyk)
        · have h1 := hk k hyk
          have h2 := ((hvp a ha x hx).2 k hxk).2
          omega
      · rw [if_neg hbn] at hy
        exact h.apart a b ha hb (by omega) x y k hx hy hxk hyk
  · have h1 : Below p w w5 := ⟨hg.os, hg.tape, hg.output, hg.size, fun i hi => hg.block i (by omega) (fun e => by have := (hvp2 i e.symm).1; omega)⟩
    exact h1.setCell (p := ⟨p, n, none⟩) (Nat.le_refl _) v1
theorem GridIn.count {w : World} {p : Nat} {bk : Nat → List Int} {cs : Array Value} (h : GridIn w p bk cs) (e : Int) : GridIn (w.setCell ⟨p, 1024, none⟩ (.int .i64 e)) p bk (cs.setIfInBounds 1024 (.int .i64 e)) := by
  have hne : ∀ n, n < 1024 → (cs.setIfInBounds 1024 (.int .i64 e))[n]? = cs[n]? := fun n hn => by rw [Array.getElem?_setIfInBounds, if_neg (by omega)]
  refine ⟨h.blk.set 1024 _, by simp [h.size], ⟨e, by rw [Array.getElem?_setIfInBounds, if_pos rfl, if_pos (by rw [h.size]; omega)]⟩, fun n hn => ?_, fun n m hn hm hnm v u k hv hu => h.apart n m hn hm hnm v u k (by rw [← hne n hn]; exact hv) (by rw [← hne m hm]; exact hu)⟩
  obtain ⟨v, hv, ho⟩ := h.own n hn
  exact ⟨v, by rw [hne n hn]; exact hv, own_block ho fun k hk _ => Below.heap_setCell _ _ _ _ (fun e => own_not_cells ho h.blk (by decide) (by rw [hk]; exact congrArg some e))⟩
end Go.Proofs.YtnhaiecbjipodaaGreatDoor
/- (*grid.Grid).Insert: a key is put into the buckets of its box's cells, once each. -/
namespace Go.Proofs.YtnhaiecbjipodaaGreatDoor
open Go.RowKit Go.Shelf Go.Proofs
attribute [local go_sem] Grow.cell Grow.froz Grow.lt lt_s1 lt_s2 lt_s3 lt_s4 lt_s5
abbrev doneKey : MKey Tryz.prog 3 Int := intKey Tryz.prog 3 .i64 Tryz.underlying3
def insB (bk : Nat → List Int) (key : Int) (bs : List Int) : Nat → List Int := fun n => if (n : Int) ∈ bs then bk n ++ [key] else bk n
def doneF (es : List (Int × Value)) (bs : List Int) : Prop := ∀ n, getM es n = if n ∈ bs then some (.bool true) else none
theorem idx_cell {A : Option Addr} {b off k len c : Nat} (hA : A = some ⟨b, off, none⟩) (hk : k < len) (w : World) :
    (Instr.indexAt 252 (.slice A len c) (.int .i64 (k : Int))).run Tryz.prog w = .ok (.pointer (some ⟨b, off + k * 2, none⟩)) w := by
  subst hA
  have hk' : (k : Int) < (len : Int) := by omega
  go_simp
theorem idx_bucket (p n : Nat) (hn : n < 1024) (w : World) :
    (Instr.indexAt 215 (.pointer (some ⟨p, 0, none⟩)) (.int .i64 (n : Int))).run Tryz.prog w = .ok (.pointer (some ⟨p, n, none⟩)) w := by
  have hk' : (n : Int) < 1024 := by omega
  go_simp
theorem look_done {w : World} {D : Nat} {es : List (Int × Value)} {bs : List Int} (h : MapAt doneKey w D es) (hd : doneF es bs) (n : Int) :
    (Instr.lookup 251 (.map (some D)) (.int .i64 n) false).run Tryz.prog w = .ok (.bool (decide (n ∈ bs))) w := by
  have := run_lookup (K := doneKey) h Tryz.underlying251 (Tryz.zeroValue4 w) n false
  rw [hd n] at this
  by_cases hn : n ∈ bs
  · rw [if_pos hn] at this; rw [decide_eq_true hn]; exact this
  · rw [if_neg hn] at this; rw [decide_eq_false hn]; exact this
theorem insB_hit {bk : Nat → List Int} {key : Int} {bs : List Int} {x : Int} (h : x ∈ bs) : insB bk key (bs ++ [x]) = insB bk key bs := by
  funext n
  unfold insB
  by_cases hn : (n : Int) ∈ bs
  · simp [hn]
  · have : (n : Int) ≠ x := fun e => hn (by rw [e]; exact h)
    simp [hn, this]
theorem insB_new {bk : Nat → List Int} {key : Int} {bs : List Int} {m : Nat} (h : ¬ (m : Int) ∈ bs) : insB bk key (bs ++ [(m : Int)]) = updB (insB bk key bs) m (insB bk key bs m ++ [key]) := by
  funext n
  unfold updB
  by_cases hn : n = m
  · subst hn
    rw [if_pos rfl]
    unfold insB
    simp [h]
  · rw [if_neg hn]
    unfold insB
    have : ¬ (n : Int) = (m : Int) := by omega
    simp [this]
theorem doneF_put {es : List (Int × Value)} {bs : List Int} (h : doneF es bs) (x : Int) : doneF (putM es x (.bool true)) (bs ++ [x]) := by
  intro n
  rw [getM_put, h n]
  by_cases hn : n = x
  · simp [hn]
  · simp [hn]
theorem doneF_hit {es : List (Int × Value)} {bs : List Int} (h : doneF es bs) {x : Int} (hx : x ∈ bs) : doneF es (bs ++ [x]) := by
  intro n
  rw [h n]
  by_cases hn : n ∈ bs
  · simp [hn]
  · have : n ≠ x := fun e => hn (by rw [e]; exact hx)
    simp [hn, this]
theorem map_take_succ {α β : Type} (f : α → β) {l : List α} {k : Nat} (hk : k < l.length) : (l.take (k + 1)).map f = (l.take k).map f ++ [f l[k]] := by
  rw [List.take_succ_eq_append_getElem hk, List.map_append]; rfl
theorem bel_drew' (n : Nat) (w : World) : Below n w w.drew := ⟨rfl, rfl, rfl, Nat.le_refl _, fun _ _ => rfl⟩
theorem GridIn.grown_map {w w' : World} {p D : Nat} {bk : Nat → List Int} {cs : Array Value} {es : List (Int × Value)} (h : GridIn w p bk cs) (hm : MapAt doneKey w D es) (hg : w.grownBy w' (some D)) : GridIn w' p bk cs := by
  have hne := hm.ne_cells h.blk
  refine ⟨h.blk.of_block (hg.block p h.blk.lt (fun e => hne (by simpa using e.symm))), h.size, h.last, fun n hn => ?_, h.apart⟩
  obtain ⟨v, hv, ho⟩ := h.own n hn
  obtain ⟨es', c', h1, _⟩ := hm
  exact ⟨v, hv, own_block ho fun k hk hlt => hg.block k hlt (fun e => own_not_map ho h1 (by rw [hk, e]))⟩
theorem own_apart {α β : Type} {E : Enc α} {E' : Enc β} {t t' : TypeId} {w : World} {base base' : Nat} {v u : Value} {l : List α} {l' : List β} (h : Own E t w base v l) (h' : Own E' t' w base' u l') (hne : t ≠ t') : ∀ k, v.ownBlock = some k → u.ownBlock ≠ some k := by
  intro k hv hu
  rcases h.2 with ⟨rfl, _⟩ | ⟨g, cap, cur, rfl, _, h3, _⟩
  · simp [Value.ownBlock] at hv
  · obtain rfl : g = k := by simpa [Value.ownBlock] using hv
    rcases h'.2 with ⟨rfl, _⟩ | ⟨g', cap', cur', rfl, _, h4, _⟩
    · simp [Value.ownBlock] at hu
    · obtain rfl : g' = g := by simpa [Value.ownBlock] using hu
      have := h3.symm.trans h4
      simp at this
      exact hne this.2
/-- What stands between two rounds. -/
structure InsAt (w wr : World) (p D : Nat) (bk : Nat → List Int) (key : Int) (vc : Value) (cs : List (Int × Int)) (k : Nat) (es : List (Int × Value)) : Prop where
  map : MapAt doneKey wr D es
  dn : doneF es ((cs.take k).map bucketI)
  grid : GridAt wr p (insB bk key ((cs.take k).map bucketI))
  cells : Own cellE 254 wr w.heap.size vc cs
  bel : Below p w wr
theorem MapAt.grow {κ : Type} [DecidableEq κ] {P : Program} {kt : TypeId} {K : MKey P kt κ} {w w' : World} {b : Nat} {l : List (κ × Value)} (h : MapAt K w b l) (hb : Below w.heap.size w w') : MapAt K w' b l := h.of_block (hb.block b h.lt)
theorem InsAt.below {w wr w' : World} {p D : Nat} {bk : Nat → List Int} {key : Int} {vc : Value} {cs : List (Int × Int)} {k : Nat} {es : List (Int × Value)} (h : InsAt w wr p D bk key vc cs k es) (hp : p ≤ wr.heap.size) (hb : Below wr.heap.size wr w') : InsAt w w' p D bk key vc cs k es :=
  ⟨h.map.grow hb, h.dn, h.grid.below hb, h.cells.below hb, h.bel.trans (hb.mono hp)⟩
set_option maxRecDepth 100000 in
set_option maxHeartbeats 4000000 in
theorem insert_any (p : Nat) (key : Int) (a : BoxI) (w : World) (bk : Nat → List Int) (hf : a.Fit) (he : emptyB a = false) (hG : Glob w) (hp4 : 4 ≤ p) (hbk : ∀ n, (bk n).length ≤ 1000000) (h : GridAt w p bk) :
    Calls Tryz.prog 148 #[.pointer (some ⟨p, 0, none⟩), .int .u32 key, .agg a.arr] w fun e w' => e = .returned (.tuple #[]) ∧ GridAt w' p (insB bk key ((cellsL a).map bucketI)) ∧ Below p w w' := by
  have HF := Lib.hid hf
  have HEm := Lib.hid he
  have HG := Lib.hid hG
  have hp := h.lt
  obtain ⟨cs0, h⟩ := h
  obtain ⟨e0, hl0⟩ := h.last
  have c0 : w.cell? ⟨p, 1024, none⟩ = some (.int .i64 e0) := h.blk.at 1024 hl0
  have f0 : w.frozen? ⟨p, 1024, none⟩ = false := h.blk.froz 1024
  have HI := Lib.hid h
  clear hf he hG h hl0
  have qM : ∀ w : World, (Instr.makeMap 251 none).run Tryz.prog w = .ok (.map (some w.heap.size)) (w.alloc (.map #[] 0)) := fun _ => rfl
  go_enter Tryz.func148, Tryz.ntmps148
  go_wp2_with fail
  refine (cellAll_any a _ HF.out HEm.out).mono ?_
  rintro e w1 ⟨vc, rfl, hoc, hb1⟩
  have hG1 : Glob w1 := by
    refine Glob.belowN (n := p) (w := w) HG.out ?_ hp4
    have h1 : Below p w (w.setCell ⟨p, 1024, none⟩ (.int .i64 (wrap64 (e0 + 1)))) := (Below.refl p w).setCell (p := ⟨p, 1024, none⟩) (Nat.le_refl _) _
    exact ((h1.alloc (by simp; omega) _).alloc (by simp; omega) _).trans (hb1.mono (by simp; omega))
  have hI0 : InsAt w w1 p (w.heap.size + 1) bk key vc (cellsL a) 0 [] := by
    have h1 : Below p w (w.setCell ⟨p, 1024, none⟩ (.int .i64 (wrap64 (e0 + 1)))) := (Below.refl p w).setCell (p := ⟨p, 1024, none⟩) (Nat.le_refl _) _
    refine ⟨?_, fun n => by simp [getM], ?_, own_base hoc (by simp; omega), ((h1.alloc (by simp; omega) _).alloc (by simp; omega) _).trans (hb1.mono (by simp; omega))⟩
    · have := MapAt.made (K := doneKey) (((w.setCell ⟨p, 1024, none⟩ (.int .i64 (wrap64 (e0 + 1)))).alloc (.cells a.arr 220)))
      have e2 : ((w.setCell ⟨p, 1024, none⟩ (.int .i64 (wrap64 (e0 + 1)))).alloc (.cells a.arr 220)).heap.size = w.heap.size + 1 := by simp
      rw [e2] at this
      exact this.grow hb1
    · have : insB bk key (((cellsL a).take 0).map bucketI) = bk := by funext n; simp [insB]
      rw [this]
      exact GridAt.below ⟨_, ((HI.out.count _).below (bel_alloc (bel_alloc (Below.refl _ _) _) _))⟩ hb1
  obtain ⟨A, c, rfl⟩ := hoc.form
  have hcl : (cellsL a).length ≤ 1050625 := by
    obtain ⟨h0, h1⟩ := span_bd HF.out HEm.out
    unfold cellsL
    rw [cRowsL_len]
    exact Nat.mul_le_mul h1.2 h0.2
  obtain ⟨cs, hcs⟩ : ∃ cs, cs = cellsL a := ⟨_, rfl⟩
  rw [← hcs] at hI0 hcl ⊢
  have HI0 := Lib.hid hI0
  have HG1 := Lib.hid hG1
  have hz1 := hb1.size
  simp at hz1
  have HCS := Lib.hid hcs
  clear hoc hb1 hI0 hG1 c0 f0 qM hcs
  go_wp2_with fail
  go_loopw [23] (fun i wr => ∃ (k : Nat) (es : List (Int × Value)), k ≤ cs.length ∧ i = .int .i64 k ∧ InsAt w wr p (w.heap.size + 1) bk key (.slice A cs.length c) cs k es) (fun i _ => cs.length - (intOf i).toNat)
  case atStart => exact ⟨0, [], by omega, rfl, HI0.out⟩
  case round =>
    obtain ⟨k, es, hk, rfl, hI⟩ := hrel
    have hpr := hI.grid.lt
    have hDr := hI.map.lt
    have HI := Lib.hid hI
    clear hI
    by_cases hlt : k < cs.length
    · obtain ⟨A', c', b1, o1, eS, hA', hx'⟩ := (HI.out.cells.reads (by omega)).form
      simp only [Value.slice.injEq, true_and] at eS
      obtain ⟨rfl, rfl⟩ := eS
      obtain ⟨eA, zA⟩ := hA' (by omega)
      have ix := fun w => idx_cell (c := c) eA hlt w
      obtain ⟨x, y, hxy⟩ : ∃ x y, cs[k] = (x, y) := ⟨_, _, rfl⟩
      have q0 : wr.cell? ⟨b1, o1 + k * 2, none⟩ = some (.int .i32 x) := by have := hx' k hlt 0 _ rfl; rw [hxy] at this; exact this
      have q1 : wr.cell? ⟨b1, o1 + k * 2 + 1, none⟩ = some (.int .i32 y) := by have := hx' k hlt 1 _ rfl; rw [hxy] at this; exact this
      obtain ⟨n, hn, hnl⟩ : ∃ n : Nat, bucketI (x, y) = n ∧ n < 1024 := by
        obtain ⟨h0, h1⟩ := bucketI_bd (x, y)
        exact ⟨(bucketI (x, y)).toNat, by omega, by omega⟩
      have HB := fun W hG => bucket_any x y W hG
      rw [hn] at HB
      have hbx : bucketI cs[k] = (n : Int) := by rw [hxy, hn]
      have HBX := Lib.hid hbx
      clear hA' hx' eA hxy hbx hn
      go_wp2_with fail
      refine (HB _ ((HG.out.belowN HI.out.bel hp4).alloc _)).mono ?_
      rintro e w1 ⟨rfl, hb⟩
      obtain ⟨g1, rfl⟩ := Grow.of hb
      clear hb
      have hI1 : InsAt w g1.world p (w.heap.size + 1) bk key (.slice A cs.length c) cs k es := HI.out.below (by omega) (by repeat (first | with_reducible exact Below.refl _ _ | with_reducible refine bel_alloc ?_ _ | with_reducible refine bel_drewN ?_ _ | with_reducible refine bel_drew ?_ | with_reducible refine bel_grow ?_ _ | with_reducible refine bel_set ?_ (by first | omega | (simp; done) | (simp; omega)) _))
      have HI1 := Lib.hid hI1
      clear hI1 HB
      by_cases hd : (n : Int) ∈ (cs.take k).map bucketI
      · have HL := look_done HI1.out.map HI1.out.dn (n : Int)
        rw [decide_eq_true hd] at HL
        have HD := Lib.hid hd
        clear hd
        go_wp2
        go_roundw
        case rel => exact ⟨k + 1, es, by omega, by go_num, HI1.out.map, by rw [map_take_succ bucketI hlt, HBX.out]; exact doneF_hit HI1.out.dn HD.out, by rw [map_take_succ bucketI hlt, HBX.out, insB_hit HD.out]; exact HI1.out.grid, HI1.out.cells, HI1.out.bel⟩
        case measure => simp [intOf]; omega
      · have HL := look_done HI1.out.map HI1.out.dn (n : Int)
        rw [decide_eq_false hd] at HL
        have HD := Lib.hid hd
        clear hd
        go_wp2_with (refine wpList_store (K := doneKey) rfl (.tmp 32) (.tmp 33) (.const (.bool true)) 251 4 rfl Tryz.underlying251 (w.heap.size + 1) es (n : Int) (.bool true) rfl rfl rfl HI1.out.map ?_; intro w4 hm4 hg4 hs4)
        obtain ⟨gcs, hGI⟩ := HI1.out.grid
        have hG4 := hGI.grown_map HI1.out.map hg4
        obtain ⟨v0, hv0, ho0⟩ := hG4.own n hnl
        have hlen0 : (insB bk key ((cs.take k).map bucketI) n).length ≤ 1000000 := by unfold insB; rw [if_neg HD.out]; exact hbk n
        have hap := own_not_map (HI1.out.cells) (show g1.world.heap[w.heap.size + 1]? = some (.map HI1.out.map.choose HI1.out.map.choose_spec.choose) from HI1.out.map.choose_spec.choose_spec.1)
        have hoc4 : Own cellE 254 w4 w.heap.size (.slice A cs.length c) cs := own_block HI1.out.cells fun k hk hlt => hg4.block k hlt (fun e => hap (by rw [hk, e]))
        obtain ⟨l0, hl0⟩ : ∃ l0, l0 = insB bk key ((cs.take k).map bucketI) n := ⟨_, rfl⟩
        rw [← hl0] at ho0 hlen0
        obtain ⟨A1, cp1, rfl⟩ := ho0.form
        obtain ⟨N, hN⟩ : ∃ N, N = l0.length := ⟨_, rfl⟩
        have p4 := hG4.blk.lt
        have d4 : w4.cell? ⟨p, n, none⟩ = some (.slice A1 N cp1) := by rw [hN]; exact hG4.blk.at n hv0
        have f4 : w4.frozen? ⟨p, n, none⟩ = false := hG4.blk.froz n
        have hbp : Value.ownBlock (.slice A1 N cp1) ≠ some p := by rw [hN]; exact own_not_cells ho0 hG4.blk (by decide)
        have iy := fun W => idx_bucket p n hnl W
        have hgsz := hg4.size
        have bel4 : Below p w w4 := HI1.out.bel.grown hg4 (by omega) (fun k e => by simp at e; omega)
        have HF5 : ∀ w' : World, w4.drew.grownBy w' (Value.ownBlock (.slice A1 N cp1)) → w'.cell? ⟨p, n, none⟩ = some (.slice A1 N cp1) ∧ w'.frozen? ⟨p, n, none⟩ = false ∧ p < w'.heap.size := fun w' hg => by
          have hc : CellsAt w' p gcs 217 := CellsAt.of_block (w := w4) hG4.blk (hg.block p p4 (fun e => hbp e.symm))
          exact ⟨by rw [hN]; exact hc.at n hv0, hc.froz n, hc.lt⟩
        have FIN : ∀ (w5 : World) (A6 : Option Addr) (n6 c6 : Nat), Own u32E 23 w5 p (.slice A6 n6 c6) (l0 ++ [key]) → w4.drew.grownBy w5 (Value.ownBlock (.slice A1 N cp1)) → (Value.ownBlock (.slice A6 n6 c6) = Value.ownBlock (.slice A1 N cp1) ∨ Value.ownBlock (.slice A6 n6 c6) = some (w4.drew.heap.size + 1)) →
            InsAt w (w5.setCell ⟨p, n, none⟩ (.slice A6 n6 c6)) p (w.heap.size + 1) bk key (.slice A cs.length c) cs (k + 1) (putM es n (.bool true)) := by
          intro w5 A6 n6 c6 hO6 hg5 hk5
          have hG4' : GridIn w4.drew p _ gcs := hG4.below (bel_drew (Below.refl _ _))
          obtain ⟨h1, h2⟩ := hG4'.put hnl hv0 hO6 (by rw [← hN]; exact hg5) (by rw [← hN]; exact hk5.imp id (fun e k hk => by rw [hk] at e; simp at e; subst e; show w4.heap.size ≤ w4.heap.size + 1; omega))
          refine ⟨?_, ?_, ?_, ?_, bel4.trans (Below.trans (bel_drew' p w4) h2)⟩
          · have hne := hm4.ne_cells hG4.blk
            have hm4' : MapAt doneKey w4.drew (w.heap.size + 1) (putM es n (.bool true)) := hm4.of_block rfl
            obtain ⟨es', c', h3, _⟩ := hm4
            refine (hm4'.of_block (hg5.block _ hm4'.lt (fun e => own_not_map ho0 h3 (by rw [← hN]; exact e.symm)))).of_block (Below.heap_setCell _ _ _ _ hne)
          · rw [map_take_succ bucketI hlt, HBX.out]; exact doneF_put HI1.out.dn n
          · rw [map_take_succ bucketI hlt, HBX.out, insB_new HD.out, ← hl0]; exact h1
          · have hne : ∀ j, Value.ownBlock (.slice A cs.length c) = some j → j ≠ p := fun j hj e => own_not_cells hoc4 hG4.blk (by decide) (by rw [hj, e])
            refine own_block (w := w4) hoc4 fun j hj hjl => (Below.heap_setCell _ _ _ _ (hne j hj)).trans (hg5.block j hjl (fun e => ?_))
            exact own_apart hoc4 ho0 (by decide) j hj (by rw [← hN]; exact e.symm)
        have HO0 := Lib.hid ho0
        have HN := Lib.hid hN
        have HL0 := Lib.hid hlen0
        clear hN ho0 hlen0 hl0 hoc4 hG4 hGI hm4 hg4 hs4 bel4 hap hv0 HL hbp hgsz
        go_region_law
          (first
            | (refine step_own (W := w4.drew) rfl u32E p (.tmp 41) (.tmp 43) 61 23 _ 4 (by rfl) Tryz.underlying61 u32Info rfl (by decide) (.slice A1 N cp1) l0 key #[.int .u32 key] rfl rfl rfl (by rw [HN.out]; exact HO0.out.below (bel_drew (Below.refl _ _))) (Nat.le_of_lt p4) (by have := HL0.out; omega) ?_; intro v1 w5 hO6 hg5 hk5; obtain ⟨A6, n6, c6, rfl⟩ : ∃ A6 n6 c6, v1 = .slice A6 n6 c6 := (have ⟨A6, c6, e6⟩ := hO6.form; ⟨A6, _, c6, e6⟩); obtain ⟨d5, f5, l5⟩ := HF5 _ hg5))
        all_goals
          have HE := FIN _ _ _ _ hO6 hg5 hk5
          clear FIN HF5
          go_wp2
          go_roundw
          case rel => exact ⟨k + 1, _, by omega, by go_num, HE⟩
          case measure => simp [intOf]; omega
    · have hkl : k = cs.length := by omega
      have HN := Lib.hid hkl
      clear hkl
      go_wp2
      go_end0
      have h1 := HI.out
      rw [HN.out] at h1
      have h2 := h1.grid
      rw [List.take_length] at h2
      exact ⟨rfl, by rw [← HCS.out]; exact h2, h1.bel⟩
end Go.Proofs.YtnhaiecbjipodaaGreatDoor
