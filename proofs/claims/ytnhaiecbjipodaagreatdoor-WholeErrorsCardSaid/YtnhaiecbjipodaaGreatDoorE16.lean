/- The operations that came in, read as data. -/
import Derived.Test.YtnhaiecbjipodaaGreatDoorE14
import Derived.Test.YtnhaiecbjipodaaGreatDoorE15
import Derived.Test.YtnhaiecbjipodaaGreatDoorB32
namespace Go.Proofs.YtnhaiecbjipodaaGreatDoor
open Go.ChangeShapes Go.WideShapes Go.ChangeAt Go.RowKit Go.Deep
set_option maxRecDepth 100000

section
variable {H : Type} {enc : TypeId × Value → H} {P : Program} {w : World} {base : Nat} {spare : Nat → Bool} {held : Bool}
/-- Every row of memory that the data holds keeps within what a machine reaches. -/
def Light (P : Program) (t : TypeId) (d : DataW H) : Prop := ∀ n ∈ d.weights P t, n ≤ reachBytes
theorem light_top {ts : List TypeId} {ds : List (DataW H)} (h : (DataW.weightsEach P ts ds).all (· ≤ reachBytes) = true) {j : Nat} {t : TypeId} {d : DataW H} (ht : ts[j]? = some t) (hd : ds[j]? = some d) : Light P t d := fun n hn => by
  have := List.all_eq_true.1 h n (DataW.weights_mem_each ht hd n hn)
  simpa using this
theorem light_part {t : TypeId} {fs : Array Field} {parts : List (DataW H)} (ht : P.underlying t = some (.struct fs)) (h : Light P t (.agg parts)) {j : Nat} {f : Field} {d : DataW H} (hf : fs[j]? = some f) (hd : parts[j]? = some d) : Light P f.type d := fun n hn => by
  refine h n ?_
  simp only [DataW.weights, ht]
  exact DataW.weights_mem_each (by simp [hf]) hd n hn
theorem mem_all {e : TypeId} : ∀ {ds : List (DataW H)} {d : DataW H}, d ∈ ds → ∀ n ∈ d.weights P e, n ∈ DataW.weightsAll P e ds
  | d0 :: r, d, hd, n, hn => by
    simp only [DataW.weightsAll, List.mem_append]
    rcases List.mem_cons.1 hd with rfl | h
    · exact Or.inl hn
    · exact Or.inr (mem_all h n hn)
theorem light_elem {t e : TypeId} {elems rest : List (DataW H)} {d : DataW H} (ht : P.underlying t = some (.slice e)) (h : Light P t (.slice elems rest)) (hd : d ∈ elems) : Light P e d := fun n hn => by
  refine h n ?_
  simp only [DataW.weights, ht, List.mem_cons, List.mem_append]
  exact Or.inr (Or.inl (mem_all hd n hn))
theorem light_len {t e : TypeId} {elems rest : List (DataW H)} (ht : P.underlying t = some (.slice e)) (h : Light P t (.slice elems rest)) : (elems.length + rest.length) * P.bytesOf e ≤ 140737488351232 :=
  h _ (by simp [DataW.weights, ht])
theorem open_light {α : Type} [Inhabited α] {E : Enc α} {Good : α → Prop} {t e : TypeId} {fuel B : Nat} {cs : List Value} {x : DataW H × List MemPlace}
    (hdec : ∀ fuel cs x, DataW.trod enc P w base spare held fuel e cs = some x → Light P e x.1 → ∃ a, cs = E.cells a ∧ Good a)
    (ht : P.underlying t = some (.slice e)) (hC : P.cellsOf e = E.sz) (hB : P.bytesOf e = B) (hB0 : 0 < B) (hL : Light P t x.1) (hf : DataW.trod enc P w base spare held fuel t cs = some x) :
    ∃ (A : Option Addr) (c : Nat) (l : List α), cs = [.slice A l.length c] ∧ l.length ≤ c ∧ c ≤ maxLen ∧ Reads E w (.slice A l.length c) l ∧ (∀ a ∈ l, Good a) ∧ l.length * B ≤ 140737488351232 := by
  rcases open_slice ht hf with ⟨rfl, _⟩ | ⟨a, len0, cap0, m, n, D, Pl, rfl, _, hl, hm, hmm, hx, hel⟩
  · exact ⟨none, 0, [], rfl, Nat.le_refl _, Nat.zero_le _, Reads.none E w, fun a h => by simp at h, by simp⟩
  · have hlm : len0 ≤ m := by rw [hmm]; split <;> omega
    subst hx
    have hlen : len0 * B ≤ 140737488351232 := by
      have z := light_len ht hL
      rw [hB] at z
      simp only [List.length_map, List.length_range] at z
      exact Nat.le_trans (Nat.mul_le_mul_right _ (by omega)) z
    have hlen1 : len0 ≤ 140737488351232 := Nat.le_trans (Nat.le_mul_of_pos_right _ hB0) hlen
    obtain ⟨f, hfx⟩ := choose_lt (n := len0) (p := fun i x => Good x ∧ ∀ k u, (E.cells x)[k]? = some u → w.cell? ((a.add (i * E.sz)).add k) = some u) (by
      intro i hi
      obtain ⟨cs', h1, h2⟩ := hel i (by omega)
      obtain ⟨x, rfl, hg⟩ := hdec _ _ _ h2 (light_elem ht hL (List.mem_map.2 ⟨i, List.mem_range.2 hi, rfl⟩))
      rw [hC] at h1
      obtain ⟨_, hln, hcell⟩ := World.cells?_some h1
      refine ⟨x, hg, fun k u hu => ?_⟩
      have hk : k < E.sz := by rw [← hln]; exact (List.getElem?_eq_some_iff.1 hu).1
      rw [hcell k hk, hu])
    refine ⟨some a, cap0, (List.range len0).map f, by simp, by simpa using hl, hm, ⟨by simp; omega, some a, cap0, by simp, fun i x hx => ?_⟩, fun x hx => ?_, by simpa using hlen⟩
    · have hi : i < len0 := by
        have := (List.getElem?_eq_some_iff.1 hx).1
        simpa using this
      have hxe : x = f i := by
        rw [List.getElem?_map, List.getElem?_range hi] at hx
        simpa using hx.symm
      subst hxe
      have hp := E.pos
      have hlen0 : (E.cells (f 0)).length = E.sz := E.len _
      have ha : a = ⟨a.block, a.off, none⟩ := by
        have h00 := (hfx 0 (by omega)).2 0 ((E.cells (f 0))[0]'(by omega)) (List.getElem?_eq_getElem _)
        rw [Nat.zero_mul] at h00
        exact spot_none h00
      refine ⟨a.block, a.off, by rw [← ha], fun k u hu => ?_⟩
      have := (hfx i hi).2 k u hu
      rw [ha, add_plain] at this
      exact this
    · obtain ⟨i, hi, rfl⟩ := List.mem_map.1 hx
      exact (hfx i (by simpa using hi)).1
end
section
variable {H : Type} {enc : TypeId × Value → H} {w : World} {base : Nat} {spare : Nat → Bool} {held : Bool}
theorem cellsOp23 : Tryz.prog.cellsOf 30 = 15 := by kernel_rfl
theorem bytesOp23 : Tryz.prog.bytesOf 30 = 88 := by kernel_rfl
theorem cellsInt : Tryz.prog.cellsOf 3 = 1 := by kernel_rfl
theorem cellsBs : Tryz.prog.cellsOf 28 = 1 := by kernel_rfl
theorem int_cell {fuel : Nat} {c : Value} {x : DataW H × List MemPlace} (h : DataW.trod enc Tryz.prog w base spare held fuel 3 [c] = some x) : ∃ n, c = .int .i64 n := by
  obtain ⟨n, e, _, _⟩ := DataW.trod_int Tryz.underlying3 h
  simp only [List.cons.injEq, and_true] at e
  exact ⟨n, e⟩
theorem bytes_cell {fuel : Nat} {c : Value} {x : DataW H × List MemPlace} (hL : Light Tryz.prog 28 x.1) (h : DataW.trod enc Tryz.prog w base spare held fuel 28 [c] = some x) : ∃ A cp, ∃ l : List Int, c = .slice A l.length cp ∧ RB w (.slice A l.length cp) l := by
  obtain ⟨A, cp, l, e, h1, h2, hr, hg, hl⟩ := open_light (E := byteE) (Good := fun n => 0 ≤ n ∧ n ≤ 255) (fun _ _ _ hx _ => u8_cells hx) Tryz.underlying28 cellsU8 bytesU8 (by decide) hL h
  refine ⟨A, cp, l, by simpa using e, by omega, hg, A, cp, rfl, h1, h2, fun i a ha => ?_⟩
  obtain ⟨_, A', c', e', h3⟩ := hr
  simp only [Value.slice.injEq] at e'
  obtain ⟨rfl, _, rfl⟩ := e'
  obtain ⟨b, off, e, hc⟩ := h3 i a ha
  have := hc 0 _ rfl
  exact ⟨b, off, e, by simpa [byteE] using this⟩
instance : Inhabited OpD := ⟨⟨0, ⟨0, 0, 0, 0, 0, 0, 0, 0, 0, 0⟩, 0, 0, 0, none, 0, 0, []⟩⟩
theorem op_cells {fuel : Nat} {cs : List Value} {x : DataW H × List MemPlace} (h : DataW.trod enc Tryz.prog w base spare held fuel 30 cs = some x) (hL : Light Tryz.prog 30 x.1) :
    ∃ o : OpD, cs = opE.cells o ∧ OpOk w (fun k => w.heap.size ≤ k) o := by
  obtain ⟨xs, n, rfl, rfl, hl, hlen, hf⟩ := DataW.trod_struct Tryz.underlying30 h
  rw [cellsOp23] at hl
  match cs, hl with
  | [c0, c1, c2, c3, c4, c5, c6, c7, c8, c9, c10, c11, c12, c13, c14], _ =>
  have hlen' : xs.length = 5 := hlen
  match xs, hlen' with
  | [y0, y1, y2, y3, y4], _ =>
  have h0 : DataW.trod enc Tryz.prog w base spare held n 3 [c0] = some y0 := by
    have z := hf 0 _ rfl
    simpa [cellsInt] using z
  have h1 : DataW.trod enc Tryz.prog w base spare held n 27 [c1, c2, c3, c4, c5, c6, c7, c8, c9, c10] = some y1 := by
    have z := hf 1 _ rfl
    simpa [cellsBody] using z
  have h2 : DataW.trod enc Tryz.prog w base spare held n 23 [c11] = some y2 := by
    have z := hf 2 _ rfl
    simpa [cellsU32] using z
  have h3 : DataW.trod enc Tryz.prog w base spare held n 25 [c12, c13] = some y3 := by
    have z := hf 3 _ rfl
    simpa [cellsVec] using z
  have h4 : DataW.trod enc Tryz.prog w base spare held n 28 [c14] = some y4 := by
    have z := hf 4 _ rfl
    simpa [cellsBs] using z
  have hL4 : Light Tryz.prog 28 y4.1 := light_part Tryz.underlying30 hL (j := 4) rfl rfl
  obtain ⟨k, rfl⟩ := int_cell h0
  obtain ⟨b, e1, hb⟩ := body_cells h1
  obtain ⟨q, rfl, _, _⟩ := u32_cell h2
  obtain ⟨px, py, rfl, hx, rfl, hy⟩ := vec_cells h3
  obtain ⟨A, cp, bs, rfl, hr⟩ := bytes_cell hL4 h4
  refine ⟨⟨k, b, q, px, py, A, bs.length, cp, bs⟩, ?_, hb, hx, hy, hr, fun k hk h0 hge => ?_⟩
  · have e1' : [c1, c2, c3, c4, c5, c6, c7, c8, c9, c10] = [.int .u32 b.key, .int .i32 b.radius, .int .i32 b.ax, .int .i32 b.ay, .int .i32 b.inv, .int .i32 b.bounce, .int .i32 b.px, .int .i32 b.py, .int .i32 b.vx, .int .i32 b.vy] := e1
    simp only [List.cons.injEq, and_true] at e1'
    obtain ⟨rfl, rfl, rfl, rfl, rfl, rfl, rfl, rfl, rfl, rfl⟩ := e1'
    rfl
  · obtain ⟨A', c', b', off, e, _, _, hA, _⟩ := hr.form
    simp only [Value.slice.injEq, true_and] at e
    obtain ⟨rfl, rfl⟩ := e
    obtain ⟨rfl, hlt⟩ := hA h0
    simp [Value.ownBlock] at hk
    omega
end
theorem open_ops {H : Type} {enc : TypeId × Value → H} {w : World} {base : Nat} {spare : Nat → Bool} {held : Bool} {r : Reach} {b0 : Nat} {v : Value} {d : DataW H} {p : List MemPlace} {ts : List TypeId} {ds : List (DataW H)} {j : Nat}
    (hsz : (DataW.weightsEach Tryz.prog ts ds).all (· ≤ reachBytes) = true) (hj : ts[j]? = some 22) (hd : ds[j]? = some d)
    (hv : Value.okWide Tryz.prog w r b0 22 v) (h : DataW.Trod enc Tryz.prog w base spare held 22 v d p) : ∃ l : List OpD, Reads opE w v l ∧ (∀ a ∈ l, OpOk w (fun k => w.heap.size ≤ k) a) ∧ l.length * 88 ≤ 140737488351232 := by
  obtain ⟨a0, len0, cap0, rfl⟩ := okWide_slice Tryz.underlying22 hv
  obtain ⟨fuel, hf⟩ := h
  obtain ⟨A, c, l, e, _, _, hr, hg, hl⟩ := open_light (E := opE) (Good := OpOk w (fun k => w.heap.size ≤ k)) (fun _ _ _ hx hL => op_cells hx hL) Tryz.underlying22 cellsOp23 bytesOp23 (by decide) (light_top hsz hj hd) hf
  have e' : Value.slice a0 len0 cap0 = .slice A l.length c := by simpa [Value.cells] using e
  rw [e']
  exact ⟨l, hr, hg, hl⟩
theorem open_op {H : Type} {enc : TypeId × Value → H} {w : World} {base : Nat} {spare : Nat → Bool} {held : Bool} {r : Reach} {b0 : Nat} {v : Value} {d : DataW H} {p : List MemPlace} {ts : List TypeId} {ds : List (DataW H)} {j : Nat}
    (hsz : (DataW.weightsEach Tryz.prog ts ds).all (· ≤ reachBytes) = true) (hj : ts[j]? = some 30) (hd : ds[j]? = some d)
    (hv : Value.okWide Tryz.prog w r b0 30 v) (h : DataW.Trod enc Tryz.prog w base spare held 30 v d p) : ∃ o : OpD, v = .agg (OpA o.k o.b o.q o.x o.y o.A o.n o.c) ∧ OpOk w (fun k => w.heap.size ≤ k) o := by
  obtain ⟨cs, rfl, _⟩ := okWide_struct Tryz.underlying30 hv
  obtain ⟨fuel, hf⟩ := h
  obtain ⟨o, e, ho⟩ := op_cells hf (light_top hsz hj hd)
  exact ⟨o, by rw [show cs = OpA o.k o.b o.q o.x o.y o.A o.n o.c from Array.toList_inj.1 e], ho⟩
end Go.Proofs.YtnhaiecbjipodaaGreatDoor
