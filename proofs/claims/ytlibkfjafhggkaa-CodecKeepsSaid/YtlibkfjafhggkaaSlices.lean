/- Slices of structs: what is read, what the call itself has made, what an append leaves. No program in it. -/
import Derived.Test.YtlibkfjafhggkaaGrow
import Derived.Test.YtlibkfjafhggkaaData
import Derived.OwnWalk
import Derived.Maps.AppendAt
import Derived.Deep.AppendLies
import Derived.Laws.OwnMore
namespace Go.Proofs.Ytlibkfjafhggkaa
open Go.RowKit

/-- How a value of some type lies in memory. -/
structure Enc (α : Type) where
  sz : Nat
  cells : α → List Value
  len : ∀ a, (cells a).length = sz
  one : ∀ a, ∀ u ∈ cells a, u.oneCell' = true
  pos : 0 < sz
def bodyE : Enc Body := ⟨10, fun b => b.cells.toList, fun _ => rfl, fun b u hu => by
  simp [Body.cells] at hu
  rcases hu with rfl | rfl | rfl | rfl | rfl | rfl | rfl | rfl | rfl | rfl <;> rfl, by decide⟩

/-- The value is a slice that reads as this list. -/
def Reads {α : Type} (E : Enc α) (w : World) (v : Value) (l : List α) : Prop :=
  l.length ≤ 140737488355328 ∧ ∃ A c, v = .slice A l.length c ∧ ∀ i a, l[i]? = some a → ∃ b off, A = some ⟨b, off, none⟩ ∧ ∀ j u, (E.cells a)[j]? = some u → w.cell? ⟨b, off + i * E.sz + j, none⟩ = some u
/-- The value is a slice of the call's own that holds this list. -/
def Own {α : Type} (E : Enc α) (t : TypeId) (w : World) (base : Nat) (v : Value) (l : List α) : Prop := w.ownsRow base t E.sz v l.length (l.flatMap E.cells)

section
variable {α : Type} {E : Enc α} {t : TypeId} {w w' : World} {v : Value} {l : List α} {base : Nat}
theorem Reads.below (h : Reads E w v l) (hb : Below w.heap.size w w') : Reads E w' v l := by
  obtain ⟨h1, A, c, h2, h3⟩ := h
  refine ⟨h1, A, c, h2, fun i a ha => ?_⟩
  obtain ⟨b, off, e, hc⟩ := h3 i a ha
  exact ⟨b, off, e, fun j u hu => (hb.cell (World.block_lt_of_cell? w _ (hc j u hu))).trans (hc j u hu)⟩
theorem Reads.grow (h : Reads E w v l) (g : Grow w) : Reads E g.world v l := h.below g.below
theorem Reads.alloc (h : Reads E w v l) (o : Obj) : Reads E (w.alloc o) v l := h.below ((Below.refl _ _).alloc (Nat.le_refl _) _)
theorem Reads.form (h : Reads E w v l) : ∃ A c b off, v = .slice A l.length c ∧ (0 < l.length → A = some ⟨b, off, none⟩ ∧ b < w.heap.size) ∧ ∀ i (hi : i < l.length), ∀ j u, (E.cells l[i])[j]? = some u → w.cell? ⟨b, off + i * E.sz + j, none⟩ = some u := by
  obtain ⟨_, A, c, h2, h3⟩ := h
  by_cases hl : 0 < l.length
  · obtain ⟨b, off, e, hc⟩ := h3 0 l[0] (List.getElem?_eq_getElem hl)
    refine ⟨A, c, b, off, h2, fun _ => ⟨e, ?_⟩, fun i hi => ?_⟩
    · have hp := E.pos
      have hlen : (E.cells l[0]).length = E.sz := E.len _
      obtain ⟨u, hu⟩ : ∃ u, (E.cells l[0])[0]? = some u := ⟨(E.cells l[0])[0]'(by omega), List.getElem?_eq_getElem _⟩
      exact World.block_lt_of_cell? w _ (hc 0 u hu)
    · obtain ⟨b', off', e', hc'⟩ := h3 i l[i] (List.getElem?_eq_getElem hi)
      rw [e] at e'
      simp only [Option.some.injEq, Addr.mk.injEq, and_true] at e'
      obtain ⟨rfl, rfl⟩ := e'
      exact hc'
  · exact ⟨A, c, 0, 0, h2, fun h => absurd h hl, fun i hi => absurd hi (by omega)⟩
theorem Reads.len (h : Reads E w v l) : l.length ≤ 140737488355328 := h.1
theorem Reads.none (E : Enc α) (w : World) : Reads E w (.slice none 0 0) ([] : List α) := ⟨by simp, Option.none, 0, rfl, fun i a h => by simp at h⟩

/-- The ten cells of a body at an address. -/
def TenAt (w : World) (b o : Nat) (x : Body) : Prop :=
  w.cell? ⟨b, o, none⟩ = some (.int .u32 x.key) ∧ w.cell? ⟨b, o + 1, none⟩ = some (.int .i32 x.radius) ∧ w.cell? ⟨b, o + 2, none⟩ = some (.int .i32 x.ax) ∧ w.cell? ⟨b, o + 3, none⟩ = some (.int .i32 x.ay) ∧ w.cell? ⟨b, o + 4, none⟩ = some (.int .i32 x.inv) ∧
  w.cell? ⟨b, o + 5, none⟩ = some (.int .i32 x.bounce) ∧ w.cell? ⟨b, o + 6, none⟩ = some (.int .i32 x.px) ∧ w.cell? ⟨b, o + 7, none⟩ = some (.int .i32 x.py) ∧ w.cell? ⟨b, o + 8, none⟩ = some (.int .i32 x.vx) ∧ w.cell? ⟨b, o + 9, none⟩ = some (.int .i32 x.vy)
theorem ten_of {b o : Nat} {x : Body} (h : ∀ j u, (bodyE.cells x)[j]? = some u → w.cell? ⟨b, o + j, Option.none⟩ = some u) : TenAt w b o x :=
  ⟨h 0 _ rfl, h 1 _ rfl, h 2 _ rfl, h 3 _ rfl, h 4 _ rfl, h 5 _ rfl, h 6 _ rfl, h 7 _ rfl, h 8 _ rfl, h 9 _ rfl⟩

theorem TenAt.below {b o : Nat} {x : Body} (h : TenAt w b o x) (hb : Below w.heap.size w w') : TenAt w' b o x := by
  obtain ⟨h0, h1, h2, h3, h4, h5, h6, h7, h8, h9⟩ := h
  have z : b < w.heap.size := World.block_lt_of_cell? w _ h0
  exact ⟨(keepB hb b z _).trans h0, (keepB hb b z _).trans h1, (keepB hb b z _).trans h2, (keepB hb b z _).trans h3, (keepB hb b z _).trans h4, (keepB hb b z _).trans h5, (keepB hb b z _).trans h6, (keepB hb b z _).trans h7, (keepB hb b z _).trans h8, (keepB hb b z _).trans h9⟩
/-- The ten cells of a body at the head of a block. -/
def BoxAt (w : World) (b : Nat) (x : Body) : Prop :=
  w.cell? ⟨b, 0, none⟩ = some (.int .u32 x.key) ∧ w.cell? ⟨b, 1, none⟩ = some (.int .i32 x.radius) ∧ w.cell? ⟨b, 2, none⟩ = some (.int .i32 x.ax) ∧ w.cell? ⟨b, 3, none⟩ = some (.int .i32 x.ay) ∧ w.cell? ⟨b, 4, none⟩ = some (.int .i32 x.inv) ∧
  w.cell? ⟨b, 5, none⟩ = some (.int .i32 x.bounce) ∧ w.cell? ⟨b, 6, none⟩ = some (.int .i32 x.px) ∧ w.cell? ⟨b, 7, none⟩ = some (.int .i32 x.py) ∧ w.cell? ⟨b, 8, none⟩ = some (.int .i32 x.vx) ∧ w.cell? ⟨b, 9, none⟩ = some (.int .i32 x.vy)
theorem box_of {b : Nat} {x : Body} {t : TypeId} (h : w.heap[b]? = some (.cells x.cells t (0, 0))) : BoxAt w b x := by
  have hc : ∀ j, w.cell? ⟨b, j, Option.none⟩ = x.cells[j]? := fun j => by simp [World.cell?, h]
  exact ⟨hc 0, hc 1, hc 2, hc 3, hc 4, hc 5, hc 6, hc 7, hc 8, hc 9⟩
/-- A slice of bodies: its parts, and where each body lies. -/
theorem Reads.bodies {l : List Body} (h : Reads bodyE w v l) : ∃ A c b off, v = .slice A l.length c ∧ (0 < l.length → A = some ⟨b, off, Option.none⟩ ∧ b < w.heap.size) ∧ ∀ i (hi : i < l.length), TenAt w b (off + i * 10) l[i] := by
  obtain ⟨A, c, b, off, h1, h2, h3⟩ := h.form
  exact ⟨A, c, b, off, h1, h2, fun i hi => ten_of (h3 i hi)⟩
theorem flat_len (E : Enc α) (l : List α) : (l.flatMap E.cells).length = l.length * E.sz := by
  induction l with
  | nil => simp
  | cons a r ih => simp [List.flatMap_cons, ih, E.len, Nat.succ_mul, Nat.add_comm]
theorem flat_get (E : Enc α) : ∀ (l : List α) (i : Nat) (a : α) (j : Nat) (u : Value), l[i]? = some a → (E.cells a)[j]? = some u → (l.flatMap E.cells)[i * E.sz + j]? = some u
  | [], i, a, j, u, h, _ => by simp at h
  | b :: r, 0, a, j, u, h, hu => by
    simp at h
    subst h
    have hj : j < (E.cells b).length := (List.getElem?_eq_some_iff.1 hu).1
    rw [List.flatMap_cons, Nat.zero_mul, Nat.zero_add, List.getElem?_append_left hj, hu]
  | b :: r, i + 1, a, j, u, h, hu => by
    have hh : r[i]? = some a := by simpa using h
    rw [List.flatMap_cons, List.getElem?_append_right (by rw [E.len, Nat.succ_mul]; omega), E.len, show (i + 1) * E.sz + j - E.sz = i * E.sz + j from by rw [Nat.succ_mul]; omega]
    exact flat_get E r i a j u hh hu

theorem Own.nil (E : Enc α) (t : TypeId) (w : World) (base : Nat) : Own E t w base (.slice Option.none 0 0) ([] : List α) := ⟨by simp, .inl ⟨rfl, rfl⟩⟩
theorem Own.reads (h : Own E t w base v l) (hl : l.length ≤ 140737488355328) : Reads E w v l := by
  rcases h.2 with ⟨rfl, h0⟩ | ⟨g, cap, cur, rfl, _, _, _⟩
  · obtain rfl : l = [] := List.eq_nil_of_length_eq_zero h0
    exact Reads.none E w
  · refine ⟨hl, _, _, rfl, fun i a ha => ⟨g, 0, rfl, fun j u hu => ?_⟩⟩
    have := World.ownsRow.cells h (g := g) rfl (i * E.sz + j) u (flat_get E l i a j u ha hu)
    rwa [show (⟨g, 0, Option.none⟩ : Addr).add (i * E.sz + j) = ⟨g, 0 + i * E.sz + j, Option.none⟩ from by unfold Addr.add; split <;> simp_all] at this
theorem Own.form (h : Own E t w base v l) : ∃ A c, v = .slice A l.length c := by
  rcases h.2 with ⟨rfl, h0⟩ | ⟨g, cap, cur, rfl, _⟩
  · exact ⟨Option.none, 0, by rw [h0]⟩
  · exact ⟨_, cap, rfl⟩
theorem Own.kept {row : Option Nat} (h : Own E t w base v l) (hg : w.grownBy w' row) (hne : v.ownBlock = Option.none ∨ v.ownBlock ≠ row) : Own E t w' base v l := World.ownsRow.kept h hg hne
theorem Own.alloc (h : Own E t w base v l) (o : Obj) : Own E t (w.alloc o) base v l := World.ownsRow.alloc h o
theorem Own.below (h : Own E t w base v l) (hb : Below w.heap.size w w') : Own E t w' base v l :=
  h.kept (row := Option.none) ⟨hb.os, hb.tape, hb.output, hb.size, fun i hi _ => hb.block i hi⟩ (by cases v.ownBlock <;> simp)
theorem Own.base_le (h : Own E t w base v l) (k : Nat) (hk : v.ownBlock = some k) : base ≤ k := by
  rcases h.2 with ⟨rfl, _⟩ | ⟨g, cap, cur, rfl, hb, _⟩
  · simp [Value.ownBlock] at hk
  · have : g = k := by simpa [Value.ownBlock] using hk
    omega
end

section
variable {P : Program} {ops : Array Oper} {rest : List Oper} {o : Oper} {a : Act} {Q : Exit → Act → World → Prop}
/-- append(v, x), x one value: behind 'at_builtin'; the goal's world is 'W.alloc' of the variadic's row. -/
theorem own_append {α : Type} (E : Enc α) {w0 W : World} (base : Nat) (hgd : o.guard = none) (s x : Operand) (t e : TypeId) (z : Value) (bytes : Nat)
    (ho : o.op = .call { callee := .builtin .append, args := #[s, x], argTypes := #[t, t] })
    (ht : P.underlying t = some (.slice e)) (hinfo : (P.info? e).map (fun i => (i.zero, i.size, i.bytes)) = some (some z, E.sz, bytes)) (hz : z.cells.size = E.sz) (hb0 : 0 < bytes)
    (v : Value) (l : List α) (y : α) (cs : Array Value) (hcs : cs.toList = E.cells y) (hs : a.eval s = v) (hx : a.eval x = .slice (some ⟨W.heap.size, 0, none⟩) 1 1)
    (HO : Own E e W base v l) (HB : Below base w0 W) (hbase : base ≤ W.heap.size) (hl : (l.length + 1) * bytes ≤ 140737488355328)
    (h : ∀ v1 w1, Own E e w1 base v1 (l ++ [y]) → Below base w0 w1 → W.grownBy w1 v.ownBlock → base ≤ w1.heap.size → wpList P ops Q rest (a.put o.dst v1) w1) :
    wpList P ops Q (o :: rest) a (W.alloc (.cells cs e)) := by
  obtain ⟨i0, hi, hzz⟩ := Option.map_eq_some_iff.1 hinfo
  simp only [Prod.mk.injEq] at hzz
  obtain ⟨hz0, hz1, hz2⟩ := hzz
  have hlen : l.length + 1 ≤ 140737488355328 := Nat.le_trans (Nat.le_mul_of_pos_right _ hb0) hl
  refine wpList_append_own_at (W.alloc (.cells cs e)) hgd s x t ho base e i0 z E.sz bytes ht hi hz0 hz1 hz2 hz E.pos v l.length (l.flatMap E.cells) hs (World.ownsRow.alloc HO _) ⟨W.heap.size, 0, none⟩ 1 1 (E.cells y) hx (by rw [E.len]; omega)
    (fun j u hu => World.news_of_block (cs := cs) (t := e) (fr := (0, 0)) (heap_alloc_new W _) j u (by rw [hcs]; exact hu)) (E.one y) (by simp only [maxLen]; omega) hl (by simp; omega) ?_
  intro v1 w1 hown hg _ _
  have hg' := World.grownBy.trans (World.grownBy_alloc W (.cells cs e) _) hg
  refine h v1 w1 ?_ ((HB.alloc hbase _).grown hg (by simp; omega) (fun k hk => Own.base_le HO k hk)) hg' (Nat.le_trans hbase hg'.size)
  unfold Own
  rw [List.length_append, List.flatMap_append]
  simpa using hown
end
end Go.Proofs.Ytlibkfjafhggkaa
