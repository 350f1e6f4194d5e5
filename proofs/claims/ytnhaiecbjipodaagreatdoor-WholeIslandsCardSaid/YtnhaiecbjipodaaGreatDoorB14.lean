/- Contracts of the program's functions, by walks, and plain facts beside them: Bytes, Copy. -/
import Derived.Test.YtnhaiecbjipodaaGreatDoorB02
import Derived.Test.YtnhaiecbjipodaaGreatDoorRows
import Derived.ArgAppend
import Derived.Lib.EndianBits
import Derived.Lib.Hide
/- Slices of bytes: what is read, what the call itself has made, what an append leaves; words of four bytes. -/
namespace Go.Proofs.YtnhaiecbjipodaaGreatDoor
open Go.RowKit

def byteE : Enc Int := ⟨1, fun n => [.int .u8 n], fun _ => rfl, fun b u hu => by simp at hu; subst hu; rfl, by decide⟩
theorem byte_flat (l : List Int) : l.flatMap byteE.cells = l.map (Value.int .u8) := by
  induction l with
  | nil => rfl
  | cons a r ih => rw [List.flatMap_cons, ih]; rfl

/-- The value is a slice of bytes that reads as this list. -/
def RB (w : World) (v : Value) (l : List Int) : Prop :=
  l.length ≤ 140737488355328 ∧ (∀ a ∈ l, 0 ≤ a ∧ a ≤ 255) ∧ ∃ A c, v = .slice A l.length c ∧ l.length ≤ c ∧ c ≤ maxLen ∧ ∀ i a, l[i]? = some a → ∃ b off, A = some ⟨b, off, none⟩ ∧ w.cell? ⟨b, off + i, none⟩ = some (.int .u8 a)
abbrev byteT : TypeId := 5
/-- A slice of bytes of the call's own. -/
def OB (w : World) (base : Nat) (v : Value) (l : List Int) : Prop := (∀ a ∈ l, 0 ≤ a ∧ a ≤ 255) ∧ Own byteE byteT w base v l
/-- Of the call's own, or without room. -/
def OF (w : World) (base : Nat) (v : Value) (l : List Int) : Prop := (∀ a ∈ l, 0 ≤ a ∧ a ≤ 255) ∧ (Own byteE byteT w base v l ∨ ∃ g, v = .slice (some ⟨g, 0, none⟩) l.length l.length ∧ base ≤ g ∧ ∀ i a, l[i]? = some a → w.cell? ⟨g, i, none⟩ = some (.int .u8 a))

section
variable {w w' : World} {v : Value} {l m : List Int} {base : Nat}
theorem RB.below (h : RB w v l) (hb : Below w.heap.size w w') : RB w' v l := by
  obtain ⟨h1, h1', A, c, h2, h3, h4, h5⟩ := h
  refine ⟨h1, h1', A, c, h2, h3, h4, fun i a ha => ?_⟩
  obtain ⟨b, off, e, hc⟩ := h5 i a ha
  exact ⟨b, off, e, (hb.cell (World.block_lt_of_cell? w _ hc)).trans hc⟩
theorem RB.grow (h : RB w v l) (g : Grow w) : RB g.world v l := h.below g.below
theorem RB.alloc (h : RB w v l) (o : Obj) : RB (w.alloc o) v l := h.below ((Below.refl _ _).alloc (Nat.le_refl _) _)
theorem RB.form (h : RB w v l) : ∃ A c b off, v = .slice A l.length c ∧ l.length ≤ c ∧ c ≤ maxLen ∧ (0 < l.length → A = some ⟨b, off, none⟩ ∧ b < w.heap.size) ∧ ∀ i (hi : i < l.length), w.cell? ⟨b, off + i, none⟩ = some (.int .u8 l[i]) := by
  obtain ⟨_, _, A, c, h2, h3, h4, h5⟩ := h
  by_cases hl : 0 < l.length
  · obtain ⟨b, off, e, hc⟩ := h5 0 l[0] (List.getElem?_eq_getElem hl)
    refine ⟨A, c, b, off, h2, h3, h4, fun _ => ⟨e, World.block_lt_of_cell? w _ hc⟩, fun i hi => ?_⟩
    obtain ⟨b', off', e', hc'⟩ := h5 i l[i] (List.getElem?_eq_getElem hi)
    rw [e] at e'
    simp only [Option.some.injEq, Addr.mk.injEq, and_true] at e'
    obtain ⟨rfl, rfl⟩ := e'
    exact hc'
  · exact ⟨A, c, 0, 0, h2, h3, h4, fun h => absurd h hl, fun i hi => absurd hi (by omega)⟩
theorem RB.none (w : World) : RB w (.slice Option.none 0 0) [] := ⟨by simp, by simp, Option.none, 0, rfl, by simp, by simp, fun i a h => by simp at h⟩
theorem OB.reads (h : OB w base v l) (hl : l.length ≤ 140737488355328) : RB w v l := by
  obtain ⟨hf, h⟩ := h
  rcases h.2 with ⟨rfl, h0⟩ | ⟨g, cap, cur, rfl, _, _, hn, hc, _⟩
  · obtain rfl : l = [] := List.eq_nil_of_length_eq_zero h0
    exact RB.none w
  · refine ⟨hl, hf, _, _, rfl, hn, hc, fun i a ha => ⟨g, 0, rfl, ?_⟩⟩
    have := World.ownsRow.cells h (g := g) rfl i (.int .u8 a) (by rw [byte_flat]; simp [ha])
    rwa [show (⟨g, 0, Option.none⟩ : Addr).add i = ⟨g, 0 + i, Option.none⟩ from by unfold Addr.add; split <;> simp_all] at this
theorem OB.nil (w : World) (base : Nat) : OB w base (.slice Option.none 0 0) [] := ⟨by simp, Own.nil byteE byteT w base⟩
theorem OB.kept {row : Option Nat} (h : OB w base v l) (hg : w.grownBy w' row) (hne : v.ownBlock = Option.none ∨ v.ownBlock ≠ row) : OB w' base v l := ⟨h.1, h.2.kept hg hne⟩
theorem OB.below (h : OB w base v l) (hb : Below w.heap.size w w') : OB w' base v l := ⟨h.1, h.2.below hb⟩
theorem ob_base {base2 : Nat} (h : OB w base v l) (hb : base2 ≤ base) : OB w base2 v l := by
  refine ⟨h.1, h.2.1, ?_⟩
  rcases h.2.2 with h0 | ⟨g, cap, cur, e, hg, r⟩
  · exact .inl h0
  · exact .inr ⟨g, cap, cur, e, Nat.le_trans hb hg, r⟩
theorem OB.of (h : OB w base v l) : OF w base v l := ⟨h.1, .inl h.2⟩
theorem OF.form (h : OF w base v l) : ∃ A c, v = .slice A l.length c := by
  rcases h.2 with h | ⟨g, rfl, _⟩
  · exact h.form
  · exact ⟨_, _, rfl⟩
theorem OF.below (h : OF w base v l) (hb : Below w.heap.size w w') : OF w' base v l := by
  refine ⟨h.1, ?_⟩
  rcases h.2 with h | ⟨g, e, hg, hc⟩
  · exact .inl (h.below hb)
  · exact .inr ⟨g, e, hg, fun i a ha => (hb.cell (World.block_lt_of_cell? w _ (hc i a ha))).trans (hc i a ha)⟩
end

theorem byte_info : (Tryz.prog.info? byteT).map (fun i => (i.zero, i.size, i.bytes)) = some (some (.int .u8 0), 1, 1) := by kernel_rfl
section
variable {ops : Array Oper} {rest : List Oper} {o : Oper} {a : Act} {Q : Exit → Act → World → Prop}
/-- append(v, y...) for bytes: v is the call's own, or has no room. -/
theorem bytes_append {w0 W : World} (base : Nat) (hgd : o.guard = none) (s x : Operand)
    (ho : o.op = .call { callee := .builtin .append, args := #[s, x], argTypes := #[28, 28] })
    (v : Value) (l ys : List Int) (hs : a.eval s = v) (ad : Addr) (c : Nat) (hx : a.eval x = .slice (some ad) ys.length c)
    (hy : ∀ b ∈ ys, 0 ≤ b ∧ b ≤ 255) (h0 : 0 < ys.length) (hnews : ∀ j u, ys[j]? = some u → W.cell? (ad.add j) = some (.int .u8 u))
    (HO : OF W base v l) (HB : Below base w0 W) (hbase : base ≤ W.heap.size) (hl : l.length + ys.length ≤ 140737488355328)
    (h : ∀ v1 w1, OB w1 base v1 (l ++ ys) → Below base w0 w1 → base ≤ w1.heap.size → W.heap.size ≤ w1.heap.size → wpList Tryz.prog ops Q rest (a.put o.dst v1) w1) :
    wpList Tryz.prog ops Q (o :: rest) a W := by
  obtain ⟨i0, hi, hz0, hz1, hz2⟩ := info_parts byte_info
  have hone : ∀ u ∈ ys.map (Value.int .u8), u.oneCell' = true := by
    intro u hu
    obtain ⟨n, _, rfl⟩ := List.mem_map.1 hu
    rfl
  have hn' : ∀ j u, (ys.map (Value.int .u8))[j]? = some u → W.cell? (ad.add j) = some u := by
    intro j u hu
    rw [List.getElem?_map] at hu
    obtain ⟨n, hn, rfl⟩ := Option.map_eq_some_iff.1 hu
    exact hnews j n hn
  have hfit : ∀ b ∈ l ++ ys, 0 ≤ b ∧ b ≤ 255 := fun b hb => (List.mem_append.1 hb).elim (HO.1 b) (hy b)
  rcases HO.2 with HO | ⟨g, rfl, hg, hc⟩
  · refine wpList_append_own_at W hgd s x 28 ho base byteT i0 (.int .u8 0) 1 1 Tryz.underlying28 hi hz0 hz1 hz2 rfl (by decide) v l.length (l.flatMap byteE.cells) hs HO ad ys.length c (ys.map (Value.int .u8)) hx (by simp)
      hn' hone (by simp only [maxLen]; omega) (by omega) hbase ?_
    intro v1 w1 hown hg _ _
    refine h v1 w1 ⟨hfit, ?_⟩ (HB.grown hg hbase (fun k hk => Own.base_le HO k hk)) (Nat.le_trans hbase hg.size) hg.size
    unfold Own
    rw [List.length_append, List.flatMap_append, byte_flat ys]
    simpa [byteE] using hown
  · refine wpList_append_grows W hgd s x 28 ho byteT i0 (.int .u8 0) 1 1 Tryz.underlying28 hi hz0 hz1 hz2 rfl (by decide) (some ⟨g, 0, none⟩) l.length l.length (l.map (Value.int .u8)) hs (by simp) (by simp)
      (fun b hb j u hu => ?_) ad ys.length c (ys.map (Value.int .u8)) hx (by simp) hn' hone (by omega) (by simp only [maxLen]; omega) (by omega) ?_
    · obtain rfl : (⟨g, 0, none⟩ : Addr) = b := by simpa using hb
      rw [List.getElem?_map] at hu
      obtain ⟨n, hn, rfl⟩ := Option.map_eq_some_iff.1 hu
      rw [show (⟨g, 0, none⟩ : Addr).add j = ⟨g, j, none⟩ from by unfold Addr.add; split <;> simp_all]
      exact hc j n hn
    · intro v1 w1 hown hg
      refine h v1 w1 ⟨hfit, ?_⟩ (HB.grown hg hbase (fun k hk => by simp at hk)) (Nat.le_trans hbase hg.size) hg.size
      unfold Own
      rw [List.length_append, List.flatMap_append, byte_flat ys, byte_flat l]
      rcases hown with ⟨_, h2⟩
      refine ⟨by simp [byteE], ?_⟩
      rcases h2 with ⟨_, h2⟩ | ⟨g', cap, cur, e1, e2, e3⟩
      · omega
      · exact .inr ⟨g', cap, cur, by simpa using e1, Nat.le_trans hbase e2, by simpa [byteE] using e3⟩
end

/-- A number in four bytes. -/
def word4 (n : Int) : List Int := [n / 16777216, n / 65536 % 256, n / 256 % 256, n % 256]
theorem word4_fit {n : Int} (h0 : 0 ≤ n) (h1 : n ≤ 4294967295) : ∀ b ∈ word4 n, 0 ≤ b ∧ b ≤ 255 := by
  intro b hb
  simp only [word4, List.mem_cons, List.not_mem_nil, or_false] at hb
  omega
theorem word4_len (n : Int) : (word4 n).length = 4 := rfl
/-- The number that four bytes spell. -/
def num4 (a b c d : Int) : Int := ((a * 256 + b) * 256 + c) * 256 + d
theorem num4_word (n : Int) : num4 (n / 16777216) (n / 65536 % 256) (n / 256 % 256) (n % 256) = n := by
  unfold num4; omega
theorem word4_num {a b c d : Int} (hb : 0 ≤ b ∧ b ≤ 255) (hc : 0 ≤ c ∧ c ≤ 255) (hd : 0 ≤ d ∧ d ≤ 255) : word4 (num4 a b c d) = [a, b, c, d] := by
  have e1 : num4 a b c d / 16777216 = a := by unfold num4; omega
  have e2 : num4 a b c d / 65536 % 256 = b := by unfold num4; omega
  have e3 : num4 a b c d / 256 % 256 = c := by unfold num4; omega
  have e4 : num4 a b c d % 256 = d := by unfold num4; omega
  simp only [word4, e1, e2, e3, e4]
end Go.Proofs.YtnhaiecbjipodaaGreatDoor
/- append([]T{}, y...): a copy. No program in it. -/
namespace Go.Proofs.YtnhaiecbjipodaaGreatDoor
open Go.RowKit
section
variable {P : Program} {ops : Array Oper} {rest : List Oper} {o : Oper} {a : Act} {Q : Exit → Act → World → Prop}
theorem run_append_zero (W : World) (t ty e : TypeId) (i : TypeInfo) (ht : P.underlying t = some (.slice e)) (hi : P.info? e = some i) (g c : Nat) (A : Option Addr) :
    (Builtin.append_ #[t, t] ty #[.slice (some ⟨g, 0, none⟩) 0 0, .slice A 0 c]).run P W = .ok (.slice (some ⟨g, 0, none⟩) 0 0) W := by
  cases A
  all_goals simp [Builtin.append_, run_underlying ht, sizeOf, typeInfo, hi, Builtin.lenOf, Builtin.firstCells, storeCells, loadCells, loadCellsFrom]
theorem copy_law {α : Type} (E : Enc α) {W : World} (base : Nat) (hgd : o.guard = none) (s x : Operand) (t e : TypeId) (z : Value) (bytes : Nat)
    (ho : o.op = .call { callee := .builtin .append, args := #[s, x], argTypes := #[t, t] })
    (ht : P.underlying t = some (.slice e)) (hinfo : (P.info? e).map (fun i => (i.zero, i.size, i.bytes)) = some (some z, E.sz, bytes)) (hz : z.cells.size = E.sz) (hb0 : 0 < bytes)
    (g : Nat) (hg : W.heap[g]? = some (.cells #[] e (0, 0))) (hbg : base ≤ g) (l : List α) (A : Option Addr) (c : Nat) (hs : a.eval s = .slice (some ⟨g, 0, none⟩) 0 0) (hx : a.eval x = .slice A l.length c)
    (hA : 0 < l.length → ∃ ad, A = some ad ∧ ∀ j u, (l.flatMap E.cells)[j]? = some u → W.cell? (ad.add j) = some u) (hl : l.length * bytes ≤ 140737488355328)
    (h : ∀ v1 (g' : Grow W), Own E e g'.world base v1 l → wpList P ops Q rest (a.put o.dst v1) g'.world) :
    wpList P ops Q (o :: rest) a W := by
  obtain ⟨i0, hi, hzz⟩ := Option.map_eq_some_iff.1 hinfo
  simp only [Prod.mk.injEq] at hzz
  obtain ⟨hz0, hz1, hz2⟩ := hzz
  by_cases h0 : 0 < l.length
  · obtain ⟨ad, rfl, hc⟩ := hA h0
    have hlen : l.length ≤ 140737488355328 := Nat.le_trans (Nat.le_mul_of_pos_right _ hb0) hl
    refine wpList_append_grows W hgd s x t ho e i0 z E.sz bytes ht hi hz0 hz1 hz2 hz E.pos (some ⟨g, 0, none⟩) 0 0 [] hs (by simp) (by simp) (by simp) ad l.length c (l.flatMap E.cells) hx (flat_len E l) hc (fun u hu => by
      obtain ⟨y, _, hy⟩ := List.mem_flatMap.1 hu
      exact E.one y u hy) (by omega) (by simp only [maxLen]; omega) (by rw [Nat.zero_add]; exact hl) ?_
    intro v1 w1 hown hg1
    refine h v1 ⟨w1, ⟨hg1.os, hg1.tape, hg1.output, hg1.size, fun k hk => hg1.block k hk (by simp)⟩⟩ ?_
    show Own E e w1 base v1 l
    have hlt := lt_of_block hg
    rcases hown with ⟨h1, h2⟩
    refine ⟨by simpa using h1, ?_⟩
    rcases h2 with ⟨h3, h4⟩ | ⟨g2, cap, cur, e1, e2, e3⟩
    · omega
    · exact .inr ⟨g2, cap, cur, by simpa using e1, by omega, by simpa using e3⟩
  · obtain rfl : l = [] := List.eq_nil_of_length_eq_zero (by omega)
    refine wpList_plain hgd fun K hK => ?_
    unfold Oper.wp execOp
    simp only [ho, resolve, invoke, builtin, Sem.run_bind, Sem.run_pure, Result.andThen_ok, List.map_toArray, List.map_cons, List.map_nil, hs, hx]
    have hr := run_append_zero (P := P) W t o.type e i0 ht hi g c A
    simp only [List.length_nil] at *
    rw [hr]
    refine hK _ _ (h _ ⟨W, Below.refl _ _⟩ ⟨by simp, .inr ⟨g, 0, #[], rfl, hbg, hg, Nat.le_refl _, by simp, by simp, by simp⟩⟩)
end
end Go.Proofs.YtnhaiecbjipodaaGreatDoor
