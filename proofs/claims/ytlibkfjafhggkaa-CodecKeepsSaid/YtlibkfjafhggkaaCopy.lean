/- append([]T{}, y...): a copy. No program in it. -/
import Derived.Test.YtlibkfjafhggkaaBytes
import Derived.ArgAppend
namespace Go.Proofs.Ytlibkfjafhggkaa
open Go.RowKit
section
variable {P : Program} {ops : Array Oper} {rest : List Oper} {o : Oper} {a : Act} {Q : Exit → Act → World → Prop}
theorem run_append_zero (W : World) (t ty e : TypeId) (i : TypeInfo) (ht : P.underlying t = some (.slice e)) (hi : P.info? e = some i) (g c : Nat) (A : Option Addr) :
    (Builtin.append_ #[t, t] ty #[.slice (some ⟨g, 0, none⟩) 0 0, .slice A 0 c]).run P W = .ok (.slice (some ⟨g, 0, none⟩) 0 0) W := by
  cases A
  all_goals simp [Builtin.append_, run_underlying ht, sizeOf, typeInfo, hi, Builtin.lenOf, Builtin.firstCells, storeCells, loadCells, loadCellsFrom]
theorem copy_law {α : Type} (E : Enc α) {W : World} (base : Nat) (hgd : o.guard = none) (s x : Operand) (t e : TypeId) (z : Value) (bytes : Nat)
    (ho : o.op = .call { callee := .builtin .append, args := #[s, x], argTypes := #[t, t] })
    (ht : P.underlying t = some (.slice e)) (hinfo : (P.info? e).map (fun i => (i.zero, i.size, i.bytes)) = some (some z, E.sz, bytes)) (hz : z.cells.size = E.sz) (hb0 : 0 < bytes)
    (g : Nat) (hg : W.heap[g]? = some (.cells #[] e (0, 0))) (hbg : base ≤ g) (l : List α) (A : Option Addr) (c : Nat) (hs : a.eval s = .slice (some ⟨g, 0, none⟩) 0 0) (hx : a.eval x = .slice A l.length c)
    (hA : 0 < l.length → ∃ ad, A = some ad ∧ ∀ j u, (l.flatMap E.cells)[j]? = some u → W.cell? (ad.add j) = some u) (hl : l.length * bytes ≤ 140737488355328)
    (h : ∀ v1 (g' : Grow W), Own E e g'.world base v1 l → wpList P ops Q rest (a.put o.dst v1) g'.world) :
    wpList P ops Q (o :: rest) a W := by
  obtain ⟨i0, hi, hzz⟩ := Option.map_eq_some_iff.1 hinfo
  simp only [Prod.mk.injEq] at hzz
  obtain ⟨hz0, hz1, hz2⟩ := hzz
  by_cases h0 : 0 < l.length
  · obtain ⟨ad, rfl, hc⟩ := hA h0
    have hlen : l.length ≤ 140737488355328 := Nat.le_trans (Nat.le_mul_of_pos_right _ hb0) hl
    refine wpList_append_grows W hgd s x t ho e i0 z E.sz bytes ht hi hz0 hz1 hz2 hz E.pos (some ⟨g, 0, none⟩) 0 0 [] hs (by simp) (by simp) (by simp) ad l.length c (l.flatMap E.cells) hx (flat_len E l) hc (fun u hu => by
      obtain ⟨y, _, hy⟩ := List.mem_flatMap.1 hu
      exact E.one y u hy) (by omega) (by simp only [maxLen]; omega) (by rw [Nat.zero_add]; exact hl) ?_
    intro v1 w1 hown hg1
    refine h v1 ⟨w1, ⟨hg1.os, hg1.tape, hg1.output, hg1.size, fun k hk => hg1.block k hk (by simp)⟩⟩ ?_
    show Own E e w1 base v1 l
    have hlt := lt_of_block hg
    rcases hown with ⟨h1, h2⟩
    refine ⟨by simpa using h1, ?_⟩
    rcases h2 with ⟨h3, h4⟩ | ⟨g2, cap, cur, e1, e2, e3⟩
    · omega
    · exact .inr ⟨g2, cap, cur, by simpa using e1, by omega, by simpa using e3⟩
  · obtain rfl : l = [] := List.eq_nil_of_length_eq_zero (by omega)
    refine wpList_plain hgd fun K hK => ?_
    unfold Oper.wp execOp
    simp only [ho, resolve, invoke, builtin, Sem.run_bind, Sem.run_pure, Result.andThen_ok, List.map_toArray, List.map_cons, List.map_nil, hs, hx]
    have hr := run_append_zero (P := P) W t o.type e i0 ht hi g c A
    simp only [List.length_nil] at *
    rw [hr]
    refine hK _ _ (h _ ⟨W, Below.refl _ _⟩ ⟨by simp, .inr ⟨g, 0, #[], rfl, hbg, hg, Nat.le_refl _, by simp, by simp, by simp⟩⟩)
end
end Go.Proofs.Ytlibkfjafhggkaa
