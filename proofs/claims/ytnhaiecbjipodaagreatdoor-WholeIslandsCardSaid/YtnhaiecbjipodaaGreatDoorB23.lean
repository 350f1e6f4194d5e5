/- Keys of maps: pairs of keys of bodies. -/
import Derived.Test.YtnhaiecbjipodaaGreatDoorB02
import Derived.Test.YtnhaiecbjipodaaGreatDoorB15
namespace Go.Proofs.YtnhaiecbjipodaaGreatDoor
open Go.RowKit Go.MapKept
abbrev pairV (p : Int × Int) : Value := .agg #[.int .u32 p.1, .int .u32 p.2]
theorem pair_eq (d : Nat) (w : World) (a b c e : Int) : (Op.equalIn (d + 2) 98 (.agg #[.int .u32 a, .int .u32 b]) (.agg #[.int .u32 c, .int .u32 e])).run Tryz.prog w = .ok (eqV a b c e) w := by
  refine struct_eq Tryz.underlying98 (by kernel_rfl) ?_
  refine field_eq (by rfl) (by go_simp; rfl) (by go_simp; rfl) (by go_simp) ?_
  exact field_eq (by rfl) (by go_simp; rfl) (by go_simp; rfl) (by go_simp) no_field
theorem pair_equal (w : World) (p q : Int × Int) : (Op.equal 98 (pairV p) (pairV q)).run Tryz.prog w = .ok (decide (q = p)) w := by
  unfold Op.equal
  rw [show Op.maxDepth = (Op.maxDepth - 2) + 2 from rfl, pair_eq]
  congr 1
  obtain ⟨a, b⟩ := p
  obtain ⟨c, d⟩ := q
  simp only [eqV, Bool.and_true, Prod.mk.injEq, Bool.decide_and]
  rw [show (a == c) = decide (c = a) from by rw [Bool.eq_iff_iff]; simp; exact eq_comm, show (b == d) = decide (d = b) from by rw [Bool.eq_iff_iff]; simp; exact eq_comm]
theorem find_pairs (p : Int × Int) : ∀ (es : List MapEntry) (l : List ((Int × Int) × Value)) (i : Nat) (w : World), es.map (fun e => (e.key, e.val)) = l.map (fun p => (pairV p.1, p.2)) →
    (Instr.findAsking 98 (pairV p) es i).run Tryz.prog w = .ok ((l.findIdx? (fun q => q.1 = p)).map fun j => (i + j, (l.map Prod.snd).getD j undef)) w
  | [], [], i, w, _ => by simp [Instr.findAsking]
  | [], _ :: _, _, _, h => by simp at h
  | _ :: _, [], _, _, h => by simp at h
  | e :: es, q :: l, i, w, h => by
    simp only [List.map_cons, List.cons.injEq, Prod.mk.injEq] at h
    obtain ⟨⟨h1, h2⟩, h3⟩ := h
    have ih := find_pairs p es l (i + 1) w h3
    unfold Instr.findAsking
    simp only [h1, Sem.run_bind, pair_equal, Result.andThen_ok]
    by_cases hk : q.1 = p
    · simp [List.findIdx?_cons, hk, h2]
    · simp only [hk, decide_false, Bool.false_eq_true, if_false, ih, List.findIdx?_cons]
      congr 1
      cases (l.findIdx? fun q => decide (q.1 = p)) with
      | none => rfl
      | some j => simp; omega
theorem findNow_agg (d : TypeDesc) (xs : Array Value) (es : List MapEntry) (i : Nat) : Instr.findNow d (.agg xs) es i = if es = [] then some none else none := by
  cases es with
  | nil => rfl
  | cons e es => unfold Instr.findNow; cases d <;> simp [Instr.sameNow]
theorem same_pair (n : Nat) (hn : n ≠ 0) (k : Int × Int) : Instr.sameBits n (pairV k) (pairV k) = true := by
  obtain ⟨n, rfl⟩ := Nat.exists_eq_succ_of_ne_zero hn
  obtain ⟨a, b⟩ := k
  unfold Instr.sameBits
  cases n <;> simp [Instr.sameBits]
abbrev pairKey : MKey Tryz.prog 98 (Int × Int) where
  kv := pairV
  check e k w := by cases e <;> kernel_rfl
  find k es l w h := by
    unfold Instr.findKey
    simp only [Sem.run_bind, run_underlying Tryz.underlying98, Result.andThen_ok, findNow_agg]
    cases es with
    | nil => cases l with
      | nil => simp
      | cons a b => simp at h
    | cons e es =>
      have := find_pairs k (e :: es) l 0 w h
      simp only [List.cons_ne_nil, if_false]
      rw [this]
      simp only [Nat.zero_add]
  bits k := same_pair 10000 (by decide) k
end Go.Proofs.YtnhaiecbjipodaaGreatDoor
