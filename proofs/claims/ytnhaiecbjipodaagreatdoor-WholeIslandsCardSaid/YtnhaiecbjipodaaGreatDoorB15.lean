/- '==' of two vectors and of two bodies, as one Bool. -/
import Derived.Test.YtnhaiecbjipodaaGreatDoorRows
import Derived.Test.YtnhaiecbjipodaaGreatDoorB02
import Derived.WalkKit
import Derived.Laws.StructEq
import Derived.KernelRfl
namespace Go.Proofs.YtnhaiecbjipodaaGreatDoor
open Go.RowKit
section
variable {P : Program} {d : Nat} {xs ys : Array Value} {f : Field} {fs : List Field} {a b : Value} {r s : Bool} {w : World}
theorem field_eq (hn : (f.name == "_") = false) (ha : (part f.type xs f.offset).run P w = .ok a w) (hb : (part f.type ys f.offset).run P w = .ok b w) (he : (Op.equalIn d f.type a b).run P w = .ok r w)
    (hr : (Op.eqFields d xs ys fs).run P w = .ok s w) : (Op.eqFields d xs ys (f :: fs)).run P w = .ok (r && s) w := by
  have hn' : f.name ≠ "_" := by simpa using hn
  rw [Op.eqFields, if_pos hn']
  simp only [Sem.run_bind, ha, hb, he, Result.andThen_ok]
  cases r
  · simp
  · simpa using hr
theorem no_field : (Op.eqFields d xs ys []).run P w = .ok true w := by simp [Op.eqFields]
theorem struct_eq {t : TypeId} {fs : Array Field} (hu : P.underlying t = some (.struct fs)) (hp : P.stoodInHeld t = false) (h : (Op.eqFields d xs ys fs.toList).run P w = .ok r w) : (Op.equalIn (d + 1) t (.agg xs) (.agg ys)).run P w = .ok r w := by
  have hf : P.fieldsOf t = fs := by simp [Program.fieldsOf, hu]
  rw [run_equalIn_struct (P := P) w d t xs ys (by rw [hf]; exact hu) hp, hf]
  exact h
end
theorem vec_eq (d : Nat) (w : World) (a b c e : Int) : (Op.equalIn (d + 2) 25 (.agg #[.int .i32 a, .int .i32 b]) (.agg #[.int .i32 c, .int .i32 e])).run Tryz.prog w = .ok (eqV a b c e) w := by
  refine struct_eq Tryz.underlying25 (by kernel_rfl) ?_
  refine field_eq (by rfl) (by go_simp; rfl) (by go_simp; rfl) (by go_simp) ?_
  exact field_eq (by rfl) (by go_simp; rfl) (by go_simp; rfl) (by go_simp) no_field
theorem body_eq (d : Nat) (w : World) (x0 x1 x2 x3 x4 x5 x6 x7 x8 x9 y0 y1 y2 y3 y4 y5 y6 y7 y8 y9 : Int) :
    (Op.equalIn (d + 4) 27 (.agg #[.int .u32 x0, .int .i32 x1, .int .i32 x2, .int .i32 x3, .int .i32 x4, .int .i32 x5, .int .i32 x6, .int .i32 x7, .int .i32 x8, .int .i32 x9]) (.agg #[.int .u32 y0, .int .i32 y1, .int .i32 y2, .int .i32 y3, .int .i32 y4, .int .i32 y5, .int .i32 y6, .int .i32 y7, .int .i32 y8, .int .i32 y9])).run Tryz.prog w
      = .ok (eqB ⟨x0, x1, x2, x3, x4, x5, x6, x7, x8, x9⟩ ⟨y0, y1, y2, y3, y4, y5, y6, y7, y8, y9⟩) w := by
  refine struct_eq Tryz.underlying27 (by kernel_rfl) ?_
  refine field_eq (by rfl) (by go_simp; rfl) (by go_simp; rfl) (by go_simp) ?_
  refine field_eq (by rfl) (by go_simp; rfl) (by go_simp; rfl) (by go_simp) ?_
  refine field_eq (by rfl) (by go_simp) (by go_simp) (vec_eq (d + 1) w _ _ _ _) ?_
  refine field_eq (by rfl) (by go_simp; rfl) (by go_simp; rfl) (by go_simp) ?_
  refine field_eq (by rfl) (by go_simp; rfl) (by go_simp; rfl) (by go_simp) ?_
  refine field_eq (by rfl) (by go_simp) (by go_simp) (vec_eq (d + 1) w _ _ _ _) ?_
  exact field_eq (by rfl) (by go_simp) (by go_simp) (vec_eq (d + 1) w _ _ _ _) no_field
/-- The address of an element, without the slice's own address being written out. -/
theorem idx_body {A : Option Addr} {b off k len c : Nat} (hA : A = some ⟨b, off, none⟩) (hk : k < len) (w : World) :
    (Instr.indexAt 38 (.slice A len c) (.int .i64 (k : Int))).run Tryz.prog w = .ok (.pointer (some ⟨b, off + k * 10, none⟩)) w := by
  subst hA
  have hk' : (k : Int) < (len : Int) := by omega
  go_simp
end Go.Proofs.YtnhaiecbjipodaaGreatDoor
