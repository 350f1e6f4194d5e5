/- From what the row lists ('laid') to the two variables' cells; a world that meets it. -/
import Derived.Test.YtnhaiecbjipodaaGreatDoorE12
import Derived.Test.YtnhaiecbjipodaaGreatDoorB10
import Derived.Test.YtnhaiecbjipodaaGreatDoorTie
import Derived.LaidLaws
import Derived.Handed
namespace Go.Proofs.YtnhaiecbjipodaaGreatDoor
open Go.ChangeShapes Go.WideShapes Go.ChangeAt Go.RowKit
set_option maxRecDepth 100000
theorem noneN : Tryz.prog.globalNamed "billiard/box.none" = some 3 := by kernel_rfl
theorem noneT : (Tryz.prog.globals[3]?).map (·.type) = some 220 := by kernel_rfl
theorem facN : Tryz.prog.globalNamed "billiard/cell.factors" = some 0 := by kernel_rfl
theorem facT : (Tryz.prog.globals[0]?).map (·.type) = some 300 := by kernel_rfl
theorem cellsBox : Tryz.prog.cellsOf 220 = 4 := by kernel_rfl
theorem cellsFac : Tryz.prog.cellsOf 300 = 2 := by kernel_rfl
section
variable {H : Type} {enc : TypeId × Value → H} {w : World} {base : Nat} {spare : Nat → Bool} {held : Bool}
theorem i32_lit {fuel : Nat} {c : Value} {y : DataW H × List MemPlace} (h : DataW.trod enc Tryz.prog w base spare held fuel 21 [c] = some y) : ∃ n, c = .int .i32 n ∧ y = (.lit (.int .i32 n), []) := by
  obtain ⟨n, e, hy, _⟩ := DataW.trod_int Tryz.underlying21 h
  simp only [List.cons.injEq, and_true] at e
  exact ⟨n, e, hy⟩
theorem u32_lit {fuel : Nat} {c : Value} {y : DataW H × List MemPlace} (h : DataW.trod enc Tryz.prog w base spare held fuel 23 [c] = some y) : ∃ n, c = .int .u32 n ∧ y = (.lit (.int .u32 n), []) := by
  obtain ⟨n, e, hy, _⟩ := DataW.trod_int Tryz.underlying23 h
  simp only [List.cons.injEq, and_true] at e
  exact ⟨n, e, hy⟩
theorem box_laid {fuel : Nat} {cs : List Value} {a b c d : Int} {p : List MemPlace} (h : DataW.trod enc Tryz.prog w base spare held fuel 220 cs = some (.agg [.lit (.int .i32 a), .lit (.int .i32 b), .lit (.int .i32 c), .lit (.int .i32 d)], p)) : cs = [.int .i32 a, .int .i32 b, .int .i32 c, .int .i32 d] := by
  obtain ⟨xs, n, rfl, hx, hl, hlen, hf⟩ := DataW.trod_struct Tryz.underlying220 h
  rw [cellsBox] at hl
  match cs, hl with
  | [c0, c1, c2, c3], _ =>
  have hlen' : xs.length = 4 := hlen
  match xs, hlen' with
  | [y0, y1, y2, y3], _ =>
  have h0 : DataW.trod enc Tryz.prog w base spare held n 21 [c0] = some y0 := by
    have z := hf 0 _ rfl
    simpa [cellsI32] using z
  have h1 : DataW.trod enc Tryz.prog w base spare held n 21 [c1] = some y1 := by
    have z := hf 1 _ rfl
    simpa [cellsI32] using z
  have h2 : DataW.trod enc Tryz.prog w base spare held n 21 [c2] = some y2 := by
    have z := hf 2 _ rfl
    simpa [cellsI32] using z
  have h3 : DataW.trod enc Tryz.prog w base spare held n 21 [c3] = some y3 := by
    have z := hf 3 _ rfl
    simpa [cellsI32] using z
  obtain ⟨n0, rfl, rfl⟩ := i32_lit h0
  obtain ⟨n1, rfl, rfl⟩ := i32_lit h1
  obtain ⟨n2, rfl, rfl⟩ := i32_lit h2
  obtain ⟨n3, rfl, rfl⟩ := i32_lit h3
  simp at hx
  obtain ⟨⟨rfl, rfl, rfl, rfl⟩, _⟩ := hx
  rfl
theorem fac_laid {fuel : Nat} {cs : List Value} {a b : Int} {p : List MemPlace} (h : DataW.trod enc Tryz.prog w base spare held fuel 300 cs = some (.agg [.lit (.int .u32 a), .lit (.int .u32 b)], p)) : cs = [.int .u32 a, .int .u32 b] := by
  obtain ⟨xs, n, rfl, hx, hl, hlen, hf⟩ := DataW.trod_array Tryz.underlying300 h
  rw [cellsFac] at hl
  match cs, hl with
  | [c0, c1], _ =>
  match xs, hlen with
  | [y0, y1], _ =>
  have h0 : DataW.trod enc Tryz.prog w base spare held n 23 [c0] = some y0 := by
    have z := hf 0 (by omega)
    simpa [cellsU32] using z
  have h1 : DataW.trod enc Tryz.prog w base spare held n 23 [c1] = some y1 := by
    have z := hf 1 (by omega)
    simpa [cellsU32] using z
  obtain ⟨n0, rfl, rfl⟩ := u32_lit h0
  obtain ⟨n1, rfl, rfl⟩ := u32_lit h1
  simp at hx
  obtain ⟨⟨rfl, rfl⟩, _⟩ := hx
  rfl
end
abbrev laidRow : List (String × DataW Unit) := [("billiard/box.none", Rows.laid_billiard_box_none), ("billiard/cell.factors", Rows.laid_billiard_cell_factors)]
theorem glob_of_laid {W : World} (h : laidMet Tryz.prog laidRow W) : Glob W := by
  obtain ⟨ps, ⟨g, t, cs, fuel, p, q, hg, ht, hvar, hd, ⟨g2, t2, cs2, fuel2, p2, q2, hg2, ht2, hvar2, hd2, _, _⟩, _⟩, _⟩ := h
  obtain rfl := Option.some.inj (noneN.symm.trans hg)
  obtain rfl := Option.some.inj (noneT.symm.trans ht)
  obtain rfl := Option.some.inj (facN.symm.trans hg2)
  obtain rfl := Option.some.inj (facT.symm.trans ht2)
  have e1 := box_laid hd
  have e2 := fac_laid hd2
  obtain rfl : cs = #[.int .i32 1, .int .i32 0, .int .i32 0, .int .i32 0] := by
    obtain ⟨l⟩ := cs
    simp only at e1
    rw [e1]
  obtain rfl : cs2 = #[.int .u32 73856093, .int .u32 19349663] := by
    obtain ⟨l⟩ := cs2
    simp only at e2
    rw [e2]
  exact ⟨by simpa using World.var?_cell hg2 hvar2 0, by simpa using World.var?_cell hg2 hvar2 1, by simpa using World.var?_cell hg hvar 0, by simpa using World.var?_cell hg hvar 1, by simpa using World.var?_cell hg hvar 2, by simpa using World.var?_cell hg hvar 3⟩
/-- The settled world, the two variables laid. -/
noncomputable def laidWorld (os : Os) : World :=
  let w0 := World.holding Tryz.prog os ⟨#[], #[], []⟩
  { w0 with heap := (w0.heap.modify 3 fun
      | .cells _ t frozen => .cells #[.int .i32 1, .int .i32 0, .int .i32 0, .int .i32 0] t frozen
      | o => o).modify 0 fun
      | .cells _ t frozen => .cells #[.int .u32 73856093, .int .u32 19349663] t frozen
      | o => o }
theorem laidWorld_met (os : Os) (args : Array Value) : laidMet Tryz.prog laidRow ((laidWorld os).forCall (fun _ _ => 0) ⟨#[], args, []⟩).memory :=
  laidMet_of_run (ps := [.cell 3 0, .cell 3 1, .cell 3 2, .cell 3 3, .cell 0 0, .cell 0 1]) 8 (by kernel_rfl) (by kernel_rfl) (by kernel_rfl)
end Go.Proofs.YtnhaiecbjipodaaGreatDoor
