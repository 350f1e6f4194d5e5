/- A slice of shifts that came in, read as data. -/
import Derived.Test.YthoapplkaidaaaaOpenS
import Derived.Test.YthoapplkaidaaaaMove
namespace Go.Proofs.Ythoapplkaidaaaa
open Go.ChangeShapes Go.WideShapes Go.ChangeAt Go.RowKit Go.Deep

section
variable {H : Type} {enc : TypeId × Value → H} {w : World} {base : Nat} {spare : Nat → Bool} {held : Bool}
theorem cellsShift : Try.prog.cellsOf 43 = 2 := by kernel_rfl
theorem cellsI64 : Try.prog.cellsOf 2 = 1 := by kernel_rfl
theorem bytesShift : Try.prog.bytesOf 43 = 16 := by kernel_rfl
theorem i64_cell {fuel : Nat} {c : Value} {x : DataW H × List MemPlace} (h : DataW.trod enc Try.prog w base spare held fuel 2 [c] = some x) : ∃ n, c = .int .i64 n := by
  obtain ⟨n, e, _, _⟩ := DataW.trod_int Try.underlying2 h
  simp only [List.cons.injEq, and_true] at e
  exact ⟨n, e⟩
theorem shift_cells {fuel : Nat} {cs : List Value} {x : DataW H × List MemPlace} (h : DataW.trod enc Try.prog w base spare held fuel 43 cs = some x) : ∃ s : Int × Int, cs = shiftE.cells s ∧ True := by
  obtain ⟨xs, n, rfl, _, hl, hlen, hf⟩ := DataW.trod_struct Try.underlying43 h
  rw [cellsShift] at hl
  match cs, hl with
  | [c0, c1], _ =>
  have hlen' : xs.length = 2 := hlen
  match xs, hlen' with
  | [y0, y1], _ =>
  have h0 : DataW.trod enc Try.prog w base spare held n 2 [c0] = some y0 := by
    have z := hf 0 _ rfl
    simpa [cellsI64] using z
  have h1 : DataW.trod enc Try.prog w base spare held n 2 [c1] = some y1 := by
    have z := hf 1 _ rfl
    simpa [cellsI64] using z
  obtain ⟨a, e0⟩ := i64_cell h0
  obtain ⟨b, e1⟩ := i64_cell h1
  exact ⟨(a, b), by simp [shiftE, e0, e1], trivial⟩
end
theorem open_shifts {H : Type} {enc : TypeId × Value → H} {w : World} {base : Nat} {spare : Nat → Bool} {held : Bool} {r : Reach} {b0 : Nat} {v : Value} {d : DataW H} {p : List MemPlace} {ts : List TypeId} {ds : List (DataW H)} {j : Nat}
    (hsz : (DataW.weightsEach Try.prog ts ds).all (· ≤ reachBytes) = true) (hj : ts[j]? = some 23) (hd : ds[j]? = some d)
    (hv : Value.okWide Try.prog w r b0 23 v) (h : DataW.Trod enc Try.prog w base spare held 23 v d p) : ∃ l : List (Int × Int), Reads shiftE w v l ∧ (∀ a ∈ l, True) ∧ l.length * 16 ≤ 140737488351232 :=
  open_reads (fun _ _ _ hx => shift_cells hx) Try.underlying23 cellsShift bytesShift (by decide) hsz hj hd hv h
end Go.Proofs.Ythoapplkaidaaaa
