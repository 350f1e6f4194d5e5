/- A body that came in, read as data: ten numbers, each within its kind. -/
import Derived.Test.YtnhaiecbjipodaaGreatDoorRows
import Derived.Test.YtnhaiecbjipodaaGreatDoorB02
import Derived.WalkKit
import Derived.ProofKit
import Derived.OpenShut
import Derived.ShutString
import Derived.ChangeOld
import Derived.SizedLaws
import Derived.Below
namespace Go.Proofs.YtnhaiecbjipodaaGreatDoor
open Go.ChangeShapes Go.WideShapes Go.ChangeAt Go.RowKit
set_option maxRecDepth 100000

section
variable {H : Type} {enc : TypeId × Value → H} {w : World} {base : Nat} {spare : Nat → Bool} {held : Bool}
theorem cellsVec : Tryz.prog.cellsOf 25 = 2 := by kernel_rfl
theorem cellsBody : Tryz.prog.cellsOf 27 = 10 := by kernel_rfl
theorem cellsI32 : Tryz.prog.cellsOf 21 = 1 := by kernel_rfl
theorem cellsU32 : Tryz.prog.cellsOf 23 = 1 := by kernel_rfl
theorem i32_cell {fuel : Nat} {c : Value} {x : DataW H × List MemPlace} (h : DataW.trod enc Tryz.prog w base spare held fuel 21 [c] = some x) : ∃ n, c = .int .i32 n ∧ I32 n := by
  obtain ⟨n, e, _, hw⟩ := DataW.trod_int Tryz.underlying21 h
  simp only [List.cons.injEq, and_true] at e
  have hmin : IntKind.i32.min = -2147483648 := rfl
  have hmax : IntKind.i32.max = 2147483647 := rfl
  simp only [Lit.wf, Bool.and_eq_true, decide_eq_true_eq, hmin, hmax] at hw
  exact ⟨n, e, hw⟩
theorem u32_cell {fuel : Nat} {c : Value} {x : DataW H × List MemPlace} (h : DataW.trod enc Tryz.prog w base spare held fuel 23 [c] = some x) : ∃ n, c = .int .u32 n ∧ 0 ≤ n ∧ n ≤ 4294967295 := by
  obtain ⟨n, e, _, hw⟩ := DataW.trod_int Tryz.underlying23 h
  simp only [List.cons.injEq, and_true] at e
  have hmin : IntKind.u32.min = 0 := rfl
  have hmax : IntKind.u32.max = 4294967295 := rfl
  simp only [Lit.wf, Bool.and_eq_true, decide_eq_true_eq, hmin, hmax] at hw
  exact ⟨n, e, hw⟩
theorem vec_cells {fuel : Nat} {c0 c1 : Value} {x : DataW H × List MemPlace} (h : DataW.trod enc Tryz.prog w base spare held fuel 25 [c0, c1] = some x) : ∃ a b, c0 = .int .i32 a ∧ I32 a ∧ c1 = .int .i32 b ∧ I32 b := by
  obtain ⟨y0, y1, n, _, _, h0, h1⟩ := trod_struct2 Tryz.underlying25 h
  rw [cellsI32] at h0 h1
  obtain ⟨a, ha, ra⟩ := i32_cell h0
  obtain ⟨b, hb, rb⟩ := i32_cell h1
  exact ⟨a, b, ha, ra, hb, rb⟩
theorem body_cells {fuel : Nat} {cs : List Value} {x : DataW H × List MemPlace} (h : DataW.trod enc Tryz.prog w base spare held fuel 27 cs = some x) : ∃ b : Body, cs = b.cells.toList ∧ b.Fit := by
  obtain ⟨xs, n, rfl, _, hl, hlen, hf⟩ := DataW.trod_struct Tryz.underlying27 h
  rw [cellsBody] at hl
  match cs, hl with
  | [c0, c1, c2, c3, c4, c5, c6, c7, c8, c9], _ =>
  have hlen' : xs.length = 7 := hlen
  match xs, hlen' with
  | [y0, y1, y2, y3, y4, y5, y6], _ =>
  have h0 : DataW.trod enc Tryz.prog w base spare held n 23 [c0] = some y0 := by
    have z := hf 0 _ rfl
    simpa [cellsU32] using z
  have h1 : DataW.trod enc Tryz.prog w base spare held n 21 [c1] = some y1 := by
    have z := hf 1 _ rfl
    simpa [cellsI32] using z
  have h2 : DataW.trod enc Tryz.prog w base spare held n 25 [c2, c3] = some y2 := by
    have z := hf 2 _ rfl
    simpa [cellsVec] using z
  have h3 : DataW.trod enc Tryz.prog w base spare held n 21 [c4] = some y3 := by
    have z := hf 3 _ rfl
    simpa [cellsI32] using z
  have h4 : DataW.trod enc Tryz.prog w base spare held n 21 [c5] = some y4 := by
    have z := hf 4 _ rfl
    simpa [cellsI32] using z
  have h5 : DataW.trod enc Tryz.prog w base spare held n 25 [c6, c7] = some y5 := by
    have z := hf 5 _ rfl
    simpa [cellsVec] using z
  have h6 : DataW.trod enc Tryz.prog w base spare held n 25 [c8, c9] = some y6 := by
    have z := hf 6 _ rfl
    simpa [cellsVec] using z
  obtain ⟨k, e0, r0⟩ := u32_cell h0
  obtain ⟨r, e1, r1⟩ := i32_cell h1
  obtain ⟨ax, ay, e2, r2, e3, r3⟩ := vec_cells h2
  obtain ⟨m, e4, r4⟩ := i32_cell h3
  obtain ⟨o, e5, r5⟩ := i32_cell h4
  obtain ⟨px, py, e6, r6, e7, r7⟩ := vec_cells h5
  obtain ⟨vx, vy, e8, r8, e9, r9⟩ := vec_cells h6
  exact ⟨⟨k, r, ax, ay, m, o, px, py, vx, vy⟩, by simp [Body.cells, e0, e1, e2, e3, e4, e5, e6, e7, e8, e9], ⟨r0, r1, r2, r3, r4, r5, r6, r7, r8, r9⟩⟩
theorem open_body {r : Reach} {b0 : Nat} {v : Value} {d : DataW H} {p : List MemPlace} (hv : Value.okWide Tryz.prog w r b0 27 v) (h : DataW.Trod enc Tryz.prog w base spare held 27 v d p) : ∃ b : Body, v = .agg b.cells ∧ b.Fit := by
  obtain ⟨cs, rfl, _⟩ := okWide_struct Tryz.underlying27 hv
  obtain ⟨fuel, hf⟩ := h
  obtain ⟨b, e, hb⟩ := body_cells hf
  exact ⟨b, by rw [show cs = b.cells from by simpa [Value.cells] using congrArg List.toArray e], hb⟩
theorem open_vec {r : Reach} {b0 : Nat} {v : Value} {d : DataW H} {p : List MemPlace} (hv : Value.okWide Tryz.prog w r b0 25 v) (h : DataW.Trod enc Tryz.prog w base spare held 25 v d p) : ∃ x y : Int, v = .agg #[.int .i32 x, .int .i32 y] ∧ I32 x ∧ I32 y := by
  obtain ⟨cs, rfl, hsz⟩ := okWide_struct Tryz.underlying25 hv
  rw [cellsVec] at hsz
  obtain ⟨fuel, hf⟩ := h
  match cs, hsz with
  | ⟨[c0, c1]⟩, _ =>
  obtain ⟨a, b, ha, ra, hb, rb⟩ := vec_cells (c0 := c0) (c1 := c1) (by simpa [Value.cells] using hf)
  exact ⟨a, b, by simp [ha, hb], ra, rb⟩
end
end Go.Proofs.YtnhaiecbjipodaaGreatDoor
