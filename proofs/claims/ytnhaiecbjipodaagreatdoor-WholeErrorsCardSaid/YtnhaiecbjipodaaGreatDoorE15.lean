/- A slice of bytes that came in, read as data. -/
import Derived.Test.YtnhaiecbjipodaaGreatDoorE14
import Derived.Test.YtnhaiecbjipodaaGreatDoorB14
namespace Go.Proofs.YtnhaiecbjipodaaGreatDoor
open Go.ChangeShapes Go.WideShapes Go.ChangeAt Go.RowKit Go.Deep
set_option maxRecDepth 100000

section
variable {H : Type} {enc : TypeId × Value → H} {w : World} {base : Nat} {spare : Nat → Bool} {held : Bool}
theorem cellsU8 : Tryz.prog.cellsOf 5 = 1 := by kernel_rfl
theorem bytesU8 : Tryz.prog.bytesOf 5 = 1 := by kernel_rfl
theorem u8_cells {fuel : Nat} {cs : List Value} {x : DataW H × List MemPlace} (h : DataW.trod enc Tryz.prog w base spare held fuel 5 cs = some x) : ∃ n : Int, cs = byteE.cells n ∧ (0 ≤ n ∧ n ≤ 255) := by
  obtain ⟨n, e, _, hw⟩ := DataW.trod_int Tryz.underlying5 h
  have h0 : (IntKind.u8.min ≤ n) ∧ (n ≤ IntKind.u8.max) := by simpa [Lit.wf] using hw
  exact ⟨n, e, h0⟩
end
theorem open_bytes {H : Type} {enc : TypeId × Value → H} {w : World} {base : Nat} {spare : Nat → Bool} {held : Bool} {r : Reach} {b0 : Nat} {v : Value} {d : DataW H} {p : List MemPlace} {ts : List TypeId} {ds : List (DataW H)} {j : Nat}
    (hsz : (DataW.weightsEach Tryz.prog ts ds).all (· ≤ reachBytes) = true) (hj : ts[j]? = some 28) (hd : ds[j]? = some d)
    (hv : Value.okWide Tryz.prog w r b0 28 v) (h : DataW.Trod enc Tryz.prog w base spare held 28 v d p) : ∃ l : List Int, RB w v l ∧ (∀ a ∈ l, True) ∧ l.length * 1 ≤ 140737488351232 := by
  obtain ⟨l, hr, hg, hl⟩ := open_reads (fun _ _ _ hx => u8_cells hx) Tryz.underlying28 cellsU8 bytesU8 (by decide) hsz hj hd hv h
  refine ⟨l, ?_, fun _ _ => trivial, hl⟩
  obtain ⟨h1, A, c, rfl, h3⟩ := hr
  obtain ⟨fuel, hf⟩ := h
  refine ⟨h1, hg, A, c, rfl, ?_⟩
  have hcell : ∀ i a, l[i]? = some a → ∃ b off, A = some ⟨b, off, none⟩ ∧ w.cell? ⟨b, off + i, none⟩ = some (.int .u8 a) := fun i a ha => by
    obtain ⟨b, off, e, hc⟩ := h3 i a ha
    have := hc 0 _ rfl
    exact ⟨b, off, e, by simpa [byteE] using this⟩
  rcases open_slice Tryz.underlying28 hf with ⟨hcs, _⟩ | ⟨a, len, cap, m, n, D, Pl, hcs, h4, h5, hm, hmm, hx, hel⟩
  · simp [Value.cells] at hcs
    obtain ⟨rfl, hl0, rfl⟩ := hcs
    exact ⟨by rw [hl0]; simp, by simp, hcell⟩
  · simp [Value.cells] at hcs
    obtain ⟨rfl, rfl, rfl⟩ := hcs
    exact ⟨h5, hm, hcell⟩
end Go.Proofs.YtnhaiecbjipodaaGreatDoor
