/- A slice that came in, read as data: a list, each element as its type's law says. -/
import Derived.Test.YtnhaiecbjipodaaGreatDoorE12
import Derived.Test.YtnhaiecbjipodaaGreatDoorB02
import Derived.Deep.Slices
namespace Go.Proofs.YtnhaiecbjipodaaGreatDoor
open Go.ChangeShapes Go.WideShapes Go.ChangeAt Go.RowKit Go.Deep
set_option maxRecDepth 100000

theorem add_plain {b off m j : Nat} : ((⟨b, off, none⟩ : Addr).add m).add j = ⟨b, off + m + j, none⟩ := by
  unfold Addr.add
  repeat' split
  all_goals simp_all
theorem spot_none {w : World} {a : Addr} {u : Value} (h : w.cell? ((a.add 0).add 0) = some u) : a = ⟨a.block, a.off, none⟩ := by
  obtain ⟨b, o, s⟩ := a
  simp only [Addr.add, if_true] at h
  cases s with
  | none => rfl
  | some s =>
    unfold World.cell? at h
    simp at h
    split at h <;> simp at h

theorem open_reads {α : Type} [Inhabited α] {E : Enc α} {Good : α → Prop} {H : Type} {enc : TypeId × Value → H} {P : Program} {w : World} {base : Nat} {spare : Nat → Bool} {held : Bool} {t e : TypeId} {r : Reach} {b0 : Nat} {v : Value} {d : DataW H} {p : List MemPlace}
    {ts : List TypeId} {ds : List (DataW H)} {j B : Nat} (hdec : ∀ fuel cs x, DataW.trod enc P w base spare held fuel e cs = some x → ∃ a, cs = E.cells a ∧ Good a)
    (ht : P.underlying t = some (.slice e)) (hC : P.cellsOf e = E.sz) (hB : P.bytesOf e = B) (hB0 : 0 < B) (hsz : (DataW.weightsEach P ts ds).all (· ≤ reachBytes) = true) (hj : ts[j]? = some t) (hd : ds[j]? = some d)
    (hv : Value.okWide P w r b0 t v) (h : DataW.Trod enc P w base spare held t v d p) : ∃ l : List α, Reads E w v l ∧ (∀ a ∈ l, Good a) ∧ l.length * B ≤ 140737488351232 := by
  obtain ⟨a0, len0, cap0, rfl⟩ := okWide_slice ht hv
  obtain ⟨fuel, hf⟩ := h
  rcases open_slice ht hf with ⟨hcs, _⟩ | ⟨a, len, cap, m, n, D, Pl, hcs, _, hl, hm, hmm, hx, hel⟩
  · simp [Value.cells] at hcs
    obtain ⟨rfl, rfl, rfl⟩ := hcs
    exact ⟨[], Reads.none E w, fun a h => by simp at h, by simp⟩
  · simp [Value.cells] at hcs
    obtain ⟨rfl, rfl, rfl⟩ := hcs
    have hlm : len0 ≤ m := by rw [hmm]; split <;> omega
    have hlen : len0 * B ≤ 140737488351232 := by
      obtain ⟨hx1, _⟩ := Prod.mk.inj hx
      subst hx1
      have z := sized_slice hsz hj hd ht
      rw [hB] at z
      simp only [List.length_map, List.length_range] at z
      exact Nat.le_trans (Nat.mul_le_mul_right _ (by omega)) z
    have hlen1 : len0 ≤ 140737488351232 := Nat.le_trans (Nat.le_mul_of_pos_right _ hB0) hlen
    obtain ⟨f, hfx⟩ := choose_lt (n := len0) (p := fun i x => Good x ∧ ∀ k u, (E.cells x)[k]? = some u → w.cell? ((a.add (i * E.sz)).add k) = some u) (by
      intro i hi
      obtain ⟨cs', h1, h2⟩ := hel i (by omega)
      obtain ⟨x, rfl, hg⟩ := hdec _ _ _ h2
      rw [hC] at h1
      obtain ⟨_, hln, hcell⟩ := World.cells?_some h1
      refine ⟨x, hg, fun k u hu => ?_⟩
      have hk : k < E.sz := by rw [← hln]; exact (List.getElem?_eq_some_iff.1 hu).1
      rw [hcell k hk, hu])
    refine ⟨(List.range len0).map f, ⟨by simp; omega, some a, cap0, by simp, fun i x hx => ?_⟩, fun x hx => ?_, by simpa using hlen⟩
    · have hi : i < len0 := by
        have := (List.getElem?_eq_some_iff.1 hx).1
        simpa using this
      have hxe : x = f i := by
        rw [List.getElem?_map, List.getElem?_range hi] at hx
        simpa using hx.symm
      subst hxe
      have hp := E.pos
      have hlen0 : (E.cells (f 0)).length = E.sz := E.len _
      have ha : a = ⟨a.block, a.off, none⟩ := by
        have h00 := (hfx 0 (by omega)).2 0 ((E.cells (f 0))[0]'(by omega)) (List.getElem?_eq_getElem _)
        rw [Nat.zero_mul] at h00
        exact spot_none h00
      refine ⟨a.block, a.off, by rw [← ha], fun k u hu => ?_⟩
      have := (hfx i hi).2 k u hu
      rw [ha, add_plain] at this
      exact this
    · obtain ⟨i, hi, rfl⟩ := List.mem_map.1 hx
      exact (hfx i (by simpa using hi)).1

theorem bytesBody : Tryz.prog.bytesOf 27 = 40 := by kernel_rfl
instance : Inhabited Body := ⟨⟨0, 0, 0, 0, 0, 0, 0, 0, 0, 0⟩⟩
theorem open_bodies {H : Type} {enc : TypeId × Value → H} {w : World} {base : Nat} {spare : Nat → Bool} {held : Bool} {r : Reach} {b0 : Nat} {v : Value} {d : DataW H} {p : List MemPlace} {ts : List TypeId} {ds : List (DataW H)} {j : Nat}
    (hsz : (DataW.weightsEach Tryz.prog ts ds).all (· ≤ reachBytes) = true) (hj : ts[j]? = some 38) (hd : ds[j]? = some d)
    (hv : Value.okWide Tryz.prog w r b0 38 v) (h : DataW.Trod enc Tryz.prog w base spare held 38 v d p) : ∃ l : List Body, Reads bodyE w v l ∧ (∀ a ∈ l, a.Fit) ∧ l.length * 40 ≤ 140737488351232 :=
  open_reads (fun _ _ _ hx => body_cells hx) Tryz.underlying38 cellsBody bytesBody (by decide) hsz hj hd hv h
end Go.Proofs.YtnhaiecbjipodaaGreatDoor
