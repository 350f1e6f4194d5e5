/- The contract of the reference's Same of bytes. -/
import Derived.Test.YtnhaiecbjipodaaGreatDoorB14
import Derived.WalkKit
import Derived.WalkSpells
import Derived.WalkLawsBesides
import Derived.Test.YtnhaiecbjipodaaGreatDoorB02
import Derived.Lib.Hide
namespace Go.Proofs.YtnhaiecbjipodaaGreatDoor
open Go.RowKit
attribute [local go_sem] Grow.cell Grow.froz Grow.lt

/-- The address of a byte. -/
theorem idx_byte {A : Option Addr} {b off k len c : Nat} (hA : A = some ⟨b, off, none⟩) (hk : k < len) (w : World) :
    (Instr.indexAt 28 (.slice A len c) (.int .i64 (k : Int))).run Tryz.prog w = .ok (.pointer (some ⟨b, off + k, none⟩)) w := by
  subst hA
  have hk' : (k : Int) < (len : Int) := by omega
  go_simp
theorem bsame_len {l m : List Int} (h : l.length ≠ m.length) : (false : Bool) = decide (l = m) := by
  have : l ≠ m := fun e => h (by rw [e])
  simp [this]
theorem bsame_at {l m : List Int} {k : Nat} (h1 : k < l.length) (h2 : k < m.length) (h : l[k] ≠ m[k]) : (false : Bool) = decide (l = m) := by
  have : l ≠ m := fun e => h (by subst e; rfl)
  simp [this]
theorem bsame_all {l m : List Int} (h : l.length = m.length) (h2 : ∀ j (a : j < l.length) (b : j < m.length), l[j] = m[j]) : (true : Bool) = decide (l = m) := by
  have : l = m := List.ext_getElem h h2
  simp [this]

set_option maxHeartbeats 2000000 in
theorem bsame_any (v u : Value) (l m : List Int) (w : World) (hl : RB w v l) (hm : RB w u m) :
    Calls Tryz.prog 14 #[v, u] w fun e w' => e = .returned (.bool (decide (l = m))) ∧ Below w.heap.size w w' := by
  have q := hl.1
  have q2 := hm.1
  obtain ⟨A, c, b1, o1, rfl, _, _, hA, hx⟩ := hl.form
  obtain ⟨B, d, b2, o2, rfl, _, _, hB, hy⟩ := hm.form
  have hA := Lib.hid hA
  have hB := Lib.hid hB
  have hx := Lib.hid hx
  have hy := Lib.hid hy
  clear hl hm
  by_cases h : l.length = m.length
  · have hh : ((l.length : Int) == (m.length : Int)) = true := by simp [h]
    have H := Lib.hid h
    clear h
    go_enter Tryz.func14, Tryz.ntmps14
    go_wp2
    go_loopw [5] (fun i wr => ∃ k : Nat, k ≤ l.length ∧ i = .int .i64 k ∧ (∀ j (_ : j < k) (a : j < l.length) (b : j < m.length), l[j] = m[j]) ∧ Below w.heap.size w wr) (fun i _ => l.length - (intOf i).toNat)
    case atStart => exact ⟨0, by omega, rfl, fun j h => absurd h (by omega), Below.refl _ _⟩
    case round =>
      obtain ⟨k, hk, rfl, hP, hbel⟩ := hrel
      have HP := Lib.hid hP
      clear hP
      by_cases hlt : k < l.length
      · have hkm : k < m.length := by have := H.out; omega
        obtain ⟨eA, zA⟩ := hA.out (by omega)
        obtain ⟨eB, zB⟩ := hB.out (by omega)
        have q0 := (hbel.cell (p := ⟨b1, o1 + k, none⟩) zA).trans (hx.out k hlt)
        have r0 := (hbel.cell (p := ⟨b2, o2 + k, none⟩) zB).trans (hy.out k hkm)
        have zA' : b1 < wr.heap.size := Nat.lt_of_lt_of_le zA hbel.size
        have zB' : b2 < wr.heap.size := Nat.lt_of_lt_of_le zB hbel.size
        by_cases he : l[k] = m[k]
        · have hq : (l[k] == m[k]) = true := by simpa using he
          have hq2 : (l[k] != m[k]) = false := by simpa using he
          have HE := Lib.hid he
          clear he
          go_wp2
          refine wp_region_grow (by kernel_rfl) (by kernel_rfl) ?_
          repeat (first | go_big_quiet_skip | (go_big_quiet_want; go_big_quiet_op; first | go_big_quiet_on))
          refine wpQuiet_nil ?_
          rintro _ ⟨g, rfl⟩
          go_wp2
          go_roundw
          case rel => exact ⟨k + 1, by omega, by go_num, fun j hj a b => if e : j = k then by subst e; exact HE.out else HP.out j (by omega) a b, bel_grow hbel g⟩
          case measure => simp [intOf]; omega
        · have hq : (l[k] == m[k]) = false := by simpa using he
          have hq2 : (l[k] != m[k]) = true := by simpa using he
          have HE := Lib.hid he
          clear he
          go_wp2
          refine wp_region_grow (by kernel_rfl) (by kernel_rfl) ?_
          repeat (first | go_big_quiet_skip | (go_big_quiet_want; go_big_quiet_op; first | go_big_quiet_on))
          refine wpQuiet_nil ?_
          rintro _ ⟨g, rfl⟩
          go_wp2
          go_ret
          exact ⟨ret_bool (bsame_at hlt hkm HE.out), bel_grow hbel g⟩
      · go_wp2
        go_ret
        exact ⟨ret_bool (bsame_all H.out (fun j a b => HP.out j (by omega) a b)), hbel⟩
  · have hh : ((l.length : Int) == (m.length : Int)) = false := by simp; omega
    have H := Lib.hid h
    clear h
    go_enter Tryz.func14, Tryz.ntmps14
    go_wp2
    go_ret
    exact ⟨ret_bool (bsame_len H.out), Below.refl _ _⟩
end Go.Proofs.YtnhaiecbjipodaaGreatDoor
