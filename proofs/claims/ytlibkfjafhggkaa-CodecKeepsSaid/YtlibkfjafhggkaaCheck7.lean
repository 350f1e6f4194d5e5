/- The contracts of the two checks of a view. -/
import Derived.Test.YtlibkfjafhggkaaEach
namespace Go.Proofs.Ytlibkfjafhggkaa
open Go.RowKit
attribute [local go_sem] Grow.cell Grow.froz Grow.lt

def keyAt (l : List Body) (i : Nat) : Int := match l[i]? with | some b => b.key | none => 0
theorem keyAt_get {l : List Body} {i : Nat} (h : i < l.length) : keyAt l i = l[i].key := by simp [keyAt, h]
def ordB (l : List Body) : Bool := (List.range (l.length - 1)).all fun j => decide (keyAt l j < keyAt l (j + 1))
def checkL (l : List Body) : Int := if eachL l ≠ 0 then eachL l else if ordB l = true then 0 else 10
theorem ord_iff {l : List Body} : ordB l = true ↔ ∀ j, j + 1 < l.length → keyAt l j < keyAt l (j + 1) := by
  unfold ordB
  simp only [List.all_eq_true, List.mem_range, decide_eq_true_eq]
  exact ⟨fun h j hj => h j (by omega), fun h j hj => h j (by omega)⟩
theorem check_err {l : List Body} (h : ¬ eachL l = 0) : checkL l = eachL l := by unfold checkL; rw [if_pos h]
theorem check_no {l : List Body} (h : eachL l = 0) {k : Nat} (hk : k + 1 < l.length) (hn : ¬ keyAt l k < keyAt l (k + 1)) : checkL l = 10 := by
  unfold checkL
  rw [if_neg (by simpa using h), if_neg (fun ho => hn (ord_iff.1 ho k hk))]
theorem check_yes {l : List Body} (h : eachL l = 0) (ho : ∀ j, j + 1 < l.length → keyAt l j < keyAt l (j + 1)) : checkL l = 0 := by
  unfold checkL
  rw [if_neg (by simpa using h), if_pos (ord_iff.2 ho)]

set_option maxHeartbeats 2000000 in
set_option maxRecDepth 100000 in
theorem viewCheck_any (v : Value) (l : List Body) (w : World) (hl : Reads bodyE w v l) :
    Calls Try.prog 18 #[v] w fun e w' => e = .returned (.int .i64 (checkL l)) ∧ Below w.heap.size w w' := by
  have q := hl.1
  have HR := Lib.hid hl
  obtain ⟨A, c, b1, o1, rfl, hA, hx⟩ := hl.bodies
  have hA := Lib.hid hA
  have hx := Lib.hid hx
  clear hl
  by_cases he : eachL l = 0
  · have HE := Lib.hid he
    have he' : (eachL l == 0) = true := by simpa using he
    clear he
    go_enter Try.func18, Try.ntmps18
    go_wp2_with fail
    refine (viewEach_any _ l _ (by exact HR.out)).mono ?_
    rintro e w1 ⟨rfl, hb⟩
    obtain ⟨g0, rfl⟩ := Grow.of hb
    clear hb
    go_wp2_with fail
    go_loopw [4] (fun i wr => ∃ k : Nat, k ≤ l.length ∧ i = .int .i64 ((k : Int) + 1) ∧ (∀ j, j < k → j + 1 < l.length → keyAt l j < keyAt l (j + 1)) ∧ Below w.heap.size w wr) (fun i _ => l.length + 1 - (intOf i).toNat)
    case atStart => exact ⟨0, by omega, rfl, fun j h => absurd h (by omega), bel_grow (Below.refl _ _) g0⟩
    case round =>
      obtain ⟨k, hk, rfl, hP, hbel⟩ := hrel
      have HP := Lib.hid hP
      clear hP
      by_cases hlt : k + 1 < l.length
      · obtain ⟨eA, zA⟩ := hA.out (by omega)
        have ix0 := fun w => idx_body (c := c) eA (show k < l.length by omega) w
        have ix1 := fun w => idx_body (c := c) eA hlt w
        simp only [Int.natCast_add, Int.cast_ofNat_Int] at ix1
        clear eA
        have q0 := ((hx.out k (by omega)).below hbel).1
        have q1 := ((hx.out (k + 1) hlt).below hbel).1
        have zA' : b1 < wr.heap.size := Nat.lt_of_lt_of_le zA hbel.size
        rw [← keyAt_get] at q0 q1
        have hi : (k : Int) + 1 < l.length := by omega
        by_cases ho : keyAt l k < keyAt l (k + 1)
        · have HO := Lib.hid ho
          go_wp2
          refine wp_region_grow (by kernel_rfl) (by kernel_rfl) ?_
          repeat (first | go_big_quiet_skip | (go_big_quiet_want; go_big_quiet_op; first | go_big_quiet_on))
          refine wpQuiet_nil ?_
          rintro _ ⟨g, rfl⟩
          go_wp2
          go_roundw
          case rel => exact ⟨k + 1, by omega, by go_num, fun j hj hjl => if e : j = k then by subst e; exact HO.out else HP.out j (by omega) hjl, bel_grow hbel g⟩
          case measure => simp [intOf]; omega
        · have HO := Lib.hid ho
          have ho' : keyAt l (k + 1) ≤ keyAt l k := by omega
          clear ho
          go_wp2
          refine wp_region_grow (by kernel_rfl) (by kernel_rfl) ?_
          repeat (first | go_big_quiet_skip | (go_big_quiet_want; go_big_quiet_op; first | go_big_quiet_on))
          refine wpQuiet_nil ?_
          rintro _ ⟨g, rfl⟩
          go_wp2
          go_ret
          exact ⟨ret_int (check_no HE.out hlt (by have := HO.out; omega)).symm, bel_grow hbel g⟩
      · go_wp2
        go_ret
        exact ⟨ret_int (check_yes HE.out fun j hj => HP.out j (by omega) hj).symm, hbel⟩
  · have HE := Lib.hid he
    have he' : (eachL l == 0) = false := by simpa using he
    clear he
    go_enter Try.func18, Try.ntmps18
    go_wp2_with fail
    refine (viewEach_any _ l _ (by exact HR.out)).mono ?_
    rintro e w1 ⟨rfl, hb⟩
    obtain ⟨g0, rfl⟩ := Grow.of hb
    clear hb
    go_wp2_with fail
    go_ret
    exact ⟨ret_int (check_err HE.out).symm, bel_grow (Below.refl _ _) g0⟩

set_option maxHeartbeats 2000000 in
set_option maxRecDepth 100000 in
theorem refCheck7_any (v : Value) (l : List Body) (w : World) (hl : Reads bodyE w v l) :
    Calls Try.prog 17 #[v] w fun e w' => e = .returned (.int .i64 (checkL l)) ∧ Below w.heap.size w w' := by
  have q := hl.1
  have HR := Lib.hid hl
  obtain ⟨A, c, b1, o1, rfl, hA, hx⟩ := hl.bodies
  have hA := Lib.hid hA
  have hx := Lib.hid hx
  clear hl
  by_cases he : eachL l = 0
  · have HE := Lib.hid he
    have he' : (eachL l == 0) = true := by simpa using he
    clear he
    go_enter Try.func17, Try.ntmps17
    go_wp2_with fail
    refine (each_any _ l _ (by exact HR.out)).mono ?_
    rintro e w1 ⟨rfl, hb⟩
    obtain ⟨g0, rfl⟩ := Grow.of hb
    clear hb
    go_wp2_with fail
    go_loopw [4] (fun i wr => ∃ k : Nat, k ≤ l.length ∧ i = .int .i64 (k : Int) ∧ (∀ j, j < k → j + 1 < l.length → keyAt l j < keyAt l (j + 1)) ∧ Below w.heap.size w wr) (fun i _ => l.length - (intOf i).toNat)
    case atStart => exact ⟨0, by omega, rfl, fun j h => absurd h (by omega), bel_grow (Below.refl _ _) g0⟩
    case round =>
      obtain ⟨k, hk, rfl, hP, hbel⟩ := hrel
      have HP := Lib.hid hP
      clear hP
      by_cases hlt : k + 1 < l.length
      · obtain ⟨eA, zA⟩ := hA.out (by omega)
        have ix0 := fun w => idx_body (c := c) eA (show k < l.length by omega) w
        have ix1 := fun w => idx_body (c := c) eA hlt w
        simp only [Int.natCast_add, Int.cast_ofNat_Int] at ix1
        clear eA
        have q0 := ((hx.out k (by omega)).below hbel).1
        have q1 := ((hx.out (k + 1) hlt).below hbel).1
        have zA' : b1 < wr.heap.size := Nat.lt_of_lt_of_le zA hbel.size
        rw [← keyAt_get] at q0 q1
        have hi : (k : Int) + 1 < l.length := by omega
        by_cases ho : keyAt l k < keyAt l (k + 1)
        · have HO := Lib.hid ho
          go_wp2
          refine wp_region_grow (by kernel_rfl) (by kernel_rfl) ?_
          repeat (first | go_big_quiet_skip | (go_big_quiet_want; go_big_quiet_op; first | go_big_quiet_on))
          refine wpQuiet_nil ?_
          rintro _ ⟨g, rfl⟩
          go_wp2
          go_roundw
          case rel => exact ⟨k + 1, by omega, by go_num, fun j hj hjl => if e : j = k then by subst e; exact HO.out else HP.out j (by omega) hjl, bel_grow hbel g⟩
          case measure => simp [intOf]; omega
        · have HO := Lib.hid ho
          have ho' : keyAt l (k + 1) ≤ keyAt l k := by omega
          clear ho
          go_wp2
          refine wp_region_grow (by kernel_rfl) (by kernel_rfl) ?_
          repeat (first | go_big_quiet_skip | (go_big_quiet_want; go_big_quiet_op; first | go_big_quiet_on))
          refine wpQuiet_nil ?_
          rintro _ ⟨g, rfl⟩
          go_wp2
          go_ret
          exact ⟨ret_int (check_no HE.out hlt (by have := HO.out; omega)).symm, bel_grow hbel g⟩
      · go_wp2
        go_ret
        exact ⟨ret_int (check_yes HE.out fun j hj => HP.out j (by omega) hj).symm, hbel⟩
  · have HE := Lib.hid he
    have he' : (eachL l == 0) = false := by simpa using he
    clear he
    go_enter Try.func17, Try.ntmps17
    go_wp2_with fail
    refine (each_any _ l _ (by exact HR.out)).mono ?_
    rintro e w1 ⟨rfl, hb⟩
    obtain ⟨g0, rfl⟩ := Grow.of hb
    clear hb
    go_wp2_with fail
    go_ret
    exact ⟨ret_int (check_err HE.out).symm, bel_grow (Below.refl _ _) g0⟩
end Go.Proofs.Ytlibkfjafhggkaa
