/- Contracts of the program's functions, by walks, and plain facts beside them: Each, Check7. -/
import Derived.Test.YtnhaiecbjipodaaGreatDoorB16
import Derived.Test.YtnhaiecbjipodaaGreatDoorB06
import Derived.Test.YtnhaiecbjipodaaGreatDoorB09
/- The contracts of the checks of a list of bodies: the program's view.Check and the reference's. -/
namespace Go.Proofs.YtnhaiecbjipodaaGreatDoor
open Go.RowKit
attribute [local go_sem] Grow.cell Grow.froz Grow.lt

/-- The error of the first body that is not valid. -/
def firstErr : List Body → Int
  | [] => 0
  | b :: r => if errOf b = 0 then firstErr r else errOf b
def eachL (l : List Body) : Int := if 4096 < l.length then 12 else firstErr l
theorem firstErr_zero {l : List Body} : firstErr l = 0 ↔ ∀ b ∈ l, errOf b = 0 := by
  induction l with
  | nil => simp [firstErr]
  | cons b r ih =>
    unfold firstErr
    by_cases h : errOf b = 0
    · rw [if_pos h, ih]; simp [h]
    · rw [if_neg h]; simp [h]
theorem firstErr_drop {l : List Body} {k : Nat} (hk : k < l.length) : firstErr (l.drop k) = if errOf l[k] = 0 then firstErr (l.drop (k + 1)) else errOf l[k] := by
  rw [List.drop_eq_getElem_cons hk, firstErr]

set_option maxHeartbeats 2000000 in
set_option maxRecDepth 100000 in
theorem each_any (v : Value) (l : List Body) (w : World) (hl : Reads bodyE w v l) :
    Calls Tryz.prog 72 #[v] w fun e w' => e = .returned (.int .i64 (eachL l)) ∧ Below w.heap.size w w' := by
  have q := hl.1
  obtain ⟨A, c, b1, o1, rfl, hA, hx⟩ := hl.bodies
  have hA := Lib.hid hA
  have hx := Lib.hid hx
  clear hl
  by_cases hf : (4096 : Int) < l.length
  · have HF := Lib.hid hf
    go_enter Tryz.func72, Tryz.ntmps72
    go_wp2
    go_ret
    exact ⟨ret_int (by unfold eachL; rw [if_pos (by have := HF.out; omega)]), Below.refl _ _⟩
  · have hf' : (l.length : Int) ≤ 4096 := by omega
    clear hf
    have HF := Lib.hid hf'
    go_enter Tryz.func72, Tryz.ntmps72
    go_wp2
    go_loopw [3] (fun i wr => ∃ k : Nat, k ≤ l.length ∧ i = .int .i64 k ∧ firstErr l = firstErr (l.drop k) ∧ Below w.heap.size w wr) (fun i _ => l.length - (intOf i).toNat)
    case atStart => exact ⟨0, by omega, rfl, rfl, Below.refl _ _⟩
    case round =>
      obtain ⟨k, hk, rfl, hP, hbel⟩ := hrel
      have HP := Lib.hid hP
      clear hP
      by_cases hlt : k < l.length
      · obtain ⟨eA, zA⟩ := hA.out (by omega)
        have ix := fun w => idx_body (c := c) eA hlt w
        clear eA
        obtain ⟨q0, q1, q2, q3, q4, q5, q6, q7, q8, q9⟩ := (hx.out k hlt).below hbel
        by_cases he : errOf l[k] = 0
        · have HE := Lib.hid he
          have he' : (errOf ⟨l[k].key, l[k].radius, l[k].ax, l[k].ay, l[k].inv, l[k].bounce, l[k].px, l[k].py, l[k].vx, l[k].vy⟩ == 0) = true := by simpa using he
          clear he
          go_wp2_with fail
          refine (refCheck_fl _ _ _ _ _ _ _ _ _ _ _).mono ?_
          rintro e w1 ⟨rfl, hb⟩
          obtain ⟨g1, rfl⟩ := Grow.of hb
          clear hb
          go_wp2_with fail
          go_roundw
          case rel => exact ⟨k + 1, by omega, by go_num, by rw [HP.out, firstErr_drop hlt, if_pos HE.out], bel_grow hbel g1⟩
          case measure => simp [intOf]; omega
        · have HE := Lib.hid he
          have he' : (errOf ⟨l[k].key, l[k].radius, l[k].ax, l[k].ay, l[k].inv, l[k].bounce, l[k].px, l[k].py, l[k].vx, l[k].vy⟩ == 0) = false := by simpa using he
          clear he
          go_wp2_with fail
          refine (refCheck_fl _ _ _ _ _ _ _ _ _ _ _).mono ?_
          rintro e w1 ⟨rfl, hb⟩
          obtain ⟨g1, rfl⟩ := Grow.of hb
          clear hb
          go_wp2_with fail
          go_ret
          exact ⟨ret_int (by unfold eachL; rw [if_neg (by have := HF.out; omega), HP.out, firstErr_drop hlt, if_neg HE.out]), bel_grow hbel g1⟩
      · have hd : firstErr (l.drop k) = 0 := by rw [List.drop_eq_nil_of_le (by omega)]; rfl
        have HD := Lib.hid hd
        clear hd
        go_wp2
        go_ret
        exact ⟨ret_int (by unfold eachL; rw [if_neg (by have := HF.out; omega), HP.out, HD.out]), hbel⟩


theorem check_flat (k r ax ay m o px py vx vy : Int) (w : World) : Calls Tryz.prog 71 #[.agg #[.int .u32 k, .int .i32 r, .int .i32 ax, .int .i32 ay, .int .i32 m, .int .i32 o, .int .i32 px, .int .i32 py, .int .i32 vx, .int .i32 vy]] w fun e w' => e = .returned (.int .i64 (errOf ⟨k, r, ax, ay, m, o, px, py, vx, vy⟩)) ∧ Below w.heap.size w w' := check_any ⟨k, r, ax, ay, m, o, px, py, vx, vy⟩ w

set_option maxHeartbeats 2000000 in
set_option maxRecDepth 100000 in
theorem viewEach_any (v : Value) (l : List Body) (w : World) (hl : Reads bodyE w v l) :
    Calls Tryz.prog 85 #[v] w fun e w' => e = .returned (.int .i64 (eachL l)) ∧ Below w.heap.size w w' := by
  have q := hl.1
  obtain ⟨A, c, b1, o1, rfl, hA, hx⟩ := hl.bodies
  have hA := Lib.hid hA
  have hx := Lib.hid hx
  clear hl
  by_cases hf : (4096 : Int) < l.length
  · have HF := Lib.hid hf
    go_enter Tryz.func85, Tryz.ntmps85
    go_wp2
    go_ret
    exact ⟨ret_int (by unfold eachL; rw [if_pos (by have := HF.out; omega)]), Below.refl _ _⟩
  · have hf' : (l.length : Int) ≤ 4096 := by omega
    clear hf
    have HF := Lib.hid hf'
    go_enter Tryz.func85, Tryz.ntmps85
    go_wp2
    go_loopw [11] (fun i wr => ∃ k : Nat, k ≤ l.length ∧ i = .int .i64 k ∧ firstErr l = firstErr (l.drop k) ∧ Below w.heap.size w wr) (fun i _ => l.length - (intOf i).toNat)
    case atStart => exact ⟨0, by omega, rfl, rfl, Below.refl _ _⟩
    case round =>
      obtain ⟨k, hk, rfl, hP, hbel⟩ := hrel
      have HP := Lib.hid hP
      clear hP
      by_cases hlt : k < l.length
      · obtain ⟨eA, zA⟩ := hA.out (by omega)
        have ix := fun w => idx_body (c := c) eA hlt w
        clear eA
        obtain ⟨q0, q1, q2, q3, q4, q5, q6, q7, q8, q9⟩ := (hx.out k hlt).below hbel
        have zA' : b1 < wr.heap.size := Nat.lt_of_lt_of_le zA hbel.size
        by_cases he : errOf l[k] = 0
        · have HE := Lib.hid he
          have he' : (errOf ⟨l[k].key, l[k].radius, l[k].ax, l[k].ay, l[k].inv, l[k].bounce, l[k].px, l[k].py, l[k].vx, l[k].vy⟩ == 0) = true := by simpa using he
          clear he
          go_wp2_with fail
          refine (check_flat _ _ _ _ _ _ _ _ _ _ _).mono ?_
          rintro e w1 ⟨rfl, hb⟩
          obtain ⟨g1, rfl⟩ := Grow.of hb
          clear hb
          go_wp2_with fail
          go_roundw
          case rel => exact ⟨k + 1, by omega, by go_num, by rw [HP.out, firstErr_drop hlt, if_pos HE.out], bel_grow (bel_alloc hbel _) g1⟩
          case measure => simp [intOf]; omega
        · have HE := Lib.hid he
          have he' : (errOf ⟨l[k].key, l[k].radius, l[k].ax, l[k].ay, l[k].inv, l[k].bounce, l[k].px, l[k].py, l[k].vx, l[k].vy⟩ == 0) = false := by simpa using he
          clear he
          go_wp2_with fail
          refine (check_flat _ _ _ _ _ _ _ _ _ _ _).mono ?_
          rintro e w1 ⟨rfl, hb⟩
          obtain ⟨g1, rfl⟩ := Grow.of hb
          clear hb
          go_wp2_with fail
          go_ret
          exact ⟨ret_int (by unfold eachL; rw [if_neg (by have := HF.out; omega), HP.out, firstErr_drop hlt, if_neg HE.out]), bel_grow (bel_alloc hbel _) g1⟩
      · have hd : firstErr (l.drop k) = 0 := by rw [List.drop_eq_nil_of_le (by omega)]; rfl
        have HD := Lib.hid hd
        clear hd
        go_wp2
        go_ret
        exact ⟨ret_int (by unfold eachL; rw [if_neg (by have := HF.out; omega), HP.out, HD.out]), hbel⟩
end Go.Proofs.YtnhaiecbjipodaaGreatDoor
/- The contracts of the two checks of a view. -/
namespace Go.Proofs.YtnhaiecbjipodaaGreatDoor
open Go.RowKit
attribute [local go_sem] Grow.cell Grow.froz Grow.lt

def keyAt (l : List Body) (i : Nat) : Int := match l[i]? with | some b => b.key | none => 0
theorem keyAt_get {l : List Body} {i : Nat} (h : i < l.length) : keyAt l i = l[i].key := by simp [keyAt, h]
def ordB (l : List Body) : Bool := (List.range (l.length - 1)).all fun j => decide (keyAt l j < keyAt l (j + 1))
def checkL (l : List Body) : Int := if eachL l ≠ 0 then eachL l else if ordB l = true then 0 else 10
theorem ord_iff {l : List Body} : ordB l = true ↔ ∀ j, j + 1 < l.length → keyAt l j < keyAt l (j + 1) := by
  unfold ordB
  simp only [List.all_eq_true, List.mem_range, decide_eq_true_eq]
  exact ⟨fun h j hj => h j (by omega), fun h j hj => h j (by omega)⟩
theorem check_err {l : List Body} (h : ¬ eachL l = 0) : checkL l = eachL l := by unfold checkL; rw [if_pos h]
theorem check_no {l : List Body} (h : eachL l = 0) {k : Nat} (hk : k + 1 < l.length) (hn : ¬ keyAt l k < keyAt l (k + 1)) : checkL l = 10 := by
  unfold checkL
  rw [if_neg (by simpa using h), if_neg (fun ho => hn (ord_iff.1 ho k hk))]
theorem check_yes {l : List Body} (h : eachL l = 0) (ho : ∀ j, j + 1 < l.length → keyAt l j < keyAt l (j + 1)) : checkL l = 0 := by
  unfold checkL
  rw [if_neg (by simpa using h), if_pos (ord_iff.2 ho)]

set_option maxHeartbeats 2000000 in
set_option maxRecDepth 100000 in
theorem viewCheck_any (v : Value) (l : List Body) (w : World) (hl : Reads bodyE w v l) :
    Calls Tryz.prog 45 #[v] w fun e w' => e = .returned (.int .i64 (checkL l)) ∧ Below w.heap.size w w' := by
  have q := hl.1
  have HR := Lib.hid hl
  obtain ⟨A, c, b1, o1, rfl, hA, hx⟩ := hl.bodies
  have hA := Lib.hid hA
  have hx := Lib.hid hx
  clear hl
  by_cases he : eachL l = 0
  · have HE := Lib.hid he
    have he' : (eachL l == 0) = true := by simpa using he
    clear he
    go_enter Tryz.func45, Tryz.ntmps45
    go_wp2_with fail
    refine (viewEach_any _ l _ (by exact HR.out)).mono ?_
    rintro e w1 ⟨rfl, hb⟩
    obtain ⟨g0, rfl⟩ := Grow.of hb
    clear hb
    go_wp2_with fail
    go_loopw [4] (fun i wr => ∃ k : Nat, k ≤ l.length ∧ i = .int .i64 ((k : Int) + 1) ∧ (∀ j, j < k → j + 1 < l.length → keyAt l j < keyAt l (j + 1)) ∧ Below w.heap.size w wr) (fun i _ => l.length + 1 - (intOf i).toNat)
    case atStart => exact ⟨0, by omega, rfl, fun j h => absurd h (by omega), bel_grow (Below.refl _ _) g0⟩
    case round =>
      obtain ⟨k, hk, rfl, hP, hbel⟩ := hrel
      have HP := Lib.hid hP
      clear hP
      by_cases hlt : k + 1 < l.length
      · obtain ⟨eA, zA⟩ := hA.out (by omega)
        have ix0 := fun w => idx_body (c := c) eA (show k < l.length by omega) w
        have ix1 := fun w => idx_body (c := c) eA hlt w
        simp only [Int.natCast_add, Int.cast_ofNat_Int] at ix1
        clear eA
        have q0 := ((hx.out k (by omega)).below hbel).1
        have q1 := ((hx.out (k + 1) hlt).below hbel).1
        have zA' : b1 < wr.heap.size := Nat.lt_of_lt_of_le zA hbel.size
        rw [← keyAt_get] at q0 q1
        have hi : (k : Int) + 1 < l.length := by omega
        by_cases ho : keyAt l k < keyAt l (k + 1)
        · have HO := Lib.hid ho
          go_wp2
          refine wp_region_grow (by kernel_rfl) (by kernel_rfl) ?_
          repeat (first | go_big_quiet_skip | (go_big_quiet_want; go_big_quiet_op; first | go_big_quiet_on))
          refine wpQuiet_nil ?_
          rintro _ ⟨g, rfl⟩
          go_wp2
          go_roundw
          case rel => exact ⟨k + 1, by omega, by go_num, fun j hj hjl => if e : j = k then by subst e; exact HO.out else HP.out j (by omega) hjl, bel_grow hbel g⟩
          case measure => simp [intOf]; omega
        · have HO := Lib.hid ho
          have ho' : keyAt l (k + 1) ≤ keyAt l k := by omega
          clear ho
          go_wp2
          refine wp_region_grow (by kernel_rfl) (by kernel_rfl) ?_
          repeat (first | go_big_quiet_skip | (go_big_quiet_want; go_big_quiet_op; first | go_big_quiet_on))
          refine wpQuiet_nil ?_
          rintro _ ⟨g, rfl⟩
          go_wp2
          go_ret
          exact ⟨ret_int (check_no HE.out hlt (by have := HO.out; omega)).symm, bel_grow hbel g⟩
      · go_wp2
        go_ret
        exact ⟨ret_int (check_yes HE.out fun j hj => HP.out j (by omega) hj).symm, hbel⟩
  · have HE := Lib.hid he
    have he' : (eachL l == 0) = false := by simpa using he
    clear he
    go_enter Tryz.func45, Tryz.ntmps45
    go_wp2_with fail
    refine (viewEach_any _ l _ (by exact HR.out)).mono ?_
    rintro e w1 ⟨rfl, hb⟩
    obtain ⟨g0, rfl⟩ := Grow.of hb
    clear hb
    go_wp2_with fail
    go_ret
    exact ⟨ret_int (check_err HE.out).symm, bel_grow (Below.refl _ _) g0⟩

set_option maxHeartbeats 2000000 in
set_option maxRecDepth 100000 in
theorem refCheck7_any (v : Value) (l : List Body) (w : World) (hl : Reads bodyE w v l) :
    Calls Tryz.prog 106 #[v] w fun e w' => e = .returned (.int .i64 (checkL l)) ∧ Below w.heap.size w w' := by
  have q := hl.1
  have HR := Lib.hid hl
  obtain ⟨A, c, b1, o1, rfl, hA, hx⟩ := hl.bodies
  have hA := Lib.hid hA
  have hx := Lib.hid hx
  clear hl
  by_cases he : eachL l = 0
  · have HE := Lib.hid he
    have he' : (eachL l == 0) = true := by simpa using he
    clear he
    go_enter Tryz.func106, Tryz.ntmps106
    go_wp2_with fail
    refine (each_any _ l _ (by exact HR.out)).mono ?_
    rintro e w1 ⟨rfl, hb⟩
    obtain ⟨g0, rfl⟩ := Grow.of hb
    clear hb
    go_wp2_with fail
    go_loopw [4] (fun i wr => ∃ k : Nat, k ≤ l.length ∧ i = .int .i64 (k : Int) ∧ (∀ j, j < k → j + 1 < l.length → keyAt l j < keyAt l (j + 1)) ∧ Below w.heap.size w wr) (fun i _ => l.length - (intOf i).toNat)
    case atStart => exact ⟨0, by omega, rfl, fun j h => absurd h (by omega), bel_grow (Below.refl _ _) g0⟩
    case round =>
      obtain ⟨k, hk, rfl, hP, hbel⟩ := hrel
      have HP := Lib.hid hP
      clear hP
      by_cases hlt : k + 1 < l.length
      · obtain ⟨eA, zA⟩ := hA.out (by omega)
        have ix0 := fun w => idx_body (c := c) eA (show k < l.length by omega) w
        have ix1 := fun w => idx_body (c := c) eA hlt w
        simp only [Int.natCast_add, Int.cast_ofNat_Int] at ix1
        clear eA
        have q0 := ((hx.out k (by omega)).below hbel).1
        have q1 := ((hx.out (k + 1) hlt).below hbel).1
        have zA' : b1 < wr.heap.size := Nat.lt_of_lt_of_le zA hbel.size
        rw [← keyAt_get] at q0 q1
        have hi : (k : Int) + 1 < l.length := by omega
        by_cases ho : keyAt l k < keyAt l (k + 1)
        · have HO := Lib.hid ho
          go_wp2
          refine wp_region_grow (by kernel_rfl) (by kernel_rfl) ?_
          repeat (first | go_big_quiet_skip | (go_big_quiet_want; go_big_quiet_op; first | go_big_quiet_on))
          refine wpQuiet_nil ?_
          rintro _ ⟨g, rfl⟩
          go_wp2
          go_roundw
          case rel => exact ⟨k + 1, by omega, by go_num, fun j hj hjl => if e : j = k then by subst e; exact HO.out else HP.out j (by omega) hjl, bel_grow hbel g⟩
          case measure => simp [intOf]; omega
        · have HO := Lib.hid ho
          have ho' : keyAt l (k + 1) ≤ keyAt l k := by omega
          clear ho
          go_wp2
          refine wp_region_grow (by kernel_rfl) (by kernel_rfl) ?_
          repeat (first | go_big_quiet_skip | (go_big_quiet_want; go_big_quiet_op; first | go_big_quiet_on))
          refine wpQuiet_nil ?_
          rintro _ ⟨g, rfl⟩
          go_wp2
          go_ret
          exact ⟨ret_int (check_no HE.out hlt (by have := HO.out; omega)).symm, bel_grow hbel g⟩
      · go_wp2
        go_ret
        exact ⟨ret_int (check_yes HE.out fun j hj => HP.out j (by omega) hj).symm, hbel⟩
  · have HE := Lib.hid he
    have he' : (eachL l == 0) = false := by simpa using he
    clear he
    go_enter Tryz.func106, Tryz.ntmps106
    go_wp2_with fail
    refine (each_any _ l _ (by exact HR.out)).mono ?_
    rintro e w1 ⟨rfl, hb⟩
    obtain ⟨g0, rfl⟩ := Grow.of hb
    clear hb
    go_wp2_with fail
    go_ret
    exact ⟨ret_int (check_err HE.out).symm, bel_grow (Below.refl _ _) g0⟩
end Go.Proofs.YtnhaiecbjipodaaGreatDoor
