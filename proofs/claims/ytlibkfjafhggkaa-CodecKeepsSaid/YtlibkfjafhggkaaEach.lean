/- The contracts of the checks of a list of bodies: the program's view.Check and the reference's. -/
import Derived.Test.YtlibkfjafhggkaaSame
import Derived.Test.YtlibkfjafhggkaaRef05
import Derived.Test.YtlibkfjafhggkaaBody
namespace Go.Proofs.Ytlibkfjafhggkaa
open Go.RowKit
attribute [local go_sem] Grow.cell Grow.froz Grow.lt

/-- The error of the first body that is not valid. -/
def firstErr : List Body → Int
  | [] => 0
  | b :: r => if errOf b = 0 then firstErr r else errOf b
def eachL (l : List Body) : Int := if 4096 < l.length then 12 else firstErr l
theorem firstErr_zero {l : List Body} : firstErr l = 0 ↔ ∀ b ∈ l, errOf b = 0 := by
  induction l with
  | nil => simp [firstErr]
  | cons b r ih =>
    unfold firstErr
    by_cases h : errOf b = 0
    · rw [if_pos h, ih]; simp [h]
    · rw [if_neg h]; simp [h]
theorem firstErr_drop {l : List Body} {k : Nat} (hk : k < l.length) : firstErr (l.drop k) = if errOf l[k] = 0 then firstErr (l.drop (k + 1)) else errOf l[k] := by
  rw [List.drop_eq_getElem_cons hk, firstErr]

set_option maxHeartbeats 2000000 in
set_option maxRecDepth 100000 in
theorem each_any (v : Value) (l : List Body) (w : World) (hl : Reads bodyE w v l) :
    Calls Try.prog 26 #[v] w fun e w' => e = .returned (.int .i64 (eachL l)) ∧ Below w.heap.size w w' := by
  have q := hl.1
  obtain ⟨A, c, b1, o1, rfl, hA, hx⟩ := hl.bodies
  have hA := Lib.hid hA
  have hx := Lib.hid hx
  clear hl
  by_cases hf : (4096 : Int) < l.length
  · have HF := Lib.hid hf
    go_enter Try.func26, Try.ntmps26
    go_wp2
    go_ret
    exact ⟨ret_int (by unfold eachL; rw [if_pos (by have := HF.out; omega)]), Below.refl _ _⟩
  · have hf' : (l.length : Int) ≤ 4096 := by omega
    clear hf
    have HF := Lib.hid hf'
    go_enter Try.func26, Try.ntmps26
    go_wp2
    go_loopw [3] (fun i wr => ∃ k : Nat, k ≤ l.length ∧ i = .int .i64 k ∧ firstErr l = firstErr (l.drop k) ∧ Below w.heap.size w wr) (fun i _ => l.length - (intOf i).toNat)
    case atStart => exact ⟨0, by omega, rfl, rfl, Below.refl _ _⟩
    case round =>
      obtain ⟨k, hk, rfl, hP, hbel⟩ := hrel
      have HP := Lib.hid hP
      clear hP
      by_cases hlt : k < l.length
      · obtain ⟨eA, zA⟩ := hA.out (by omega)
        have ix := fun w => idx_body (c := c) eA hlt w
        clear eA
        obtain ⟨q0, q1, q2, q3, q4, q5, q6, q7, q8, q9⟩ := (hx.out k hlt).below hbel
        by_cases he : errOf l[k] = 0
        · have HE := Lib.hid he
          have he' : (errOf ⟨l[k].key, l[k].radius, l[k].ax, l[k].ay, l[k].inv, l[k].bounce, l[k].px, l[k].py, l[k].vx, l[k].vy⟩ == 0) = true := by simpa using he
          clear he
          go_wp2_with fail
          refine (refCheck_fl _ _ _ _ _ _ _ _ _ _ _).mono ?_
          rintro e w1 ⟨rfl, hb⟩
          obtain ⟨g1, rfl⟩ := Grow.of hb
          clear hb
          go_wp2_with fail
          go_roundw
          case rel => exact ⟨k + 1, by omega, by go_num, by rw [HP.out, firstErr_drop hlt, if_pos HE.out], bel_grow hbel g1⟩
          case measure => simp [intOf]; omega
        · have HE := Lib.hid he
          have he' : (errOf ⟨l[k].key, l[k].radius, l[k].ax, l[k].ay, l[k].inv, l[k].bounce, l[k].px, l[k].py, l[k].vx, l[k].vy⟩ == 0) = false := by simpa using he
          clear he
          go_wp2_with fail
          refine (refCheck_fl _ _ _ _ _ _ _ _ _ _ _).mono ?_
          rintro e w1 ⟨rfl, hb⟩
          obtain ⟨g1, rfl⟩ := Grow.of hb
          clear hb
          go_wp2_with fail
          go_ret
          exact ⟨ret_int (by unfold eachL; rw [if_neg (by have := HF.out; omega), HP.out, firstErr_drop hlt, if_neg HE.out]), bel_grow hbel g1⟩
      · have hd : firstErr (l.drop k) = 0 := by rw [List.drop_eq_nil_of_le (by omega)]; rfl
        have HD := Lib.hid hd
        clear hd
        go_wp2
        go_ret
        exact ⟨ret_int (by unfold eachL; rw [if_neg (by have := HF.out; omega), HP.out, HD.out]), hbel⟩


theorem check_flat (k r ax ay m o px py vx vy : Int) (w : World) : Calls Try.prog 31 #[.agg #[.int .u32 k, .int .i32 r, .int .i32 ax, .int .i32 ay, .int .i32 m, .int .i32 o, .int .i32 px, .int .i32 py, .int .i32 vx, .int .i32 vy]] w fun e w' => e = .returned (.int .i64 (errOf ⟨k, r, ax, ay, m, o, px, py, vx, vy⟩)) ∧ Below w.heap.size w w' := check_any ⟨k, r, ax, ay, m, o, px, py, vx, vy⟩ w

set_option maxHeartbeats 2000000 in
set_option maxRecDepth 100000 in
theorem viewEach_any (v : Value) (l : List Body) (w : World) (hl : Reads bodyE w v l) :
    Calls Try.prog 27 #[v] w fun e w' => e = .returned (.int .i64 (eachL l)) ∧ Below w.heap.size w w' := by
  have q := hl.1
  obtain ⟨A, c, b1, o1, rfl, hA, hx⟩ := hl.bodies
  have hA := Lib.hid hA
  have hx := Lib.hid hx
  clear hl
  by_cases hf : (4096 : Int) < l.length
  · have HF := Lib.hid hf
    go_enter Try.func27, Try.ntmps27
    go_wp2
    go_ret
    exact ⟨ret_int (by unfold eachL; rw [if_pos (by have := HF.out; omega)]), Below.refl _ _⟩
  · have hf' : (l.length : Int) ≤ 4096 := by omega
    clear hf
    have HF := Lib.hid hf'
    go_enter Try.func27, Try.ntmps27
    go_wp2
    go_loopw [11] (fun i wr => ∃ k : Nat, k ≤ l.length ∧ i = .int .i64 k ∧ firstErr l = firstErr (l.drop k) ∧ Below w.heap.size w wr) (fun i _ => l.length - (intOf i).toNat)
    case atStart => exact ⟨0, by omega, rfl, rfl, Below.refl _ _⟩
    case round =>
      obtain ⟨k, hk, rfl, hP, hbel⟩ := hrel
      have HP := Lib.hid hP
      clear hP
      by_cases hlt : k < l.length
      · obtain ⟨eA, zA⟩ := hA.out (by omega)
        have ix := fun w => idx_body (c := c) eA hlt w
        clear eA
        obtain ⟨q0, q1, q2, q3, q4, q5, q6, q7, q8, q9⟩ := (hx.out k hlt).below hbel
        have zA' : b1 < wr.heap.size := Nat.lt_of_lt_of_le zA hbel.size
        by_cases he : errOf l[k] = 0
        · have HE := Lib.hid he
          have he' : (errOf ⟨l[k].key, l[k].radius, l[k].ax, l[k].ay, l[k].inv, l[k].bounce, l[k].px, l[k].py, l[k].vx, l[k].vy⟩ == 0) = true := by simpa using he
          clear he
          go_wp2_with fail
          refine (check_flat _ _ _ _ _ _ _ _ _ _ _).mono ?_
          rintro e w1 ⟨rfl, hb⟩
          obtain ⟨g1, rfl⟩ := Grow.of hb
          clear hb
          go_wp2_with fail
          go_roundw
          case rel => exact ⟨k + 1, by omega, by go_num, by rw [HP.out, firstErr_drop hlt, if_pos HE.out], bel_grow (bel_alloc hbel _) g1⟩
          case measure => simp [intOf]; omega
        · have HE := Lib.hid he
          have he' : (errOf ⟨l[k].key, l[k].radius, l[k].ax, l[k].ay, l[k].inv, l[k].bounce, l[k].px, l[k].py, l[k].vx, l[k].vy⟩ == 0) = false := by simpa using he
          clear he
          go_wp2_with fail
          refine (check_flat _ _ _ _ _ _ _ _ _ _ _).mono ?_
          rintro e w1 ⟨rfl, hb⟩
          obtain ⟨g1, rfl⟩ := Grow.of hb
          clear hb
          go_wp2_with fail
          go_ret
          exact ⟨ret_int (by unfold eachL; rw [if_neg (by have := HF.out; omega), HP.out, firstErr_drop hlt, if_neg HE.out]), bel_grow (bel_alloc hbel _) g1⟩
      · have hd : firstErr (l.drop k) = 0 := by rw [List.drop_eq_nil_of_le (by omega)]; rfl
        have HD := Lib.hid hd
        clear hd
        go_wp2
        go_ret
        exact ⟨ret_int (by unfold eachL; rw [if_neg (by have := HF.out; omega), HP.out, HD.out]), hbel⟩
end Go.Proofs.Ytlibkfjafhggkaa
