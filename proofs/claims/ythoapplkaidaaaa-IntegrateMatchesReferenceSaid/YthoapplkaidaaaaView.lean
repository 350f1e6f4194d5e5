/- The contracts of the reference's All, each, Sort and View. -/
import Derived.Test.YthoapplkaidaaaaAdd
namespace Go.Proofs.Ythoapplkaidaaaa
open Go.RowKit
attribute [local go_sem] Grow.cell Grow.froz Grow.lt

def allL (l : List Body) : List Body := l.foldl (fun s b => (addL s b).1) []
theorem all_take {l : List Body} {k : Nat} (hk : k < l.length) : allL (l.take (k + 1)) = (addL (allL (l.take k)) l[k]).1 := by
  unfold allL
  rw [List.take_succ_eq_append_getElem hk, List.foldl_append]; rfl

set_option maxHeartbeats 2000000 in
theorem all_any (v : Value) (l : List Body) (w : World) (hl : Reads bodyE w v l) (hn : l.length ≤ 1000000) :
    Calls Try.prog 32 #[v] w fun e w' => ∃ v', e = .returned v' ∧ Reads bodyE w' v' (allL l) ∧ Below w.heap.size w w' := by
  obtain ⟨A, c, b1, o1, rfl, hA, hx⟩ := hl.bodies
  have hA := Lib.hid hA
  have hx := Lib.hid hx
  clear hl
  go_enter Try.func32, Try.ntmps32
  go_wp2
  go_loopw [3, 4] (fun v i wr => ∃ k : Nat, k ≤ l.length ∧ i = .int .i64 k ∧ Reads bodyE wr v (allL (l.take k)) ∧ (allL (l.take k)).length ≤ k ∧ Below w.heap.size w wr) (fun _ i _ => l.length - (intOf i).toNat)
  case atStart => exact ⟨0, by omega, rfl, Reads.none _ _, by simp [allL], Below.refl _ _⟩
  case round =>
    obtain ⟨k, hk, rfl, hr, hlen, hbel⟩ := hrel
    have HR := Lib.hid hr
    have HL := Lib.hid hlen
    clear hr hlen
    by_cases hlt : k < l.length
    · obtain ⟨eA, zA⟩ := hA.out (by omega)
      have ix := fun w => idx_body (c := c) eA hlt w
      clear eA
      obtain ⟨q0, q1, q2, q3, q4, q5, q6, q7, q8, q9⟩ := (hx.out k hlt).below hbel
      go_wp2_with fail
      refine (add_any _ (allL (l.take k)) l[k] _ HR.out (by have := HL.out; omega)).mono ?_
      rintro e w1 ⟨v1, rfl, hr1, hb1⟩
      have HR1 := Lib.hid hr1
      clear hr1
      obtain ⟨g1, rfl⟩ := Grow.of hb1
      clear hb1
      go_wp2_with fail
      go_roundw
      case rel => exact ⟨k + 1, by omega, by go_num, by rw [all_take hlt]; exact HR1.out, by rw [all_take hlt]; have := addL_len (allL (l.take k)) l[k]; have := HL.out; omega, bel_grow hbel g1⟩
      case measure => simp [intOf]; omega
    · have hkl : k = l.length := by omega
      have HN := Lib.hid hkl
      clear hkl
      go_wp2
      go_ret
      exact ⟨_, rfl, by have := HR.out; rw [HN.out, List.take_length] at this; exact this, hbel⟩

/-- The error of the first body that is not valid. -/
def firstErr : List Body → Int
  | [] => 0
  | b :: r => if errOf b = 0 then firstErr r else errOf b
def eachL (l : List Body) : Int := if 4096 < l.length then 12 else firstErr l
theorem firstErr_zero {l : List Body} : firstErr l = 0 ↔ ∀ b ∈ l, errOf b = 0 := by
  induction l with
  | nil => simp [firstErr]
  | cons b r ih =>
    unfold firstErr
    by_cases h : errOf b = 0
    · rw [if_pos h, ih]; simp [h]
    · rw [if_neg h]; simp [h]
theorem firstErr_drop {l : List Body} {k : Nat} (hk : k < l.length) : firstErr (l.drop k) = if errOf l[k] = 0 then firstErr (l.drop (k + 1)) else errOf l[k] := by
  rw [List.drop_eq_getElem_cons hk, firstErr]

set_option maxHeartbeats 2000000 in
set_option maxRecDepth 100000 in
theorem each_any (v : Value) (l : List Body) (w : World) (hl : Reads bodyE w v l) :
    Calls Try.prog 31 #[v] w fun e w' => e = .returned (.int .i64 (eachL l)) ∧ Below w.heap.size w w' := by
  have q := hl.1
  obtain ⟨A, c, b1, o1, rfl, hA, hx⟩ := hl.bodies
  have hA := Lib.hid hA
  have hx := Lib.hid hx
  clear hl
  by_cases hf : (4096 : Int) < l.length
  · have HF := Lib.hid hf
    go_enter Try.func31, Try.ntmps31
    go_wp2
    go_ret
    exact ⟨ret_int (by unfold eachL; rw [if_pos (by have := HF.out; omega)]), Below.refl _ _⟩
  · have hf' : (l.length : Int) ≤ 4096 := by omega
    clear hf
    have HF := Lib.hid hf'
    go_enter Try.func31, Try.ntmps31
    go_wp2
    go_loopw [3] (fun i wr => ∃ k : Nat, k ≤ l.length ∧ i = .int .i64 k ∧ firstErr l = firstErr (l.drop k) ∧ Below w.heap.size w wr) (fun i _ => l.length - (intOf i).toNat)
    case atStart => exact ⟨0, by omega, rfl, rfl, Below.refl _ _⟩
    case round =>
      obtain ⟨k, hk, rfl, hP, hbel⟩ := hrel
      have HP := Lib.hid hP
      clear hP
      by_cases hlt : k < l.length
      · obtain ⟨eA, zA⟩ := hA.out (by omega)
        have ix := fun w => idx_body (c := c) eA hlt w
        clear eA
        obtain ⟨q0, q1, q2, q3, q4, q5, q6, q7, q8, q9⟩ := (hx.out k hlt).below hbel
        by_cases he : errOf l[k] = 0
        · have HE := Lib.hid he
          have he' : (errOf ⟨l[k].key, l[k].radius, l[k].ax, l[k].ay, l[k].inv, l[k].bounce, l[k].px, l[k].py, l[k].vx, l[k].vy⟩ == 0) = true := by simpa using he
          clear he
          go_wp2_with fail
          refine (refCheck_fl _ _ _ _ _ _ _ _ _ _ _).mono ?_
          rintro e w1 ⟨rfl, hb⟩
          obtain ⟨g1, rfl⟩ := Grow.of hb
          clear hb
          go_wp2_with fail
          go_roundw
          case rel => exact ⟨k + 1, by omega, by go_num, by rw [HP.out, firstErr_drop hlt, if_pos HE.out], bel_grow hbel g1⟩
          case measure => simp [intOf]; omega
        · have HE := Lib.hid he
          have he' : (errOf ⟨l[k].key, l[k].radius, l[k].ax, l[k].ay, l[k].inv, l[k].bounce, l[k].px, l[k].py, l[k].vx, l[k].vy⟩ == 0) = false := by simpa using he
          clear he
          go_wp2_with fail
          refine (refCheck_fl _ _ _ _ _ _ _ _ _ _ _).mono ?_
          rintro e w1 ⟨rfl, hb⟩
          obtain ⟨g1, rfl⟩ := Grow.of hb
          clear hb
          go_wp2_with fail
          go_ret
          exact ⟨ret_int (by unfold eachL; rw [if_neg (by have := HF.out; omega), HP.out, firstErr_drop hlt, if_neg HE.out]), bel_grow hbel g1⟩
      · have hd : firstErr (l.drop k) = 0 := by rw [List.drop_eq_nil_of_le (by omega)]; rfl
        have HD := Lib.hid hd
        clear hd
        go_wp2
        go_ret
        exact ⟨ret_int (by unfold eachL; rw [if_neg (by have := HF.out; omega), HP.out, HD.out]), hbel⟩

def sortL (l : List Body) : List Body × Int := if eachL l ≠ 0 then ([], eachL l) else if (allL l).length < l.length then ([], 10) else (allL l, 0)
theorem sort_err {l : List Body} (h : ¬ eachL l = 0) : sortL l = ([], eachL l) := by unfold sortL; rw [if_pos h]
theorem sort_dup {l : List Body} (h : eachL l = 0) (h1 : ((allL l).length : Int) < l.length) : sortL l = ([], 10) := by unfold sortL; rw [if_neg (by simpa using h), if_pos (by omega)]
theorem sort_ok {l : List Body} (h : eachL l = 0) (h1 : (l.length : Int) ≤ (allL l).length) : sortL l = (allL l, 0) := by unfold sortL; rw [if_neg (by simpa using h), if_neg (by omega)]

set_option maxHeartbeats 2000000 in
set_option maxRecDepth 100000 in
theorem sort_any (v : Value) (l : List Body) (w : World) (hl : Reads bodyE w v l) (hn : l.length ≤ 1000000) :
    Calls Try.prog 21 #[v] w fun e w' => ∃ v', e = .returned (.tuple #[v', .int .i64 (sortL l).2]) ∧ Reads bodyE w' v' (sortL l).1 ∧ Below w.heap.size w w' := by
  have HL := Lib.hid hl
  obtain ⟨A, c, b1, o1, rfl, _, _⟩ := hl.bodies
  clear hl
  by_cases he : eachL l = 0
  · have HE := Lib.hid he
    have he' : (eachL l == 0) = true := by simpa using he
    clear he
    go_enter Try.func21, Try.ntmps21
    go_wp2_with fail
    refine (each_any _ _ _ HL.out).mono ?_
    rintro e w1 ⟨rfl, hb⟩
    obtain ⟨g1, rfl⟩ := Grow.of hb
    clear hb
    go_wp2_with fail
    refine (all_any _ l _ (HL.out.grow g1) hn).mono ?_
    rintro e w1 ⟨v1, rfl, hr1, hb1⟩
    have HR := Lib.hid hr1
    obtain ⟨A1, c1, b2, o2, rfl, _, _⟩ := hr1.bodies
    clear hr1
    obtain ⟨g2, rfl⟩ := Grow.of hb1
    clear hb1
    by_cases hlt : ((allL l).length : Int) < l.length
    · have HLT := Lib.hid hlt
      go_wp2_with fail
      go_ret2
      exact ⟨.slice none 0 0, ret_two (by rw [sort_dup HE.out HLT.out]), by rw [sort_dup HE.out HLT.out]; exact Reads.none _ _, bel_grow (bel_grow (Below.refl _ _) g1) g2⟩
    · have hge : (l.length : Int) ≤ (allL l).length := by omega
      clear hlt
      have HGE := Lib.hid hge
      go_wp2_with fail
      go_ret2
      exact ⟨.slice A1 (allL l).length c1, ret_two (by rw [sort_ok HE.out HGE.out]), by rw [sort_ok HE.out HGE.out]; exact HR.out, bel_grow (bel_grow (Below.refl _ _) g1) g2⟩
  · have HE := Lib.hid he
    have he' : (eachL l == 0) = false := by simpa using he
    clear he
    go_enter Try.func21, Try.ntmps21
    go_wp2_with fail
    refine (each_any _ _ _ HL.out).mono ?_
    rintro e w1 ⟨rfl, hb⟩
    obtain ⟨g1, rfl⟩ := Grow.of hb
    clear hb
    go_wp2_with fail
    go_ret2
    exact ⟨.slice none 0 0, ret_two (by rw [sort_err HE.out]), by rw [sort_err HE.out]; exact Reads.none _ _, bel_grow (Below.refl _ _) g1⟩

def viewL (l : List Body) : List Body × Bool := if 40 < l.length then ([], false) else ((sortL l).1, (sortL l).2 == 0)
theorem view_far {l : List Body} (h : (40 : Int) < l.length) : viewL l = ([], false) := by unfold viewL; rw [if_pos (by omega)]
theorem view_near {l : List Body} (h : (l.length : Int) ≤ 40) : viewL l = ((sortL l).1, (sortL l).2 == 0) := by unfold viewL; rw [if_neg (by omega)]
theorem ret_flag {v : Value} {a b : Bool} (h : a = b) : Ending.returned (.tuple #[v, .bool a]) = .returned (.tuple #[v, .bool b]) := by rw [h]

set_option maxHeartbeats 2000000 in
set_option maxRecDepth 100000 in
theorem view_any (v : Value) (l : List Body) (w : World) (hl : Reads bodyE w v l) :
    Calls Try.prog 8 #[v] w fun e w' => ∃ v', e = .returned (.tuple #[v', .bool (viewL l).2]) ∧ Reads bodyE w' v' (viewL l).1 ∧ Below w.heap.size w w' := by
  have HL := Lib.hid hl
  obtain ⟨A, c, b1, o1, rfl, _, _⟩ := hl.bodies
  clear hl
  by_cases hf : (40 : Int) < l.length
  · have HF := Lib.hid hf
    go_enter Try.func8, Try.ntmps8
    go_wp2_with fail
    go_ret2
    exact ⟨.slice none 0 0, ret_flag (by rw [view_far HF.out]), by rw [view_far HF.out]; exact Reads.none _ _, Below.refl _ _⟩
  · have hf' : (l.length : Int) ≤ 40 := by omega
    clear hf
    have HF := Lib.hid hf'
    go_enter Try.func8, Try.ntmps8
    go_wp2_with fail
    refine (sort_any _ l _ HL.out (by have := HF.out; omega)).mono ?_
    rintro e w1 ⟨v1, rfl, hr1, hb1⟩
    have HR := Lib.hid hr1
    clear hr1
    obtain ⟨g2, rfl⟩ := Grow.of hb1
    clear hb1
    go_wp2_with fail
    go_ret2
    exact ⟨v1, ret_flag (by rw [view_near HF.out]), by rw [view_near HF.out]; exact HR.out, bel_grow (Below.refl _ _) g2⟩
end Go.Proofs.Ythoapplkaidaaaa
