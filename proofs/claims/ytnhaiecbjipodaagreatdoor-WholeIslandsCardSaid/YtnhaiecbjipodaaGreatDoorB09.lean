/- Contracts of the program's functions, by walks, and plain facts beside them: Body, SmallW. -/
import Derived.Test.YtnhaiecbjipodaaGreatDoorRows
import Derived.Test.YtnhaiecbjipodaaGreatDoorB02
import Derived.WalkKit
import Derived.WalkSpells
import Derived.Lib.Hide
import Derived.Laws.EntriesVeiled
import Derived.WalkLawsBesides
import Derived.Test.YtnhaiecbjipodaaGreatDoorB06
import Derived.Deep.QuietTactic
import Derived.BigQuiet
import Derived.WalkSmall
/- The contracts of the program's package body, as far as this seat reaches it. -/
namespace Go.Proofs.YtnhaiecbjipodaaGreatDoor
open Go.RowKit

def Boxed (w : World) (p : Nat) (b : Body) : Prop := w.heap[p]? = some (.cells b.cells 27 (0, 0))
theorem Boxed.at {w : World} {p : Nat} {b : Body} (h : Boxed w p b) (i : Nat) : w.cell? ⟨p, i, none⟩ = b.cells[i]? := by
  unfold Boxed at h
  simp [World.cell?, h]

set_option maxHeartbeats 400000 in
theorem within_any (x y l : Int) (w : World) (hl : 0 ≤ l) (hl2 : l ≤ 2147483647) :
    Calls Tryz.prog 109 #[.agg #[.int .i32 x, .int .i32 y], .int .i32 l] w fun e w' => e = .returned (.bool (okVec x y l)) ∧ Below w.heap.size w w' := by
  by_cases h1 : -l ≤ x
  · by_cases h2 : x ≤ l
    · by_cases h3 : -l ≤ y
      · go_enter Tryz.func109, Tryz.ntmps109
        go_wp2
        go_ret
        exact ⟨by simp [okVec, *], (Below.refl _ _).alloc (Nat.le_refl _) _⟩
      · go_enter Tryz.func109, Tryz.ntmps109
        go_wp2
        go_ret
        exact ⟨by simp [okVec, *]; omega, (Below.refl _ _).alloc (Nat.le_refl _) _⟩
    · go_enter Tryz.func109, Tryz.ntmps109
      go_wp2
      go_ret
      exact ⟨by simp [okVec, *]; omega, (Below.refl _ _).alloc (Nat.le_refl _) _⟩
  · go_enter Tryz.func109, Tryz.ntmps109
    go_wp2
    go_ret
    exact ⟨by simp [okVec, *]; omega, (Below.refl _ _).alloc (Nat.le_refl _) _⟩

set_option maxHeartbeats 400000 in
theorem check1 (p : Nat) (b : Body) (w : World) (hp : Boxed w p b) :
    Calls Tryz.prog 107 #[.pointer (some ⟨p, 0, none⟩)] w fun e w' => e = .returned (.bool (okRadius b)) ∧ Below w.heap.size w w' := by
  have hc : w.cell? ⟨p, 1, none⟩ = some (.int .i32 b.radius) := hp.at 1
  by_cases h1 : 4096 ≤ b.radius
  · go_enter Tryz.func107, Tryz.ntmps107
    go_wp2
    go_ret
    exact ⟨by simp [okRadius, *], Below.refl _ _⟩
  · go_enter Tryz.func107, Tryz.ntmps107
    go_wp2
    go_ret
    exact ⟨by simp [okRadius, *]; omega, Below.refl _ _⟩
set_option maxHeartbeats 400000 in
theorem check2 (p : Nat) (b : Body) (w : World) (hp : Boxed w p b) :
    Calls Tryz.prog 108 #[.pointer (some ⟨p, 0, none⟩)] w fun e w' => e = .returned (.bool (okAxis b)) ∧ Below w.heap.size w w' := by
  have hc : w.cell? ⟨p, 2, none⟩ = some (.int .i32 b.ax) := hp.at 2
  have hd : w.cell? ⟨p, 3, none⟩ = some (.int .i32 b.ay) := hp.at 3
  go_enter Tryz.func108, Tryz.ntmps108
  go_wp2_with (go_at_call 109; refine (within_any _ _ _ _ (by omega) (by omega)).mono ?_; rintro e w' ⟨rfl, hb⟩)
  go_ret
  exact ⟨rfl, hb⟩
set_option maxHeartbeats 400000 in
theorem check3 (p : Nat) (b : Body) (w : World) (hp : Boxed w p b) :
    Calls Tryz.prog 110 #[.pointer (some ⟨p, 0, none⟩)] w fun e w' => e = .returned (.bool (okMass b)) ∧ Below w.heap.size w w' := by
  have hc : w.cell? ⟨p, 4, none⟩ = some (.int .i32 b.inv) := hp.at 4
  by_cases h1 : 0 ≤ b.inv
  · go_enter Tryz.func110, Tryz.ntmps110
    go_wp2
    go_ret
    exact ⟨by simp [okMass, *], Below.refl _ _⟩
  · go_enter Tryz.func110, Tryz.ntmps110
    go_wp2
    go_ret
    exact ⟨by simp [okMass, *]; omega, Below.refl _ _⟩
set_option maxHeartbeats 400000 in
theorem check4 (p : Nat) (b : Body) (w : World) (hp : Boxed w p b) :
    Calls Tryz.prog 111 #[.pointer (some ⟨p, 0, none⟩)] w fun e w' => e = .returned (.bool (okBounce b)) ∧ Below w.heap.size w w' := by
  have hc : w.cell? ⟨p, 5, none⟩ = some (.int .i32 b.bounce) := hp.at 5
  by_cases h1 : 0 ≤ b.bounce
  · go_enter Tryz.func111, Tryz.ntmps111
    go_wp2
    go_ret
    exact ⟨by simp [okBounce, *], Below.refl _ _⟩
  · go_enter Tryz.func111, Tryz.ntmps111
    go_wp2
    go_ret
    exact ⟨by simp [okBounce, *]; omega, Below.refl _ _⟩
set_option maxHeartbeats 400000 in
theorem check5 (p : Nat) (b : Body) (w : World) (hp : Boxed w p b) :
    Calls Tryz.prog 112 #[.pointer (some ⟨p, 0, none⟩)] w fun e w' => e = .returned (.bool (okPlace b)) ∧ Below w.heap.size w w' := by
  have hc : w.cell? ⟨p, 6, none⟩ = some (.int .i32 b.px) := hp.at 6
  have hd : w.cell? ⟨p, 7, none⟩ = some (.int .i32 b.py) := hp.at 7
  go_enter Tryz.func112, Tryz.ntmps112
  go_wp2_with (go_at_call 109; refine (within_any _ _ _ _ (by omega) (by omega)).mono ?_; rintro e w' ⟨rfl, hb⟩)
  go_ret
  exact ⟨rfl, hb⟩
set_option maxHeartbeats 400000 in
theorem check6 (p : Nat) (b : Body) (w : World) (hp : Boxed w p b) :
    Calls Tryz.prog 113 #[.pointer (some ⟨p, 0, none⟩)] w fun e w' => e = .returned (.bool (okSpeed b)) ∧ Below w.heap.size w w' := by
  have hc : w.cell? ⟨p, 8, none⟩ = some (.int .i32 b.vx) := hp.at 8
  have hd : w.cell? ⟨p, 9, none⟩ = some (.int .i32 b.vy) := hp.at 9
  go_enter Tryz.func113, Tryz.ntmps113
  go_wp2_with (go_at_call 109; refine (within_any _ _ _ _ (by omega) (by omega)).mono ?_; rintro e w' ⟨rfl, hb⟩)
  go_ret
  exact ⟨rfl, hb⟩

theorem Boxed.alloc {w : World} {p : Nat} {b : Body} (h : Boxed w p b) (o : Obj) : Boxed (w.alloc o) p b := by
  have hlt : p < w.heap.size := by
    unfold Boxed at h
    exact (Array.getElem?_eq_some_iff.1 h).1
  unfold Boxed at *
  show (w.heap.push o)[p]? = _
  rw [Array.getElem?_push_lt hlt, ← h, Array.getElem?_eq_getElem hlt]
theorem Boxed.new (w : World) (b : Body) : Boxed (w.alloc (.cells b.cells 27)) w.heap.size b := heap_alloc_new w _
theorem Boxed.below {w w' : World} {p : Nat} {b : Body} (h : Boxed w p b) (hb : Below w.heap.size w w') : Boxed w' p b := by
  have hlt : p < w.heap.size := by
    unfold Boxed at h
    exact (Array.getElem?_eq_some_iff.1 h).1
  unfold Boxed at *
  rw [hb.block p hlt, h]

/-- Which test comes at a place, and its error. -/
def partOf (b : Body) : Nat → Bool
  | 0 => okRadius b
  | 1 => okAxis b
  | 2 => okMass b
  | 3 => okBounce b
  | 4 => okPlace b
  | _ => okSpeed b

section
variable (x0 x1 x2 x3 x4 x5 x6 x7 x8 x9 x10 x11 : Value) (w : World)
theorem part_at0 : (Instr.index 176 (.agg #[x0, x1, x2, x3, x4, x5, x6, x7, x8, x9, x10, x11]) (.int .i64 0)).run Tryz.prog w = .ok (.agg #[x0, x1]) w := by kernel_rfl
theorem part_at1 : (Instr.index 176 (.agg #[x0, x1, x2, x3, x4, x5, x6, x7, x8, x9, x10, x11]) (.int .i64 1)).run Tryz.prog w = .ok (.agg #[x2, x3]) w := by kernel_rfl
theorem part_at2 : (Instr.index 176 (.agg #[x0, x1, x2, x3, x4, x5, x6, x7, x8, x9, x10, x11]) (.int .i64 2)).run Tryz.prog w = .ok (.agg #[x4, x5]) w := by kernel_rfl
theorem part_at3 : (Instr.index 176 (.agg #[x0, x1, x2, x3, x4, x5, x6, x7, x8, x9, x10, x11]) (.int .i64 3)).run Tryz.prog w = .ok (.agg #[x6, x7]) w := by kernel_rfl
theorem part_at4 : (Instr.index 176 (.agg #[x0, x1, x2, x3, x4, x5, x6, x7, x8, x9, x10, x11]) (.int .i64 4)).run Tryz.prog w = .ok (.agg #[x8, x9]) w := by kernel_rfl
theorem part_at5 : (Instr.index 176 (.agg #[x0, x1, x2, x3, x4, x5, x6, x7, x8, x9, x10, x11]) (.int .i64 5)).run Tryz.prog w = .ok (.agg #[x10, x11]) w := by kernel_rfl
end

theorem upto_0 {b : Body} (h : ∀ j, j < 0 → partOf b j = true) (hk : okRadius b = true) : ∀ j, j < 1 → partOf b j = true := fun j hj => if e : j = 0 then by subst e; exact hk else h j (by omega)
theorem err_0 {b : Body} (_h : ∀ j, j < 0 → partOf b j = true) (hk : okRadius b = false) : errOf b = 4 := by
  simp [errOf, hk]
theorem upto_1 {b : Body} (h : ∀ j, j < 1 → partOf b j = true) (hk : okAxis b = true) : ∀ j, j < 2 → partOf b j = true := fun j hj => if e : j = 1 then by subst e; exact hk else h j (by omega)
theorem err_1 {b : Body} (h : ∀ j, j < 1 → partOf b j = true) (hk : okAxis b = false) : errOf b = 5 := by
  have h0 : okRadius b = true := h 0 (by omega)
  simp [errOf, hk, h0]
theorem upto_2 {b : Body} (h : ∀ j, j < 2 → partOf b j = true) (hk : okMass b = true) : ∀ j, j < 3 → partOf b j = true := fun j hj => if e : j = 2 then by subst e; exact hk else h j (by omega)
theorem err_2 {b : Body} (h : ∀ j, j < 2 → partOf b j = true) (hk : okMass b = false) : errOf b = 6 := by
  have h0 : okRadius b = true := h 0 (by omega)
  have h1 : okAxis b = true := h 1 (by omega)
  simp [errOf, hk, h0, h1]
theorem upto_3 {b : Body} (h : ∀ j, j < 3 → partOf b j = true) (hk : okBounce b = true) : ∀ j, j < 4 → partOf b j = true := fun j hj => if e : j = 3 then by subst e; exact hk else h j (by omega)
theorem err_3 {b : Body} (h : ∀ j, j < 3 → partOf b j = true) (hk : okBounce b = false) : errOf b = 7 := by
  have h0 : okRadius b = true := h 0 (by omega)
  have h1 : okAxis b = true := h 1 (by omega)
  have h2 : okMass b = true := h 2 (by omega)
  simp [errOf, hk, h0, h1, h2]
theorem upto_4 {b : Body} (h : ∀ j, j < 4 → partOf b j = true) (hk : okPlace b = true) : ∀ j, j < 5 → partOf b j = true := fun j hj => if e : j = 4 then by subst e; exact hk else h j (by omega)
theorem err_4 {b : Body} (h : ∀ j, j < 4 → partOf b j = true) (hk : okPlace b = false) : errOf b = 8 := by
  have h0 : okRadius b = true := h 0 (by omega)
  have h1 : okAxis b = true := h 1 (by omega)
  have h2 : okMass b = true := h 2 (by omega)
  have h3 : okBounce b = true := h 3 (by omega)
  simp [errOf, hk, h0, h1, h2, h3]
theorem upto_5 {b : Body} (h : ∀ j, j < 5 → partOf b j = true) (hk : okSpeed b = true) : ∀ j, j < 6 → partOf b j = true := fun j hj => if e : j = 5 then by subst e; exact hk else h j (by omega)
theorem err_5 {b : Body} (h : ∀ j, j < 5 → partOf b j = true) (hk : okSpeed b = false) : errOf b = 9 := by
  have h0 : okRadius b = true := h 0 (by omega)
  have h1 : okAxis b = true := h 1 (by omega)
  have h2 : okMass b = true := h 2 (by omega)
  have h3 : okBounce b = true := h 3 (by omega)
  have h4 : okPlace b = true := h 4 (by omega)
  simp [errOf, hk, h0, h1, h2, h3, h4]
theorem err_ok {b : Body} (h : ∀ j, j < 6 → partOf b j = true) : errOf b = 0 := by
  have h0 : okRadius b = true := h 0 (by omega)
  have h1 : okAxis b = true := h 1 (by omega)
  have h2 : okMass b = true := h 2 (by omega)
  have h3 : okBounce b = true := h 3 (by omega)
  have h4 : okPlace b = true := h 4 (by omega)
  have h5 : okSpeed b = true := h 5 (by omega)
  simp [errOf, h0, h1, h2, h3, h4, h5]

set_option maxHeartbeats 4000000 in
theorem check_any (b : Body) (w : World) :
    Calls Tryz.prog 71 #[.agg b.cells] w fun e w' => e = .returned (.int .i64 (errOf b)) ∧ Below w.heap.size w w' := by
  show Calls Tryz.prog 71 #[.agg #[.int .u32 b.key, .int .i32 b.radius, .int .i32 b.ax, .int .i32 b.ay, .int .i32 b.inv, .int .i32 b.bounce, .int .i32 b.px, .int .i32 b.py, .int .i32 b.vx, .int .i32 b.vy]] w _
  have i0 := part_at0
  have i1 := part_at1
  have i2 := part_at2
  have i3 := part_at3
  have i4 := part_at4
  have i5 := part_at5
  go_enter Tryz.func71, Tryz.ntmps71
  go_wp2_with fail
  go_loopw [18] (fun i wr => ∃ k : Nat, k ≤ 6 ∧ i = .int .i64 k ∧ (∀ j, j < k → partOf b j = true) ∧ Boxed wr w.heap.size b ∧ Below w.heap.size w wr) (fun i _ => 6 - (intOf i).toNat)
  case atStart => exact ⟨0, by omega, rfl, fun j h => absurd h (by omega), Boxed.new w b, (Below.refl _ _).alloc (Nat.le_refl _) _⟩
  case round =>
    obtain ⟨k, hk, rfl, hp, hbox, hbel⟩ := hrel
    have hsz := hbel.size
    have HP := Lib.hid hp
    clear hp
    obtain rfl | rfl | rfl | rfl | rfl | rfl | rfl : k = 0 ∨ k = 1 ∨ k = 2 ∨ k = 3 ∨ k = 4 ∨ k = 5 ∨ k = 6 := by omega
    · by_cases hok : okRadius b = true
      · go_wp2_with (go_at_call 107; refine (check1 _ b _ (hbox.alloc _)).mono ?_; rintro e w1 ⟨rfl, hb1⟩; obtain ⟨hc1, hf1⟩ := bcell hb1)
        go_roundw
        case rel => exact ⟨1, by omega, rfl, upto_0 HP.out hok, (hbox.alloc _).below hb1, (hbel.alloc hsz _).trans (hb1.mono (by simp; omega))⟩
        case measure => simp [intOf]
      · have hno : okRadius b = false := by simpa using hok
        clear hok
        have HE := Lib.hid (err_0 HP.out hno)
        go_wp2_with (go_at_call 107; refine (check1 _ b _ (hbox.alloc _)).mono ?_; rintro e w1 ⟨rfl, hb1⟩; obtain ⟨hc1, hf1⟩ := bcell hb1)
        go_ret
        exact ⟨ret_int HE.out.symm, (hbel.alloc hsz _).trans (hb1.mono (by simp; omega))⟩
    · by_cases hok : okAxis b = true
      · go_wp2_with (go_at_call 108; refine (check2 _ b _ (hbox.alloc _)).mono ?_; rintro e w1 ⟨rfl, hb1⟩; obtain ⟨hc1, hf1⟩ := bcell hb1)
        go_roundw
        case rel => exact ⟨2, by omega, rfl, upto_1 HP.out hok, (hbox.alloc _).below hb1, (hbel.alloc hsz _).trans (hb1.mono (by simp; omega))⟩
        case measure => simp [intOf]
      · have hno : okAxis b = false := by simpa using hok
        clear hok
        have HE := Lib.hid (err_1 HP.out hno)
        go_wp2_with (go_at_call 108; refine (check2 _ b _ (hbox.alloc _)).mono ?_; rintro e w1 ⟨rfl, hb1⟩; obtain ⟨hc1, hf1⟩ := bcell hb1)
        go_ret
        exact ⟨ret_int HE.out.symm, (hbel.alloc hsz _).trans (hb1.mono (by simp; omega))⟩
    · by_cases hok : okMass b = true
      · go_wp2_with (go_at_call 110; refine (check3 _ b _ (hbox.alloc _)).mono ?_; rintro e w1 ⟨rfl, hb1⟩; obtain ⟨hc1, hf1⟩ := bcell hb1)
        go_roundw
        case rel => exact ⟨3, by omega, rfl, upto_2 HP.out hok, (hbox.alloc _).below hb1, (hbel.alloc hsz _).trans (hb1.mono (by simp; omega))⟩
        case measure => simp [intOf]
      · have hno : okMass b = false := by simpa using hok
        clear hok
        have HE := Lib.hid (err_2 HP.out hno)
        go_wp2_with (go_at_call 110; refine (check3 _ b _ (hbox.alloc _)).mono ?_; rintro e w1 ⟨rfl, hb1⟩; obtain ⟨hc1, hf1⟩ := bcell hb1)
        go_ret
        exact ⟨ret_int HE.out.symm, (hbel.alloc hsz _).trans (hb1.mono (by simp; omega))⟩
    · by_cases hok : okBounce b = true
      · go_wp2_with (go_at_call 111; refine (check4 _ b _ (hbox.alloc _)).mono ?_; rintro e w1 ⟨rfl, hb1⟩; obtain ⟨hc1, hf1⟩ := bcell hb1)
        go_roundw
        case rel => exact ⟨4, by omega, rfl, upto_3 HP.out hok, (hbox.alloc _).below hb1, (hbel.alloc hsz _).trans (hb1.mono (by simp; omega))⟩
        case measure => simp [intOf]
      · have hno : okBounce b = false := by simpa using hok
        clear hok
        have HE := Lib.hid (err_3 HP.out hno)
        go_wp2_with (go_at_call 111; refine (check4 _ b _ (hbox.alloc _)).mono ?_; rintro e w1 ⟨rfl, hb1⟩; obtain ⟨hc1, hf1⟩ := bcell hb1)
        go_ret
        exact ⟨ret_int HE.out.symm, (hbel.alloc hsz _).trans (hb1.mono (by simp; omega))⟩
    · by_cases hok : okPlace b = true
      · go_wp2_with (go_at_call 112; refine (check5 _ b _ (hbox.alloc _)).mono ?_; rintro e w1 ⟨rfl, hb1⟩; obtain ⟨hc1, hf1⟩ := bcell hb1)
        go_roundw
        case rel => exact ⟨5, by omega, rfl, upto_4 HP.out hok, (hbox.alloc _).below hb1, (hbel.alloc hsz _).trans (hb1.mono (by simp; omega))⟩
        case measure => simp [intOf]
      · have hno : okPlace b = false := by simpa using hok
        clear hok
        have HE := Lib.hid (err_4 HP.out hno)
        go_wp2_with (go_at_call 112; refine (check5 _ b _ (hbox.alloc _)).mono ?_; rintro e w1 ⟨rfl, hb1⟩; obtain ⟨hc1, hf1⟩ := bcell hb1)
        go_ret
        exact ⟨ret_int HE.out.symm, (hbel.alloc hsz _).trans (hb1.mono (by simp; omega))⟩
    · by_cases hok : okSpeed b = true
      · go_wp2_with (go_at_call 113; refine (check6 _ b _ (hbox.alloc _)).mono ?_; rintro e w1 ⟨rfl, hb1⟩; obtain ⟨hc1, hf1⟩ := bcell hb1)
        go_roundw
        case rel => exact ⟨6, by omega, rfl, upto_5 HP.out hok, (hbox.alloc _).below hb1, (hbel.alloc hsz _).trans (hb1.mono (by simp; omega))⟩
        case measure => simp [intOf]
      · have hno : okSpeed b = false := by simpa using hok
        clear hok
        have HE := Lib.hid (err_5 HP.out hno)
        go_wp2_with (go_at_call 113; refine (check6 _ b _ (hbox.alloc _)).mono ?_; rintro e w1 ⟨rfl, hb1⟩; obtain ⟨hc1, hf1⟩ := bcell hb1)
        go_ret
        exact ⟨ret_int HE.out.symm, (hbel.alloc hsz _).trans (hb1.mono (by simp; omega))⟩
    · have HE := Lib.hid (err_ok HP.out)
      go_wp2
      go_ret
      exact ⟨ret_int HE.out.symm, hbel⟩
end Go.Proofs.YtnhaiecbjipodaaGreatDoor
/- The contracts of the small functions over bodies: the program's and the reference's. -/
namespace Go.Proofs.YtnhaiecbjipodaaGreatDoor
open Go.RowKit


set_option maxHeartbeats 400000 in
theorem isStatic_any (b : Body) (w : World) :
    Calls Tryz.prog 125 #[.agg b.cells] w fun e w' => e = .returned (.bool (b.inv == 0)) ∧ Below w.heap.size w w' := by
  show Calls _ _ #[.agg b.arr] w _
  go_enter Tryz.func125, Tryz.ntmps125
  go_wp2
  go_ret
  exact ⟨rfl, new_ok _⟩
set_option maxHeartbeats 400000 in
theorem refFirst_any (b : Body) (w : World) :
    Calls Tryz.prog 115 #[.agg b.cells] w fun e w' => e = .returned (.agg #[.int .i32 (wrap32 (b.px - b.ax)), .int .i32 (wrap32 (b.py - b.ay))]) ∧ Below w.heap.size w w' := by
  show Calls _ _ #[.agg b.arr] w _
  go_enter Tryz.func115, Tryz.ntmps115
  go_wp2
  exact bodyPost_ret (v := .agg #[.int .i32 (wrap32 (b.px - b.ax)), .int .i32 (wrap32 (b.py - b.ay))]) (by simp [results, Tryz.results115, go_sem]) rfl ⟨rfl, bel_alloc (new_ok _) _⟩
set_option maxHeartbeats 400000 in
theorem refSecond_any (b : Body) (w : World) :
    Calls Tryz.prog 116 #[.agg b.cells] w fun e w' => e = .returned (.agg #[.int .i32 (wrap32 (b.px + b.ax)), .int .i32 (wrap32 (b.py + b.ay))]) ∧ Below w.heap.size w w' := by
  show Calls _ _ #[.agg b.arr] w _
  go_enter Tryz.func116, Tryz.ntmps116
  go_wp2
  exact bodyPost_ret (v := .agg #[.int .i32 (wrap32 (b.px + b.ax)), .int .i32 (wrap32 (b.py + b.ay))]) (by simp [results, Tryz.results116, go_sem]) rfl ⟨rfl, bel_alloc (new_ok _) _⟩
set_option maxHeartbeats 400000 in
theorem ends_any (b : Body) (w : World) :
    Calls Tryz.prog 225 #[.agg b.cells] w fun e w' => e = .returned (.tuple #[.agg #[.int .i32 (wrap32 (b.px - b.ax)), .int .i32 (wrap32 (b.py - b.ay))], .agg #[.int .i32 (wrap32 (b.px + b.ax)), .int .i32 (wrap32 (b.py + b.ay))]]) ∧ Below w.heap.size w w' := by
  show Calls _ _ #[.agg b.arr] w _
  go_enter Tryz.func225, Tryz.ntmps225
  go_wp2
  go_region
  all_goals go_wp2
  all_goals refine bodyPost_ret (v := .tuple #[.agg #[.int .i32 (wrap32 (b.px - b.ax)), .int .i32 (wrap32 (b.py - b.ay))], .agg #[.int .i32 (wrap32 (b.px + b.ax)), .int .i32 (wrap32 (b.py + b.ay))]]) (by simp [results, Tryz.results225, go_sem]) rfl ⟨rfl, bel_drew (bel_alloc (bel_alloc (new_ok _) _) _)⟩
set_option maxHeartbeats 400000 in
theorem abs_any (n : Int) (w : World) :
    Calls Tryz.prog 220 #[.int .i32 n] w fun e w' => e = .returned (.int .i32 (max n (wrap32 (-n)))) ∧ w' = w := by
  go_enter Tryz.func220, Tryz.ntmps220
  go_wp2
  all_goals
    go_ret
    exact ⟨ret_int (by omega), rfl⟩
set_option maxHeartbeats 400000 in
theorem extent_any (b : Body) (w : World) :
    Calls Tryz.prog 198 #[.agg b.cells] w fun e w' => e = .returned (.tuple #[.int .i32 (wrap32 (max b.ax (wrap32 (-b.ax)) + b.radius)), .int .i32 (wrap32 (max b.ay (wrap32 (-b.ay)) + b.radius))]) ∧ Below w.heap.size w w' := by
  show Calls _ _ #[.agg b.arr] w _
  go_enter Tryz.func198, Tryz.ntmps198
  go_wp2_with fail
  go_quiet ((go_at_call 220; exact Calls.quiet_of_same (abs_any _ _)))
  go_wp2
  go_ret2
  exact ⟨rfl, bel_drewN (new_ok _) _⟩
end Go.Proofs.YtnhaiecbjipodaaGreatDoor
