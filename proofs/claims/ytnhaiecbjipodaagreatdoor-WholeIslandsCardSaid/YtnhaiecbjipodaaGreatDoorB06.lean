/- Contracts of the program's functions, by walks, and plain facts beside them: Fx, VecU, Ref05, Grav. -/
import Derived.Test.YtnhaiecbjipodaaGreatDoorRows
import Derived.Test.YtnhaiecbjipodaaGreatDoorB02
import Derived.WalkKit
import Derived.WalkSpells
import Derived.WalkLawsBesides
import Derived.Lib.Hide
import Derived.Test.YtnhaiecbjipodaaGreatDoorB05
/- The contracts of the functions on numbers that integrate uses, the program's and the references'. -/
namespace Go.Proofs.YtnhaiecbjipodaaGreatDoor
open Go.RowKit

def clampI (n l : Int) : Int := max (-l) (min n l)
theorem clampI_le {n l : Int} (h : 0 ≤ l) : -l ≤ clampI n l ∧ clampI n l ≤ l := by unfold clampI; omega

set_option maxHeartbeats 400000 in
theorem fxLimit_any (n l : Int) (w : World) (h0 : 0 ≤ l) (h1 : l ≤ 2147483647) :
    Calls Tryz.prog 153 #[.int .i64 n, .int .i64 l] w fun e w' => e = .returned (.tuple #[.int .i64 (clampI n l), .bool (!(clampI n l == n))]) ∧ w = w' := by
  go_enter Tryz.func153, Tryz.ntmps153
  go_wp2
  all_goals
    go_ret2
    refine ⟨?_, rfl⟩
    first
      | (have e : clampI n l = n := by unfold clampI; omega
         rw [e]; simp; done)
      | (have e : clampI n l = l := by unfold clampI; omega
         rw [e]; rfl)
      | (have e : clampI n l = -l := by unfold clampI; omega
         rw [e]; rfl)
theorem floor_eq {n d : Int} (hd : 0 < d) : (n.tmod d < 0 → n.tdiv d - 1 = n / d) ∧ (0 ≤ n.tmod d → n.tdiv d = n / d) := by
  rcases Int.le_total 0 n with hn | hn
  · rw [Int.tdiv_eq_ediv_of_nonneg hn, Int.tmod_eq_emod_of_nonneg hn]
    have := Int.emod_nonneg n (show d ≠ 0 by omega)
    exact ⟨fun h => by omega, fun _ => rfl⟩
  · obtain ⟨m, rfl⟩ : ∃ m : Int, n = -m := ⟨-n, by omega⟩
    have hm : 0 ≤ m := by omega
    rw [Int.neg_tmod, Int.neg_tdiv, Int.tdiv_eq_ediv_of_nonneg hm, Int.tmod_eq_emod_of_nonneg hm]
    have h1 := Int.emod_nonneg m (show d ≠ 0 by omega)
    have h2 := Int.emod_lt_of_pos m hd
    have h3 := Int.emod_add_mul_ediv m d
    refine ⟨fun h => ?_, fun h => ?_⟩
    · have := (Int.ediv_emod_unique (a := -m) (b := d) (r := d - m % d) (q := -(m / d) - 1) hd).2 ⟨by rw [Int.mul_sub, Int.mul_neg]; omega, by omega, by omega⟩
      exact this.1.symm
    · have h0 : m % d = 0 := by omega
      have := (Int.ediv_emod_unique (a := -m) (b := d) (r := 0) (q := -(m / d)) hd).2 ⟨by rw [Int.mul_neg]; omega, by omega, by omega⟩
      exact this.1.symm
theorem floor_bounds {n d : Int} (hd : 0 < d) (h0 : -9223372036854775807 ≤ n) (h2 : n ≤ 9223372036854775807) : -9223372036854775807 ≤ n / d ∧ n / d ≤ 9223372036854775807 := by
  constructor
  · exact Int.le_trans (b := -9223372036854775807 / d) (by
      rw [Int.le_ediv_iff_mul_le hd]
      have : (1 : Int) ≤ d := hd
      omega) (Int.ediv_le_ediv hd h0)
  · rcases Int.le_total 0 n with hn | hn
    · have := Int.ediv_le_self d hn
      omega
    · have : n / d ≤ 0 := by
        have := Int.ediv_le_ediv hd hn
        simpa using this
      omega

set_option maxHeartbeats 400000 in
theorem refLimit_any (n l : Int) (w : World) (h0 : 0 ≤ l) (h1 : l ≤ 2147483647) :
    Calls Tryz.prog 143 #[.int .i64 n, .int .i64 l] w fun e w' => e = .returned (.int .i64 (clampI n l)) ∧ w = w' := by
  go_enter Tryz.func143, Tryz.ntmps143
  go_wp2
  all_goals
    go_ret
    exact ⟨ret_int (by unfold clampI; omega), rfl⟩
set_option maxHeartbeats 400000 in
theorem refFloor_any (n d : Int) (w : World) (h0 : -9223372036854775807 ≤ n) (h2 : n ≤ 9223372036854775807) (h1 : 1 ≤ d) (h3 : d ≤ 2147483647) :
    Calls Tryz.prog 118 #[.int .i64 n, .int .i64 d] w fun e w' => e = .returned (.int .i64 (n / d)) ∧ w = w' := by
  have HF := Lib.hid (floor_eq (n := n) (d := d) (by omega))
  have HB := Lib.hid (floor_bounds (n := n) (d := d) (by omega) h0 h2)
  go_enter Tryz.func118, Tryz.ntmps118
  go_wp2
  all_goals
    go_ret
    refine ⟨ret_int ?_, rfl⟩
    have := HF.out
    have hb := HB.out
    first
      | (rw [← this.2 (by assumption)]; done)
      | (rw [this.1 (by assumption), IntWalk.wrap64_in _ ⟨by omega, by omega⟩])

theorem clampI_i32 {n l : Int} (h0 : 0 ≤ l) (h1 : l ≤ 2147483647) : wrap32 (clampI n l) = clampI n l := w32 (by have := clampI_le (n := n) h0; omega)
set_option maxHeartbeats 1000000 in
theorem limited_any (n l : Int) (s f : Nat) (c : Bool) (w : World) (h0 : 0 ≤ l) (h1 : l ≤ 2147483647)
    (hs : w.cell? ⟨s, 0, none⟩ = some (.pointer (some ⟨f, 0, none⟩))) (hf : w.cell? ⟨f, 0, none⟩ = some (.bool c)) (hz : w.frozen? ⟨f, 0, none⟩ = false) :
    Calls Tryz.prog 126 #[.int .i64 n, .int .i64 l, .slice (some ⟨s, 0, none⟩) 1 1] w fun e w' => e = .returned (.int .i32 (clampI n l)) ∧ w' = w.setCell ⟨f, 0, none⟩ (.bool (c || !(clampI n l == n))) := by
  have HC := Lib.hid (clampI_i32 (n := n) h0 h1)
  go_enter Tryz.func126, Tryz.ntmps126
  go_wp2_with (go_at_call 153; refine (fxLimit_any _ _ _ (by omega) (by omega)).mono ?_; rintro e w' ⟨rfl, rfl⟩)
  go_loopw [19] (fun i wr => (i = .int .i64 0 ∧ wr = w) ∨ (i = .int .i64 1 ∧ wr = w.setCell ⟨f, 0, none⟩ (.bool (c || !(clampI n l == n))))) (fun i _ => 1 - (intOf i).toNat)
  case atStart => exact .inl ⟨rfl, rfl⟩
  case round =>
    rcases hrel with ⟨rfl, rfl⟩ | ⟨rfl, rfl⟩
    · cases c
      all_goals
        go_wp2_with fail
        go_roundw
        case rel => exact .inr ⟨rfl, by simp⟩
        case measure => simp [intOf]
    · go_wp2_with fail
      go_ret
      exact ⟨ret_int HC.out, rfl⟩

/-- The velocity behind a push, and whether it was limited. -/
def pushV (v j m : Int) : Int := v + j * m / 65536
def pushB (b : Body) (x y : Int) : Body := { b with vx := clampI (pushV b.vx x b.inv) 16777216, vy := clampI (pushV b.vy y b.inv) 16777216 }
def pushC (b : Body) (x y : Int) : Bool := !(clampI (pushV b.vx x b.inv) 16777216 == pushV b.vx x b.inv) || !(clampI (pushV b.vy y b.inv) 16777216 == pushV b.vy y b.inv)
theorem mul_bd {j m : Int} (h0 : -2147483648 ≤ j) (h1 : j ≤ 2147483647) (m0 : 0 ≤ m) (m1 : m ≤ 1048576) : -2251799813685248 ≤ j * m ∧ j * m ≤ 2251799813685248 := by
  constructor
  · have := Int.mul_le_mul_of_nonneg_right h0 m0
    omega
  · have := Int.mul_le_mul_of_nonneg_right h1 m0
    omega
theorem mul_in {j m : Int} (h0 : -2147483648 ≤ j) (h1 : j ≤ 2147483647) (m0 : 0 ≤ m) (m1 : m ≤ 1048576) : wrap64 (j * m) = j * m := by
  have := mul_bd h0 h1 m0 m1
  exact IntWalk.wrap64_in _ ⟨by omega, by omega⟩

set_option maxHeartbeats 4000000 in
theorem push_any (k r ax ay m o px py vx vy x y : Int) (w : World) (m0 : 0 ≤ m) (m1 : m ≤ 1048576) (v0 : -16777216 ≤ vx) (v1 : vx ≤ 16777216) (u0 : -16777216 ≤ vy) (u1 : vy ≤ 16777216) (x0 : -2147483648 ≤ x) (x1 : x ≤ 2147483647) (y0 : -2147483648 ≤ y) (y1 : y ≤ 2147483647) :
    Calls Tryz.prog 95 #[.agg #[.int .u32 k, .int .i32 r, .int .i32 ax, .int .i32 ay, .int .i32 m, .int .i32 o, .int .i32 px, .int .i32 py, .int .i32 vx, .int .i32 vy], .agg #[.int .i32 x, .int .i32 y]] w fun e w' => e = .returned (.tuple #[.agg (pushB ⟨k, r, ax, ay, m, o, px, py, vx, vy⟩ x y).cells, .bool (pushC ⟨k, r, ax, ay, m, o, px, py, vx, vy⟩ x y)]) ∧ Below w.heap.size w w' := by
  have b1 := mul_bd x0 x1 m0 m1
  have b2 := mul_bd y0 y1 m0 m1
  have e1 := mul_in x0 x1 m0 m1
  have e2 := mul_in y0 y1 m0 m1
  obtain ⟨p, hp⟩ : ∃ p, p = x * m := ⟨_, rfl⟩
  obtain ⟨q, hq⟩ : ∃ q, q = y * m := ⟨_, rfl⟩
  go_enter Tryz.func95, Tryz.ntmps95
  clear hp hq p q
  go_wp2_with fail
  refine (limited_any _ _ _ _ false _ (by omega) (by omega) (by simp [go_sem]; rfl) (by simp [go_sem]) (by simp [go_sem])).mono ?_
  rintro e w1 ⟨rfl, rfl⟩
  go_wp2_with fail
  refine (limited_any _ _ _ _ (!(clampI (vx + x * m / 65536) 16777216 == vx + x * m / 65536)) _ (by omega) (by omega) (by simp [go_sem]; rfl) (by simp [go_sem]) (by simp [go_sem])).mono ?_
  rintro e w1 ⟨rfl, rfl⟩
  go_wp2_with fail
  go_region
  all_goals go_wp2
  all_goals refine bodyPost_ret (v := .tuple #[.agg (pushB ⟨k, r, ax, ay, m, o, px, py, vx, vy⟩ x y).cells, .bool (pushC ⟨k, r, ax, ay, m, o, px, py, vx, vy⟩ x y)]) (by simp [results, Tryz.results95, go_sem, pushB, pushC, pushV, Body.cells]) rfl ⟨rfl, bel_drew (bel_alloc (bel_alloc (bel_alloc (bel_alloc (bel_alloc (new_ok _) _) _) _) _) _)⟩
end Go.Proofs.YtnhaiecbjipodaaGreatDoor
/- The contracts of vec.floor, vec.Unit, vec.Diff, and of the references' LengthSq, Isqrt, Length, Unit. -/
namespace Go.Proofs.YtnhaiecbjipodaaGreatDoor
open Go.RowKit
attribute [local go_sem] Grow.cell Grow.froz Grow.lt

theorem lt_s1 {a b : Nat} (h : a < b) : (a < b + 1) = True := eq_true (by omega)
theorem lt_s2 {a b : Nat} (h : a < b) : (a < b + 1 + 1) = True := eq_true (by omega)
theorem lt_s3 {a b : Nat} (h : a < b) : (a < b + 1 + 1 + 1) = True := eq_true (by omega)
theorem lt_s4 {a b : Nat} (h : a < b) : (a < b + 1 + 1 + 1 + 1) = True := eq_true (by omega)
theorem lt_s5 {a b : Nat} (h : a < b) : (a < b + 1 + 1 + 1 + 1 + 1) = True := eq_true (by omega)
theorem Grow.keep {w : World} (g : Grow w) {p o : Nat} {v : Value} (h : w.cell? ⟨p, o, none⟩ = some v) : g.world.cell? ⟨p, o, none⟩ = some v := (g.cell (World.block_lt_of_cell? w _ h)).trans h
theorem bel_set {w W : World} {b o : Nat} (h : Below w.heap.size w W) (hb : w.heap.size ≤ b) (v : Value) : Below w.heap.size w (W.setCell ⟨b, o, none⟩ v) := h.setCell (p := ⟨b, o, none⟩) hb v

set_option maxHeartbeats 400000 in
theorem vecFloor_any (n d : Int) (w : World) (h0 : -4611686018427387904 ≤ n) (h2 : n ≤ 4611686018427387904) (h1 : 1 ≤ d) (h3 : d ≤ 4611686018427387904) :
    Calls Tryz.prog 210 #[.int .i64 n, .int .i64 d] w fun e w' => e = .returned (.int .i64 (n / d)) ∧ w' = w := by
  have HF := Lib.hid (floor_eq (n := n) (d := d) (by omega))
  have HB := Lib.hid (floor_bounds (n := n) (d := d) (by omega) (by omega) (by omega))
  go_enter Tryz.func210, Tryz.ntmps210
  go_wp2
  all_goals
    go_ret
    refine ⟨ret_int ?_, rfl⟩
    have := HF.out
    have hb := HB.out
    first
      | (rw [← this.2 (by assumption)]; done)
      | (rw [this.1 (by assumption), IntWalk.wrap64_in _ ⟨by omega, by omega⟩])
set_option maxHeartbeats 400000 in
theorem refFloor_wide (n d : Int) (w : World) (h0 : -4611686018427387904 ≤ n) (h2 : n ≤ 4611686018427387904) (h1 : 1 ≤ d) (h3 : d ≤ 4611686018427387904) :
    Calls Tryz.prog 118 #[.int .i64 n, .int .i64 d] w fun e w' => e = .returned (.int .i64 (n / d)) ∧ w' = w := by
  have HF := Lib.hid (floor_eq (n := n) (d := d) (by omega))
  have HB := Lib.hid (floor_bounds (n := n) (d := d) (by omega) (by omega) (by omega))
  go_enter Tryz.func118, Tryz.ntmps118
  go_wp2
  all_goals
    go_ret
    refine ⟨ret_int ?_, rfl⟩
    have := HF.out
    have hb := HB.out
    first
      | (rw [← this.2 (by assumption)]; done)
      | (rw [this.1 (by assumption), IntWalk.wrap64_in _ ⟨by omega, by omega⟩])

set_option maxHeartbeats 1000000 in
theorem unit_any (dx dy : Int) (w : World) (h0 : -2181038080 ≤ dx) (h1 : dx ≤ 2181038080) (h2 : -2181038080 ≤ dy) (h3 : dy ≤ 2181038080) :
    Calls Tryz.prog 183 #[.int .i64 dx, .int .i64 dy] w fun e w' => e = .returned (.agg #[.int .i32 (unitI dx dy).1, .int .i32 (unitI dx dy).2]) ∧ Below w.heap.size w w' := by
  obtain ⟨a0, a1⟩ := lenSq_bd h0 h1 h2 h3
  have hb := isqrtI_bounds a0 (by omega)
  have hu : unitI dx dy = if lengthI dx dy = 0 then (65536, 0) else (wrap32 (dx * 65536 / lengthI dx dy), wrap32 (dy * 65536 / lengthI dx dy)) := rfl
  have hq : isqrtI (lenSqI dx dy) = lengthI dx dy := rfl
  rw [hq] at hb
  clear hq a0 a1
  have HL := length_any dx dy (w := w.alloc (.cells #[.int .i32 0, .int .i32 0] 25)) h0 h1 h2 h3
  generalize unitI dx dy = r at *
  generalize lengthI dx dy = q at *
  obtain ⟨b0, b1⟩ := hb
  by_cases hz : q = 0
  · rw [if_pos hz] at hu
    subst hu hz
    go_enter Tryz.func183, Tryz.ntmps183
    go_wp2_with fail
    refine HL.mono ?_
    rintro e w' ⟨rfl, rfl⟩
    go_wp2_with fail
    refine bodyPost_ret (v := .agg #[.int .i32 65536, .int .i32 0]) (by simp [results, Tryz.results183, go_sem]) rfl ⟨rfl, ?_⟩
    repeat (first | with_reducible exact Below.refl _ _ | with_reducible refine bel_alloc ?_ _ | with_reducible refine bel_set ?_ (by first | omega | (simp; done) | (simp; omega)) _)
  · rw [if_neg hz] at hu
    subst hu
    have hz' : (q == 0) = false := by simpa using hz
    go_enter Tryz.func183, Tryz.ntmps183
    go_wp2_with fail
    refine HL.mono ?_
    rintro e w' ⟨rfl, rfl⟩
    go_wp2_with fail
    refine (vecFloor_any _ _ _ (by omega) (by omega) (by omega) (by omega)).mono ?_
    rintro e w' ⟨rfl, rfl⟩
    go_wp2_with fail
    refine (vecFloor_any _ _ _ (by omega) (by omega) (by omega) (by omega)).mono ?_
    rintro e w' ⟨rfl, rfl⟩
    go_wp2_with fail
    refine bodyPost_ret (v := .agg #[.int .i32 (wrap32 (dx * 65536 / q)), .int .i32 (wrap32 (dy * 65536 / q))]) (by simp [results, Tryz.results183, go_sem]) rfl ⟨rfl, ?_⟩
    repeat (first | with_reducible exact Below.refl _ _ | with_reducible refine bel_alloc ?_ _ | with_reducible refine bel_set ?_ (by first | omega | (simp; done) | (simp; omega)) _)

set_option maxHeartbeats 400000 in
theorem diff_any (ax ay bx bY : Int) (w : World) (h0 : -2147483648 ≤ ax ∧ ax ≤ 2147483647) (h1 : -2147483648 ≤ ay ∧ ay ≤ 2147483647) (h2 : -2147483648 ≤ bx ∧ bx ≤ 2147483647) (h3 : -2147483648 ≤ bY ∧ bY ≤ 2147483647) :
    Calls Tryz.prog 208 #[.agg #[.int .i32 ax, .int .i32 ay], .agg #[.int .i32 bx, .int .i32 bY]] w fun e w' => e = .returned (.tuple #[.int .i64 (bx - ax), .int .i64 (bY - ay)]) ∧ Below w.heap.size w w' := by
  obtain ⟨a0, a1⟩ := h0
  obtain ⟨b0, b1⟩ := h1
  obtain ⟨c0, c1⟩ := h2
  obtain ⟨d0, d1⟩ := h3
  go_enter Tryz.func208, Tryz.ntmps208
  go_wp2
  go_quiet (fail)
  go_wp2
  go_ret2
  exact ⟨rfl, bel_drewN (bel_alloc (new_ok _) _) _⟩

set_option maxHeartbeats 1000000 in
theorem refLengthSq_any (dx dy : Int) (w : World) (h0 : -2181038080 ≤ dx) (h1 : dx ≤ 2181038080) (h2 : -2181038080 ≤ dy) (h3 : dy ≤ 2181038080) :
    Calls Tryz.prog 117 #[.int .i64 dx, .int .i64 dy] w fun e w' => e = .returned (.int .u64 (lenSqI dx dy)) ∧ w' = w := by
  have hb := sq_bd h0 h1
  have hc := sq_bd h2 h3
  have hn : -dx * -dx = dx * dx := Int.neg_mul_neg dx dx
  have hm : -dy * -dy = dy * dy := Int.neg_mul_neg dy dy
  unfold lenSqI
  go_enter Tryz.func117, Tryz.ntmps117
  go_wp2
  all_goals
    go_ret
    exact ⟨ret_int (by first | rfl | omega), rfl⟩
/-- The reference's root: a number whose square does not pass n, and the next one's does. -/
structure RootOf (n r : Int) : Prop where
  r0 : 0 ≤ r
  r1 : r ≤ 4294967295
  le : r * r ≤ n
  lt : n < (r + 1) * (r + 1)
theorem mid_sq {m : Int} (h0 : 0 ≤ m) (h1 : m ≤ 4294967295) : 0 ≤ m * m ∧ m * m ≤ 18446744065119617025 := ⟨Int.mul_nonneg h0 h0, Int.mul_le_mul h1 h1 h0 (by omega)⟩
set_option maxHeartbeats 1000000 in
theorem refIsqrt_any (n : Int) (w : World) (h0 : 0 ≤ n) (h1 : n ≤ 18446744073709551615) :
    Calls Tryz.prog 119 #[.int .u64 n] w fun e w' => ∃ r, e = .returned (.int .u64 r) ∧ RootOf n r ∧ w' = w := by
  go_enter Tryz.func119, Tryz.ntmps119
  go_wp2
  go_loopw [3, 4] (fun a b wr => ∃ l h : Int, a = .int .u64 l ∧ b = .int .u64 h ∧ 0 ≤ l ∧ l ≤ h ∧ h ≤ 4294967295 ∧ l * l ≤ n ∧ n < (h + 1) * (h + 1) ∧ wr = w) (fun a b _ => (intOf b - intOf a).toNat)
  case atStart => exact ⟨0, 4294967295, rfl, rfl, by omega, by omega, by omega, by omega, by omega, rfl⟩
  case round =>
    obtain ⟨l, h, rfl, rfl, l0, lh, h2, hl, hh, rfl⟩ := hrel
    have HL := Lib.hid hl
    have HH := Lib.hid hh
    clear hl hh
    by_cases hlt : l < h
    · obtain ⟨m, hm⟩ : ∃ m : Int, m = (l + h + 1) / 2 := ⟨_, rfl⟩
      have m0 : l < m := by omega
      have m1 : m ≤ h := by omega
      have ms := mid_sq (m := m) (by omega) (by omega)
      have HM := Lib.hid hm
      by_cases hle : m * m ≤ n
      · have HE := Lib.hid hle
        rw [hm] at hle ms m0 m1
        clear hm
        go_wp2
        go_roundw
        case rel => exact ⟨m, h, by rw [HM.out], rfl, by have := HM.out; omega, by have := HM.out; omega, h2, HE.out, HH.out, trivial⟩
        case measure => simp [intOf]; omega
      · have HE := Lib.hid hle
        rw [hm] at hle ms m0 m1
        clear hm
        go_wp2
        go_roundw
        case rel => exact ⟨l, m - 1, rfl, by rw [HM.out], l0, by have := HM.out; omega, by have := HM.out; omega, HL.out, by have := HE.out; rw [show m - 1 + 1 = m by omega]; omega, trivial⟩
        case measure => simp [intOf]; omega
    · obtain rfl : l = h := by omega
      go_wp2
      go_ret
      exact ⟨l, rfl, ⟨l0, h2, HL.out, HH.out⟩, rfl⟩
theorem RootOf.pos {n r : Int} (h : RootOf n r) (hn : 0 < n) : 0 < r := by
  have h1 := h.r0
  have h2 := h.lt
  rcases Int.lt_or_eq_of_le h1 with h3 | h3
  · exact h3
  · rw [← h3] at h2; omega
set_option maxHeartbeats 400000 in
theorem refLength_any (dx dy : Int) (w : World) (h0 : -2181038080 ≤ dx) (h1 : dx ≤ 2181038080) (h2 : -2181038080 ≤ dy) (h3 : dy ≤ 2181038080) :
    Calls Tryz.prog 77 #[.int .i64 dx, .int .i64 dy] w fun e w' => ∃ r, e = .returned (.int .i64 r) ∧ RootOf (lenSqI dx dy) r ∧ w' = w := by
  obtain ⟨a0, a1⟩ := lenSq_bd h0 h1 h2 h3
  have HS := refLengthSq_any dx dy w h0 h1 h2 h3
  generalize lenSqI dx dy = q at *
  go_enter Tryz.func77, Tryz.ntmps77
  go_wp2_with fail
  refine HS.mono ?_
  rintro e w' ⟨rfl, rfl⟩
  go_wp2_with fail
  refine (refIsqrt_any _ _ a0 (by omega)).mono ?_
  rintro e w' ⟨r, rfl, hr, rfl⟩
  have r0 := hr.r0
  have r1 := hr.r1
  have HR := Lib.hid hr
  clear hr
  go_wp2_with fail
  go_ret
  exact ⟨r, rfl, HR.out, rfl⟩
theorem lenSq_zero {dx dy : Int} (h : ¬ (dx = 0 ∧ dy = 0)) : 0 < lenSqI dx dy := by
  have sq : ∀ d : Int, 0 ≤ d * d := fun d => by
    rcases Int.le_total 0 d with h | h
    · exact Int.mul_nonneg h h
    · have := Int.mul_nonneg (show 0 ≤ -d by omega) (show 0 ≤ -d by omega)
      rw [Int.neg_mul_neg] at this; exact this
  have sp : ∀ d : Int, d ≠ 0 → d * d ≠ 0 := fun d hd e => by rcases Int.mul_eq_zero.1 e with h | h <;> exact hd h
  have a := sq dx
  have b := sq dy
  unfold lenSqI
  by_cases hx : dx = 0
  · have := sp dy (fun e => h ⟨hx, e⟩)
    omega
  · have := sp dx hx
    omega
set_option maxHeartbeats 1000000 in
theorem refUnit_any (dx dy : Int) (w : World) (h0 : -2181038080 ≤ dx) (h1 : dx ≤ 2181038080) (h2 : -2181038080 ≤ dy) (h3 : dy ≤ 2181038080) :
    Calls Tryz.prog 76 #[.int .i64 dx, .int .i64 dy] w fun e w' => ∃ x y, e = .returned (.agg #[.int .i32 (wrap32 x), .int .i32 (wrap32 y)]) ∧ Below w.heap.size w w' := by
  by_cases hz : dx = 0 ∧ dy = 0
  · obtain ⟨rfl, rfl⟩ := hz
    go_enter Tryz.func76, Tryz.ntmps76
    go_wp2
    refine bodyPost_ret (v := .agg #[.int .i32 65536, .int .i32 0]) (by simp [results, Tryz.results76, go_sem]) rfl ⟨65536, 0, by rw [w32 (n := 65536) (by omega), w32 (n := 0) (by omega)], ?_⟩
    repeat (first | with_reducible exact Below.refl _ _ | with_reducible refine bel_alloc ?_ _ | with_reducible refine bel_set ?_ (by first | omega | (simp; done) | (simp; omega)) _)
  · have hp := lenSq_zero hz
    have hzb : (dx == 0 && dy == 0) = false := by
      rw [Bool.and_eq_false_iff]
      by_cases hx : dx = 0
      · right; simp; exact fun e => hz ⟨hx, e⟩
      · left; simpa using hx
    have HL := fun w => refLength_any dx dy w h0 h1 h2 h3
    clear hz
    by_cases hx : (dx == 0) = true
    all_goals
      first
        | (have hx' : (dx == 0) = false := by simpa using hx
           clear hx hzb)
        | (have hy' : (dy == 0) = false := by rw [hx] at hzb; simpa using hzb
           clear hzb)
      go_enter Tryz.func76, Tryz.ntmps76
      go_wp2_with fail
      refine (HL _).mono ?_
      rintro e w' ⟨r, rfl, hr, rfl⟩
      have r0 := hr.pos hp
      have r1 := hr.r1
      clear hr
      go_wp2_with fail
      refine (refFloor_wide _ _ _ (by omega) (by omega) (by omega) (by omega)).mono ?_
      rintro e w' ⟨rfl, rfl⟩
      go_wp2_with fail
      refine (refFloor_wide _ _ _ (by omega) (by omega) (by omega) (by omega)).mono ?_
      rintro e w' ⟨rfl, rfl⟩
      go_wp2_with fail
      refine bodyPost_ret (v := .agg #[.int .i32 (wrap32 (dx * 65536 / r)), .int .i32 (wrap32 (dy * 65536 / r))]) (by simp [results, Tryz.results76, go_sem]) rfl ⟨_, _, rfl, ?_⟩
      repeat (first | with_reducible exact Below.refl _ _ | with_reducible refine bel_alloc ?_ _ | with_reducible refine bel_set ?_ (by first | omega | (simp; done) | (simp; omega)) _)
end Go.Proofs.YtnhaiecbjipodaaGreatDoor
/- The contract of the reference's Check of a body. -/
namespace Go.Proofs.YtnhaiecbjipodaaGreatDoor
open Go.RowKit

set_option maxHeartbeats 400000 in
theorem refIn_any (n l : Int) (w : World) (h0 : 0 ≤ l) (h1 : l ≤ 2147483647) :
    Calls Tryz.prog 33 #[.int .i32 n, .int .i32 l] w fun e w' => e = .returned (.bool (inB n l)) ∧ w = w' := by
  by_cases h : -l ≤ n
  · go_enter Tryz.func33, Tryz.ntmps33
    go_wp2
    go_ret
    exact ⟨by simp [inB, *], rfl⟩
  · go_enter Tryz.func33, Tryz.ntmps33
    go_wp2
    go_ret
    exact ⟨by simp [inB, *]; omega, rfl⟩

set_option maxHeartbeats 4000000 in
theorem refCheck_any (b : Body) (w : World) :
    Calls Tryz.prog 17 #[.agg b.cells] w fun e w' => e = .returned (.int .i64 (errOf b)) ∧ Below w.heap.size w w' := by
  show Calls _ _ #[.agg b.arr] w _
  go_enter Tryz.func17, Tryz.ntmps17
  go_wp2_with (first | (go_at_call 33; refine (refIn_any _ _ _ (by omega) (by omega)).mono ?_; rintro e w' ⟨rfl, rfl⟩))
  all_goals
    go_ret
    refine ⟨ret_int ?_, new_ok _⟩
    simp only [errOf, okRadius, okAxis, okMass, okBounce, okPlace, okSpeed, okVec]
    simp only [inB, Bool.and_eq_true, Bool.not_eq_true', decide_eq_true_eq, Bool.and_eq_false_iff, decide_eq_false_iff_not, Bool.not_eq_false'] at *
    repeat' split
    all_goals omega
section
variable (k r ax ay m o px py vx vy : Int) (w : World)
theorem refCheck_fl : Calls Tryz.prog 17 #[.agg #[.int .u32 k, .int .i32 r, .int .i32 ax, .int .i32 ay, .int .i32 m, .int .i32 o, .int .i32 px, .int .i32 py, .int .i32 vx, .int .i32 vy]] w fun e w' => e = .returned (.int .i64 (errOf ⟨k, r, ax, ay, m, o, px, py, vx, vy⟩)) ∧ Below w.heap.size w w' := refCheck_any ⟨k, r, ax, ay, m, o, px, py, vx, vy⟩ w
end
end Go.Proofs.YtnhaiecbjipodaaGreatDoor
/- The closures that integrate hands to transform: what each does to a body and to the flag. -/
namespace Go.Proofs.YtnhaiecbjipodaaGreatDoor
open Go.RowKit

def gravB (b : Body) : Body := if (b.inv == 0) = true then b else { b with vy := clampI (b.vy - 1024) 16777216 }
def gravC (b : Body) : Bool := !(b.inv == 0) && !(clampI (b.vy - 1024) 16777216 == b.vy - 1024)
/-- A flag in memory. -/
def Flag (w : World) (f : Nat) (c : Bool) : Prop := w.heap[f]? = some (.cells #[.bool c] 4 (0, 0))
theorem Flag.lt {w : World} {f : Nat} {c : Bool} (h : Flag w f c) : f < w.heap.size := (Array.getElem?_eq_some_iff.1 h).1
theorem Flag.cell {w : World} {f : Nat} {c : Bool} (h : Flag w f c) : w.cell? ⟨f, 0, none⟩ = some (.bool c) := by
  unfold Flag at h
  simp [World.cell?, h]
theorem Flag.froz {w : World} {f : Nat} {c : Bool} (h : Flag w f c) : w.frozen? ⟨f, 0, none⟩ = false := by
  unfold Flag at h
  simp [World.frozen?, h]
theorem Flag.alloc {w : World} {f : Nat} {c : Bool} (h : Flag w f c) (o : Obj) : Flag (w.alloc o) f c := by
  have hlt := h.lt
  unfold Flag at *
  rw [Below.heap_alloc w o f hlt, h]
theorem Flag.set {w : World} {f : Nat} {c : Bool} (h : Flag w f c) (d : Bool) : Flag (w.setCell ⟨f, 0, none⟩ (.bool d)) f d := one_setCell h
theorem grown_refl (w : World) (r : Option Nat) : w.grownBy w r := ⟨rfl, rfl, rfl, Nat.le_refl _, fun _ _ _ => rfl⟩
theorem grown_alloc {w W : World} {r : Option Nat} (h : w.grownBy W r) (o : Obj) : w.grownBy (W.alloc o) r := World.grownBy.trans h (World.grownBy_alloc W o r)

theorem grown_set (w : World) (f : Nat) (v : Value) : w.grownBy (w.setCell ⟨f, 0, none⟩ v) (some f) := by
  have h := (Below.refl 0 w).setCell (p := ⟨f, 0, none⟩) (Nat.zero_le _) v
  exact ⟨h.os, h.tape, h.output, h.size, fun i _ hi => Below.heap_setCell w ⟨f, 0, none⟩ v i (fun e => hi (by rw [e]))⟩

set_option maxHeartbeats 400000 in
theorem isStatic_exact (b : Body) (w : World) :
    Calls Tryz.prog 125 #[.agg b.cells] w fun e w' => e = .returned (.bool (b.inv == 0)) ∧ w' = w.alloc (.cells b.cells 27) := by
  show Calls _ _ #[.agg #[.int .u32 b.key, .int .i32 b.radius, .int .i32 b.ax, .int .i32 b.ay, .int .i32 b.inv, .int .i32 b.bounce, .int .i32 b.px, .int .i32 b.py, .int .i32 b.vx, .int .i32 b.vy]] w _
  go_enter Tryz.func125, Tryz.ntmps125
  go_wp2
  go_ret
  exact ⟨rfl, rfl⟩
theorem isStatic_ex (k r ax ay m o px py vx vy : Int) (w : World) : Calls Tryz.prog 125 #[.agg #[.int .u32 k, .int .i32 r, .int .i32 ax, .int .i32 ay, .int .i32 m, .int .i32 o, .int .i32 px, .int .i32 py, .int .i32 vx, .int .i32 vy]] w fun e w' => e = .returned (.bool (m == 0)) ∧ w' = w.alloc (.cells #[.int .u32 k, .int .i32 r, .int .i32 ax, .int .i32 ay, .int .i32 m, .int .i32 o, .int .i32 px, .int .i32 py, .int .i32 vx, .int .i32 vy] 27) := isStatic_exact ⟨k, r, ax, ay, m, o, px, py, vx, vy⟩ w

set_option maxHeartbeats 4000000 in
theorem gravClosure (k r ax ay m o px py vx vy i : Int) (f : Nat) (c : Bool) (w : World) (hF : Flag w f c) (u0 : -16777216 ≤ vy) (u1 : vy ≤ 16777216) :
    Calls Tryz.prog 124 #[.int .i64 i, .agg #[.int .u32 k, .int .i32 r, .int .i32 ax, .int .i32 ay, .int .i32 m, .int .i32 o, .int .i32 px, .int .i32 py, .int .i32 vx, .int .i32 vy], .pointer (some ⟨f, 0, none⟩)] w fun e w' =>
      e = .returned (.agg (gravB ⟨k, r, ax, ay, m, o, px, py, vx, vy⟩).cells) ∧ w.grownBy w' (some f) ∧ Flag w' f (c || gravC ⟨k, r, ax, ay, m, o, px, py, vx, vy⟩) := by
  have h0 := hF.lt
  have h1 : f < w.heap.size + 1 := by omega
  have h2 : f < w.heap.size + 1 + 1 := by omega
  have h3 : f < w.heap.size + 1 + 1 + 1 := by omega
  have hc := hF.cell
  have hz := hF.froz
  by_cases hm : (m == 0) = true
  · go_enter Tryz.func124, Tryz.ntmps124
    go_wp2_with (go_at_call 125; refine (isStatic_ex _ _ _ _ _ _ _ _ _ _ _).mono ?_; rintro e w1 ⟨rfl, rfl⟩)
    refine bodyPost_ret (v := .agg (gravB ⟨k, r, ax, ay, m, o, px, py, vx, vy⟩).cells) (by simp [results, Tryz.results124, go_sem, gravB, hm, Body.cells]) rfl ⟨rfl, ?_, ?_⟩
    · exact grown_alloc (grown_alloc (grown_alloc (grown_refl w _) _) _) _
    · have e : (c || gravC ⟨k, r, ax, ay, m, o, px, py, vx, vy⟩) = c := by simp [gravC, hm]
      rw [e]
      exact ((hF.alloc _).alloc _).alloc _
  · have hm' : (m == 0) = false := by simpa using hm
    clear hm
    go_enter Tryz.func124, Tryz.ntmps124
    go_wp2_with (go_at_call 125; refine (isStatic_ex _ _ _ _ _ _ _ _ _ _ _).mono ?_; rintro e w1 ⟨rfl, rfl⟩)
    refine (limited_any _ _ _ _ c _ (by omega) (by omega) (by simp [go_sem]; rfl) (by simp [go_sem, *]) (by simp [go_sem, *])).mono ?_
    rintro e w1 ⟨rfl, rfl⟩
    go_wp2_with fail
    refine bodyPost_ret (v := .agg (gravB ⟨k, r, ax, ay, m, o, px, py, vx, vy⟩).cells) (by simp [results, Tryz.results124, go_sem, gravB, Body.cells, *]) rfl ⟨rfl, ?_, ?_⟩
    · exact grown_alloc (grown_alloc (grown_alloc (grown_alloc (grown_set w f _) _) _) _) _
    · have e : (c || gravC ⟨k, r, ax, ay, m, o, px, py, vx, vy⟩) = (c || !(clampI (vy - 1024) 16777216 == vy - 1024)) := by simp [gravC, hm']
      rw [e]
      exact (((((hF.set _).alloc _).alloc _).alloc _).alloc _)
end Go.Proofs.YtnhaiecbjipodaaGreatDoor
