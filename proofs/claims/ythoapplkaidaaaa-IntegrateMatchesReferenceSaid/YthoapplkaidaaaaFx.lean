/- The contracts of the functions on numbers that integrate uses, the program's and the references'. -/
import Derived.Test.YthoapplkaidaaaaRows
import Derived.Test.YthoapplkaidaaaaData
import Derived.Test.YthoapplkaidaaaaGrow
import Derived.WalkKit
import Derived.WalkSpells
import Derived.WalkLawsBesides
import Derived.Lib.Hide
namespace Go.Proofs.Ythoapplkaidaaaa
open Go.RowKit

def clampI (n l : Int) : Int := max (-l) (min n l)
theorem clampI_le {n l : Int} (h : 0 ≤ l) : -l ≤ clampI n l ∧ clampI n l ≤ l := by unfold clampI; omega

set_option maxHeartbeats 400000 in
theorem fxLimit_any (n l : Int) (w : World) (h0 : 0 ≤ l) (h1 : l ≤ 2147483647) :
    Calls Try.prog 33 #[.int .i64 n, .int .i64 l] w fun e w' => e = .returned (.tuple #[.int .i64 (clampI n l), .bool (!(clampI n l == n))]) ∧ w = w' := by
  go_enter Try.func33, Try.ntmps33
  go_wp2
  all_goals
    go_ret2
    refine ⟨?_, rfl⟩
    first
      | (have e : clampI n l = n := by unfold clampI; omega
         rw [e]; simp; done)
      | (have e : clampI n l = l := by unfold clampI; omega
         rw [e]; rfl)
      | (have e : clampI n l = -l := by unfold clampI; omega
         rw [e]; rfl)
theorem floor_eq {n d : Int} (hd : 0 < d) : (n.tmod d < 0 → n.tdiv d - 1 = n / d) ∧ (0 ≤ n.tmod d → n.tdiv d = n / d) := by
  rcases Int.le_total 0 n with hn | hn
  · rw [Int.tdiv_eq_ediv_of_nonneg hn, Int.tmod_eq_emod_of_nonneg hn]
    have := Int.emod_nonneg n (show d ≠ 0 by omega)
    exact ⟨fun h => by omega, fun _ => rfl⟩
  · obtain ⟨m, rfl⟩ : ∃ m : Int, n = -m := ⟨-n, by omega⟩
    have hm : 0 ≤ m := by omega
    rw [Int.neg_tmod, Int.neg_tdiv, Int.tdiv_eq_ediv_of_nonneg hm, Int.tmod_eq_emod_of_nonneg hm]
    have h1 := Int.emod_nonneg m (show d ≠ 0 by omega)
    have h2 := Int.emod_lt_of_pos m hd
    have h3 := Int.emod_add_mul_ediv m d
    refine ⟨fun h => ?_, fun h => ?_⟩
    · have := (Int.ediv_emod_unique (a := -m) (b := d) (r := d - m % d) (q := -(m / d) - 1) hd).2 ⟨by rw [Int.mul_sub, Int.mul_neg]; omega, by omega, by omega⟩
      exact this.1.symm
    · have h0 : m % d = 0 := by omega
      have := (Int.ediv_emod_unique (a := -m) (b := d) (r := 0) (q := -(m / d)) hd).2 ⟨by rw [Int.mul_neg]; omega, by omega, by omega⟩
      exact this.1.symm
theorem floor_bounds {n d : Int} (hd : 0 < d) (h0 : -9223372036854775807 ≤ n) (h2 : n ≤ 9223372036854775807) : -9223372036854775807 ≤ n / d ∧ n / d ≤ 9223372036854775807 := by
  constructor
  · exact Int.le_trans (b := -9223372036854775807 / d) (by
      rw [Int.le_ediv_iff_mul_le hd]
      have : (1 : Int) ≤ d := hd
      omega) (Int.ediv_le_ediv hd h0)
  · rcases Int.le_total 0 n with hn | hn
    · have := Int.ediv_le_self d hn
      omega
    · have : n / d ≤ 0 := by
        have := Int.ediv_le_ediv hd hn
        simpa using this
      omega

set_option maxHeartbeats 400000 in
theorem refLimit_any (n l : Int) (w : World) (h0 : 0 ≤ l) (h1 : l ≤ 2147483647) :
    Calls Try.prog 27 #[.int .i64 n, .int .i64 l] w fun e w' => e = .returned (.int .i64 (clampI n l)) ∧ w = w' := by
  go_enter Try.func27, Try.ntmps27
  go_wp2
  all_goals
    go_ret
    exact ⟨ret_int (by unfold clampI; omega), rfl⟩
set_option maxHeartbeats 400000 in
theorem refFloor_any (n d : Int) (w : World) (h0 : -9223372036854775807 ≤ n) (h2 : n ≤ 9223372036854775807) (h1 : 1 ≤ d) (h3 : d ≤ 2147483647) :
    Calls Try.prog 29 #[.int .i64 n, .int .i64 d] w fun e w' => e = .returned (.int .i64 (n / d)) ∧ w = w' := by
  have HF := Lib.hid (floor_eq (n := n) (d := d) (by omega))
  have HB := Lib.hid (floor_bounds (n := n) (d := d) (by omega) h0 h2)
  go_enter Try.func29, Try.ntmps29
  go_wp2
  all_goals
    go_ret
    refine ⟨ret_int ?_, rfl⟩
    have := HF.out
    have hb := HB.out
    first
      | (rw [← this.2 (by assumption)]; done)
      | (rw [this.1 (by assumption), IntWalk.wrap64_in _ ⟨by omega, by omega⟩])

theorem clampI_i32 {n l : Int} (h0 : 0 ≤ l) (h1 : l ≤ 2147483647) : wrap32 (clampI n l) = clampI n l := w32 (by have := clampI_le (n := n) h0; omega)
set_option maxHeartbeats 1000000 in
theorem limited_any (n l : Int) (s f : Nat) (c : Bool) (w : World) (h0 : 0 ≤ l) (h1 : l ≤ 2147483647)
    (hs : w.cell? ⟨s, 0, none⟩ = some (.pointer (some ⟨f, 0, none⟩))) (hf : w.cell? ⟨f, 0, none⟩ = some (.bool c)) (hz : w.frozen? ⟨f, 0, none⟩ = false) :
    Calls Try.prog 26 #[.int .i64 n, .int .i64 l, .slice (some ⟨s, 0, none⟩) 1 1] w fun e w' => e = .returned (.int .i32 (clampI n l)) ∧ w' = w.setCell ⟨f, 0, none⟩ (.bool (c || !(clampI n l == n))) := by
  have HC := Lib.hid (clampI_i32 (n := n) h0 h1)
  go_enter Try.func26, Try.ntmps26
  go_wp2_with (go_at_call 33; refine (fxLimit_any _ _ _ (by omega) (by omega)).mono ?_; rintro e w' ⟨rfl, rfl⟩)
  go_loopw [19] (fun i wr => (i = .int .i64 0 ∧ wr = w) ∨ (i = .int .i64 1 ∧ wr = w.setCell ⟨f, 0, none⟩ (.bool (c || !(clampI n l == n))))) (fun i _ => 1 - (intOf i).toNat)
  case atStart => exact .inl ⟨rfl, rfl⟩
  case round =>
    rcases hrel with ⟨rfl, rfl⟩ | ⟨rfl, rfl⟩
    · cases c
      all_goals
        go_wp2_with fail
        go_roundw
        case rel => exact .inr ⟨rfl, by simp⟩
        case measure => simp [intOf]
    · go_wp2_with fail
      go_ret
      exact ⟨ret_int HC.out, rfl⟩

/-- The velocity behind a push, and whether it was limited. -/
def pushV (v j m : Int) : Int := v + j * m / 65536
def pushB (b : Body) (x y : Int) : Body := { b with vx := clampI (pushV b.vx x b.inv) 16777216, vy := clampI (pushV b.vy y b.inv) 16777216 }
def pushC (b : Body) (x y : Int) : Bool := !(clampI (pushV b.vx x b.inv) 16777216 == pushV b.vx x b.inv) || !(clampI (pushV b.vy y b.inv) 16777216 == pushV b.vy y b.inv)
theorem mul_bd {j m : Int} (h0 : -2147483648 ≤ j) (h1 : j ≤ 2147483647) (m0 : 0 ≤ m) (m1 : m ≤ 1048576) : -2251799813685248 ≤ j * m ∧ j * m ≤ 2251799813685248 := by
  constructor
  · have := Int.mul_le_mul_of_nonneg_right h0 m0
    omega
  · have := Int.mul_le_mul_of_nonneg_right h1 m0
    omega
theorem mul_in {j m : Int} (h0 : -2147483648 ≤ j) (h1 : j ≤ 2147483647) (m0 : 0 ≤ m) (m1 : m ≤ 1048576) : wrap64 (j * m) = j * m := by
  have := mul_bd h0 h1 m0 m1
  exact IntWalk.wrap64_in _ ⟨by omega, by omega⟩

set_option maxHeartbeats 4000000 in
theorem push_any (k r ax ay m o px py vx vy x y : Int) (w : World) (m0 : 0 ≤ m) (m1 : m ≤ 1048576) (v0 : -16777216 ≤ vx) (v1 : vx ≤ 16777216) (u0 : -16777216 ≤ vy) (u1 : vy ≤ 16777216) (x0 : -2147483648 ≤ x) (x1 : x ≤ 2147483647) (y0 : -2147483648 ≤ y) (y1 : y ≤ 2147483647) :
    Calls Try.prog 17 #[.agg #[.int .u32 k, .int .i32 r, .int .i32 ax, .int .i32 ay, .int .i32 m, .int .i32 o, .int .i32 px, .int .i32 py, .int .i32 vx, .int .i32 vy], .agg #[.int .i32 x, .int .i32 y]] w fun e w' => e = .returned (.tuple #[.agg (pushB ⟨k, r, ax, ay, m, o, px, py, vx, vy⟩ x y).cells, .bool (pushC ⟨k, r, ax, ay, m, o, px, py, vx, vy⟩ x y)]) ∧ Below w.heap.size w w' := by
  have b1 := mul_bd x0 x1 m0 m1
  have b2 := mul_bd y0 y1 m0 m1
  have e1 := mul_in x0 x1 m0 m1
  have e2 := mul_in y0 y1 m0 m1
  obtain ⟨p, hp⟩ : ∃ p, p = x * m := ⟨_, rfl⟩
  obtain ⟨q, hq⟩ : ∃ q, q = y * m := ⟨_, rfl⟩
  go_enter Try.func17, Try.ntmps17
  clear hp hq p q
  go_wp2_with fail
  refine (limited_any _ _ _ _ false _ (by omega) (by omega) (by simp [go_sem]; rfl) (by simp [go_sem]) (by simp [go_sem])).mono ?_
  rintro e w1 ⟨rfl, rfl⟩
  go_wp2_with fail
  refine (limited_any _ _ _ _ (!(clampI (vx + x * m / 65536) 16777216 == vx + x * m / 65536)) _ (by omega) (by omega) (by simp [go_sem]; rfl) (by simp [go_sem]) (by simp [go_sem])).mono ?_
  rintro e w1 ⟨rfl, rfl⟩
  go_wp2_with fail
  go_region
  all_goals go_wp2
  all_goals refine bodyPost_ret (v := .tuple #[.agg (pushB ⟨k, r, ax, ay, m, o, px, py, vx, vy⟩ x y).cells, .bool (pushC ⟨k, r, ax, ay, m, o, px, py, vx, vy⟩ x y)]) (by simp [results, Try.results17, go_sem, pushB, pushC, pushV, Body.cells]) rfl ⟨rfl, bel_drew (bel_alloc (bel_alloc (bel_alloc (bel_alloc (bel_alloc (new_ok _) _) _) _) _) _)⟩
end Go.Proofs.Ythoapplkaidaaaa
