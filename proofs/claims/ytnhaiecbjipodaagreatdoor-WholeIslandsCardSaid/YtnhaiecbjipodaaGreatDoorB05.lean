/- The contracts of root.Isqrt and of the package vec. -/
import Derived.Test.YtnhaiecbjipodaaGreatDoorProg
import Derived.Test.YtnhaiecbjipodaaGreatDoorB02
import Derived.WalkKit
import Derived.WalkSpells
import Derived.WalkLawsBesides
import Derived.Deep.QuietTactic
import Derived.BigQuiet
import Derived.Lib.Hide
namespace Go.Proofs.YtnhaiecbjipodaaGreatDoor
open Go.RowKit

set_option maxHeartbeats 1000000 in
theorem isqrt_any (n : Int) (w : World) (h0 : 0 ≤ n) (h1 : n ≤ 18446744073709551615) :
    Calls Tryz.prog 211 #[.int .u64 n] w fun e w' => e = .returned (.int .u64 (isqrtI n)) ∧ w' = w := by
  go_enter Tryz.func211, Tryz.ntmps211
  go_wp2
  go_loopw [3, 4, 8] (fun r o i wr => ∃ k : Nat, k ≤ 32 ∧ i = .int .i64 k ∧ ∃ a b : Int, (a, b) = isqRun n k ∧ r = .int .u64 a ∧ o = .int .u64 b ∧ wr = w) (fun _ _ i _ => 32 - (intOf i).toNat)
  case atStart => exact ⟨0, by omega, rfl, n, 0, rfl, rfl, rfl, rfl⟩
  case round =>
    obtain ⟨k, hk, rfl, a, b, hab, rfl, rfl, rfl⟩ := hrel
    by_cases hlt : k < 32
    · obtain ⟨a0, a1, b0, b1⟩ := isqRun_keeps h0 h1 k hk
      rw [← hab] at a0 a1 b0 b1
      simp only at a0 a1 b0 b1
      have hbit : ∀ k, k < 32 → 0 ≤ isqBit k ∧ isqTop k + isqBit k ≤ 18446744073709551615 := by decide +kernel
      obtain ⟨c0, c1⟩ := hbit k hlt
      have c2 : b + isqBit k ≤ 18446744073709551615 := by omega
      clear hbit c1 b1
      have HR := Lib.hid (isqRun_succ n k)
      have HA := Lib.hid hab
      unfold isqBit at c0 c2
      clear hab
      by_cases hge : b + 4611686018427387904 / 2 ^ (2 * k) ≤ a
      · have HG := Lib.hid hge
        go_wp2
        go_roundw
        case rel => exact ⟨k + 1, by omega, by go_num, a - (b + isqBit k), b / 2 + isqBit k, by rw [HR.out, ← HA.out, isqStep, if_pos (by exact HG.out)], rfl, rfl, trivial⟩
        case measure => simp [intOf]; omega
      · have HG := Lib.hid hge
        go_wp2
        go_roundw
        case rel => exact ⟨k + 1, by omega, by go_num, a, b / 2, by rw [HR.out, ← HA.out, isqStep, if_neg (by exact HG.out)], rfl, rfl, trivial⟩
        case measure => simp [intOf]; omega
    · obtain rfl : k = 32 := by omega
      go_wp2
      go_ret
      exact ⟨ret_int (by have := congrArg Prod.snd hab; exact this), rfl⟩

theorem sq_bd {d : Int} (h0 : -2181038080 ≤ d) (h1 : d ≤ 2181038080) : 0 ≤ d * d ∧ d * d ≤ 4756927106410086400 := by
  constructor
  · rcases Int.le_total 0 d with h | h
    · exact Int.mul_nonneg h h
    · have := Int.mul_nonneg (show 0 ≤ -d by omega) (show 0 ≤ -d by omega)
      rw [Int.neg_mul_neg] at this; exact this
  · rcases Int.le_total 0 d with h | h
    · exact Int.mul_le_mul h1 h1 h (by omega)
    · have := Int.mul_le_mul (show -d ≤ 2181038080 by omega) (show -d ≤ 2181038080 by omega) (by omega) (by omega)
      rw [Int.neg_mul_neg] at this; exact this
theorem lenSq_bd {dx dy : Int} (h0 : -2181038080 ≤ dx) (h1 : dx ≤ 2181038080) (h2 : -2181038080 ≤ dy) (h3 : dy ≤ 2181038080) : 0 ≤ lenSqI dx dy ∧ lenSqI dx dy ≤ 9513854212820172800 := by
  have a := sq_bd h0 h1
  have b := sq_bd h2 h3
  unfold lenSqI
  omega
set_option maxHeartbeats 400000 in
theorem square_any (n : Int) (w : World) (h0 : -2181038080 ≤ n) (h1 : n ≤ 2181038080) :
    Calls Tryz.prog 209 #[.int .i64 n] w fun e w' => e = .returned (.int .u64 (n * n)) ∧ w' = w := by
  have hb := sq_bd h0 h1
  have hn : -n * -n = n * n := Int.neg_mul_neg n n
  go_enter Tryz.func209, Tryz.ntmps209
  go_wp2
  all_goals
    go_ret
    exact ⟨ret_int (by first | rfl | omega), rfl⟩
set_option maxHeartbeats 400000 in
theorem lengthSq_any (dx dy : Int) (w : World) (h0 : -2181038080 ≤ dx) (h1 : dx ≤ 2181038080) (h2 : -2181038080 ≤ dy) (h3 : dy ≤ 2181038080) :
    Calls Tryz.prog 182 #[.int .i64 dx, .int .i64 dy] w fun e w' => e = .returned (.int .u64 (lenSqI dx dy)) ∧ w' = w := by
  have hb := lenSq_bd h0 h1 h2 h3
  unfold lenSqI at hb ⊢
  go_enter Tryz.func182, Tryz.ntmps182
  go_wp2_with fail
  refine (square_any _ _ h0 h1).mono ?_
  rintro e w' ⟨rfl, rfl⟩
  go_wp2_with fail
  refine (square_any _ _ h2 h3).mono ?_
  rintro e w' ⟨rfl, rfl⟩
  go_wp2_with fail
  go_ret
  exact ⟨ret_int rfl, rfl⟩
set_option maxHeartbeats 400000 in
theorem length_any (dx dy : Int) (w : World) (h0 : -2181038080 ≤ dx) (h1 : dx ≤ 2181038080) (h2 : -2181038080 ≤ dy) (h3 : dy ≤ 2181038080) :
    Calls Tryz.prog 184 #[.int .i64 dx, .int .i64 dy] w fun e w' => e = .returned (.int .i64 (lengthI dx dy)) ∧ w' = w := by
  obtain ⟨a0, a1⟩ := lenSq_bd h0 h1 h2 h3
  have hb := isqrtI_bounds a0 (by omega)
  unfold lengthI
  generalize hq : lenSqI dx dy = q at *
  have HQ := Lib.hid hq
  clear hq
  go_enter Tryz.func184, Tryz.ntmps184
  go_wp2_with fail
  refine (lengthSq_any _ _ _ h0 h1 h2 h3).mono ?_
  rintro e w' ⟨rfl, rfl⟩
  rw [HQ.out]
  go_wp2_with fail
  refine (isqrt_any _ _ a0 (by omega)).mono ?_
  rintro e w' ⟨rfl, rfl⟩
  go_wp2_with fail
  go_ret
  exact ⟨ret_int rfl, rfl⟩
end Go.Proofs.YtnhaiecbjipodaaGreatDoor
