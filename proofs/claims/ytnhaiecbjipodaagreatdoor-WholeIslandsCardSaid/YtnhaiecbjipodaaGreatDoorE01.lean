/- Plain facts for the reference's wide numbers: digits, rows of a product, long division. No program in it. -/
import Derived.Test.YtnhaiecbjipodaaGreatDoorB02
namespace Go.Proofs.YtnhaiecbjipodaaGreatDoor
def valL : List Int → Int
  | [] => 0
  | d :: r => d + 65536 * valL r
theorem valL_set : ∀ (l : List Int) (n : Nat) (d : Int), n < l.length → valL (l.set n d) = valL l + (d - l.getD n 0) * 65536 ^ n
  | [], n, d, h => by simp at h
  | a :: r, 0, d, h => by simp [valL]; omega
  | a :: r, n + 1, d, h => by
    have := valL_set r n d (by simpa using h)
    simp only [List.set_cons_succ, valL, List.getD_cons_succ]
    rw [this, Int.pow_succ, Int.mul_add, Int.mul_left_comm, Int.mul_comm (65536 ^ n) 65536, Int.add_assoc]
theorem div_div {y b c : Int} (hb : 0 ≤ b) : y / (b * c) = y / b / c := by
  have := Int.ediv_ediv (x := y) (y := b) (z := c)
  rw [if_neg (by omega)] at this
  omega
theorem mod_next (y : Int) {b c : Int} (hb : 0 ≤ b) : y % (b * c) = y % b + y / b % c * b := by
  have h1 := Int.emod_def y (b * c)
  have h2 := Int.emod_def y b
  have h3 := Int.emod_def (y / b) c
  rw [div_div hb] at h1
  have e : c * (y / b / c) * b = b * c * (y / b / c) := by rw [Int.mul_comm _ b, Int.mul_assoc]
  rw [h1, h2, h3, Int.sub_mul, Int.mul_comm (y / b) b, e]
  omega
theorem digit_next (y : Int) (k : Nat) : y % 65536 ^ (k + 1) = y % 65536 ^ k + y / 65536 ^ k % 65536 * 65536 ^ k := by
  rw [Int.pow_succ]
  exact mod_next y (Int.pow_nonneg (by omega))
/-- A step of a row. -/
theorem row_step {zs : List Int} {c V x y Y : Int} {n k i : Nat} (hn : n < zs.length) (hnk : n = i + k) (h : valL zs + c * 65536 ^ n = V + x * 65536 ^ i * Y) :
    valL (zs.set n ((zs.getD n 0 + x * y + c) % 65536)) + (zs.getD n 0 + x * y + c) / 65536 * 65536 ^ (n + 1) = V + x * 65536 ^ i * (Y + y * 65536 ^ k) := by
  rw [valL_set _ _ _ hn]
  generalize zs.getD n 0 = z at *
  have e : (z + x * y + c) % 65536 + 65536 * ((z + x * y + c) / 65536) = z + x * y + c := Int.emod_add_mul_ediv _ _
  generalize (z + x * y + c) % 65536 = t at *
  generalize (z + x * y + c) / 65536 = u at *
  have e2 : (t - z) * 65536 ^ n + u * 65536 ^ (n + 1) = (x * y + c) * 65536 ^ n := by
    rw [Int.pow_succ, ← Int.mul_assoc, Int.mul_comm (u * 65536 ^ n) 65536, ← Int.mul_assoc, ← Int.add_mul]
    congr 1
    omega
  have e3 : x * 65536 ^ i * (Y + y * 65536 ^ k) = x * 65536 ^ i * Y + x * y * 65536 ^ n := by
    rw [Int.mul_add, hnk, Int.pow_add]
    congr 1
    rw [Int.mul_assoc, Int.mul_assoc, Int.mul_left_comm (65536 ^ i)]
  rw [e3, Int.add_assoc, e2, Int.add_mul]
  omega
theorem row_bd {z x y c : Int} (z0 : 0 ≤ z) (z1 : z ≤ 65535) (x0 : 0 ≤ x) (x1 : x ≤ 65535) (y0 : 0 ≤ y) (y1 : y ≤ 65535) (c0 : 0 ≤ c) (c1 : c ≤ 65535) : 0 ≤ x * y ∧ x * y ≤ 4294836225 ∧ (z + x * y + c) / 65536 ≤ 65535 ∧ 0 ≤ (z + x * y + c) / 65536 := by
  have h0 := Int.mul_nonneg x0 y0
  have h1 : x * y ≤ 65535 * 65535 := Int.mul_le_mul x1 y1 y0 (by omega)
  omega
/-- Long division, a bit at a time. -/
structure Part (N d q r : Int) (s : Bool) (i : Nat) : Prop where
  r : r = N / 2 ^ i % d
  q : q = N / 2 ^ i / d % 18446744073709551616
  s : s = decide (N / 2 ^ i / d < 18446744073709551616)
theorem half (N : Int) (i : Nat) : N / 2 ^ i = 2 * (N / 2 ^ (i + 1)) + N / 2 ^ i % 2 := by
  rw [Int.pow_succ, div_div (Int.pow_nonneg (by omega))]
  omega
theorem part_step {N d q r : Int} {s : Bool} {i : Nat} (hN : 0 ≤ N) (d0 : 0 < d) (h : Part N d q r s (i + 1)) :
    0 ≤ r ∧ r < d ∧ 0 ≤ q ∧ q < 18446744073709551616 ∧
    (2 * r + N / 2 ^ i % 2 < d → Part N d (2 * q % 18446744073709551616) (2 * r + N / 2 ^ i % 2) (if 9223372036854775808 ≤ q then false else s) i) ∧
    (d ≤ 2 * r + N / 2 ^ i % 2 → Part N d ((2 * q + 1) % 18446744073709551616) (2 * r + N / 2 ^ i % 2 - d) (if 9223372036854775808 ≤ q then false else s) i) := by
  obtain ⟨hr, hq, hs⟩ := h
  have hP : 0 ≤ N / 2 ^ (i + 1) := Int.ediv_nonneg hN (Int.pow_nonneg (by omega))
  have hh := half N i
  have hb : 0 ≤ N / 2 ^ i % 2 ∧ N / 2 ^ i % 2 ≤ 1 := by omega
  generalize hbe : N / 2 ^ i % 2 = b at *
  generalize hPe : N / 2 ^ (i + 1) = P at *
  generalize hPe' : N / 2 ^ i = P' at *
  have r0 : 0 ≤ P % d := Int.emod_nonneg _ (by omega)
  have r1 : P % d < d := Int.emod_lt_of_pos _ d0
  have Q0 : 0 ≤ P / d := Int.ediv_nonneg hP (by omega)
  have e := Int.mul_ediv_add_emod P d
  rw [← hr] at e r0 r1
  generalize hQ : P / d = Q at *
  have key : ∀ c : Int, 0 ≤ 2 * r + b - c * d → 2 * r + b - c * d < d → P' / d = 2 * Q + c ∧ P' % d = 2 * r + b - c * d := by
    intro c h0 h1
    have e1 : P' = (2 * r + b - c * d) + d * (2 * Q + c) := by
      rw [hh, ← e, Int.mul_add, Int.mul_add, Int.mul_comm c d, Int.mul_left_comm d 2 Q]
      omega
    rw [e1]
    exact ⟨by rw [Int.add_mul_ediv_left _ _ (by omega), Int.ediv_eq_zero_of_lt h0 h1, Int.zero_add], by rw [Int.add_mul_emod_self_left, Int.emod_eq_of_lt h0 h1]⟩
  have q0 : 0 ≤ q ∧ q < 18446744073709551616 := by rw [hq]; omega
  have flag : ∀ c : Int, 0 ≤ c → c ≤ 1 → (if 9223372036854775808 ≤ q then false else s) = decide (2 * Q + c < 18446744073709551616) := by
    intro c c0 c1
    split
    · rename_i hbig
      symm; rw [decide_eq_false_iff_not]
      omega
    · rename_i hbig
      rw [hs]
      by_cases hl : Q < 18446744073709551616
      · rw [decide_eq_true hl, decide_eq_true]
        omega
      · rw [decide_eq_false hl, decide_eq_false]
        omega
  refine ⟨r0, r1, q0.1, q0.2, fun hlt => ?_, fun hge => ?_⟩
  · obtain ⟨k1, k2⟩ := key 0 (by omega) (by omega)
    refine ⟨by rw [hPe', k2]; omega, by rw [hPe', k1, hq]; omega, ?_⟩
    rw [hPe', k1]
    exact flag 0 (by omega) (by omega)
  · obtain ⟨k1, k2⟩ := key 1 (by omega) (by omega)
    refine ⟨by rw [hPe', k2]; omega, by rw [hPe', k1, hq]; omega, ?_⟩
    rw [hPe', k1]
    exact flag 1 (by omega) (by omega)
theorem part_start {N d : Int} (hN : 0 ≤ N) (h2 : N < 2 ^ 128) : Part N d 0 0 true 128 := by
  have : N / 2 ^ 128 = 0 := Int.ediv_eq_zero_of_lt hN h2
  refine ⟨?_, ?_, ?_⟩ <;> rw [this] <;> simp
theorem part_end {N d q r : Int} {s : Bool} (h : Part N d q r s 0) : r = N % d ∧ q = N / d % 18446744073709551616 ∧ s = decide (N / d < 18446744073709551616) := by
  obtain ⟨h1, h2, h3⟩ := h
  simpa using And.intro h1 (And.intro h2 h3)
/-- A bit of a number of digits. -/
theorem val_digit : ∀ (l : List Int), (∀ d ∈ l, 0 ≤ d ∧ d ≤ 65535) → ∀ n, valL l / 65536 ^ n % 65536 = l.getD n 0
  | [], _, n => by simp [valL]
  | a :: r, h, 0 => by
    have := h a (by simp)
    simp only [valL, List.getD_cons_zero, Int.pow_zero, Int.ediv_one]
    omega
  | a :: r, h, n + 1 => by
    have h1 := h a (by simp)
    have := val_digit r (fun d hd => h d (by simp [hd])) n
    rw [List.getD_cons_succ, ← this, Int.pow_succ, Int.mul_comm, div_div (by omega)]
    congr 2
    simp only [valL]
    omega
theorem val_bd : ∀ (l : List Int), (∀ d ∈ l, 0 ≤ d ∧ d ≤ 65535) → 0 ≤ valL l ∧ valL l < 65536 ^ l.length
  | [], _ => by simp [valL]
  | a :: r, h => by
    have h1 := h a (by simp)
    have := val_bd r (fun d hd => h d (by simp [hd]))
    simp only [valL, List.length_cons, Int.pow_succ]
    omega
theorem bit_of {l : List Int} (h : ∀ d ∈ l, 0 ≤ d ∧ d ≤ 65535) (i : Nat) : l.getD (i / 16) 0 / 2 ^ (i % 16) % 2 = valL l / 2 ^ i % 2 := by
  have e : (2 : Int) ^ i = 65536 ^ (i / 16) * 2 ^ (i % 16) := by
    rw [show (65536 : Int) = 2 ^ 16 from rfl, ← Int.pow_mul, ← Int.pow_add]
    congr 1; omega
  rw [e, div_div (Int.pow_nonneg (by omega)), ← val_digit l h (i / 16)]
  generalize valL l / 65536 ^ (i / 16) = m
  have hk : ∀ k, k < 16 → m % 65536 / 2 ^ k % 2 = m / 2 ^ k % 2 := by
    intro k hk
    have : k = 0 ∨ k = 1 ∨ k = 2 ∨ k = 3 ∨ k = 4 ∨ k = 5 ∨ k = 6 ∨ k = 7 ∨ k = 8 ∨ k = 9 ∨ k = 10 ∨ k = 11 ∨ k = 12 ∨ k = 13 ∨ k = 14 ∨ k = 15 := by omega
    rcases this with rfl | rfl | rfl | rfl | rfl | rfl | rfl | rfl | rfl | rfl | rfl | rfl | rfl | rfl | rfl | rfl <;> omega
  exact hk _ (by omega)
/-- The signed quotient out of the quotient of the absolute values. -/
theorem neg_div {N c : Int} (hc : 0 < c) : -N / c = -(N / c) - (if 0 < N % c then 1 else 0) := by
  have h := Int.mul_ediv_add_emod N c
  have r0 := Int.emod_nonneg N (show c ≠ 0 by omega)
  have r1 := Int.emod_lt_of_pos N hc
  generalize N % c = r at *
  generalize N / c = q at *
  split
  · have e : -N = (c - r) + c * (-q - 1) := by rw [Int.mul_sub, Int.mul_neg]; omega
    rw [e, Int.add_mul_ediv_left _ _ (by omega), Int.ediv_eq_zero_of_lt (by omega) (by omega), Int.zero_add]
  · have e : -N = 0 + c * (-q) := by rw [Int.mul_neg]; omega
    rw [e, Int.add_mul_ediv_left _ _ (by omega), Int.zero_ediv, Int.zero_add]
    omega
theorem abs_mul (a b : Int) : ((a.natAbs : Int) * (b.natAbs : Int) = a * b ∧ (decide (a < 0) != decide (b < 0)) = false) ∨ ((a.natAbs : Int) * (b.natAbs : Int) = -(a * b) ∧ (decide (a < 0) != decide (b < 0)) = true) := by
  by_cases ha : a < 0 <;> by_cases hb : b < 0
  · left; refine ⟨?_, by simp [ha, hb]⟩
    rw [show (a.natAbs : Int) = -a by omega, show (b.natAbs : Int) = -b by omega, Int.neg_mul_neg]
  · right; refine ⟨?_, by simp [ha, hb]⟩
    rw [show (a.natAbs : Int) = -a by omega, show (b.natAbs : Int) = b by omega, Int.neg_mul]
  · right; refine ⟨?_, by simp [ha, hb]⟩
    rw [show (a.natAbs : Int) = a by omega, show (b.natAbs : Int) = -b by omega, Int.mul_neg]
  · left; refine ⟨?_, by simp [ha, hb]⟩
    rw [show (a.natAbs : Int) = a by omega, show (b.natAbs : Int) = b by omega]
end Go.Proofs.YtnhaiecbjipodaaGreatDoor
