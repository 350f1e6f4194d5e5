/- The contract of wide.MulShift at 16, and the package impulse's functions. -/
import Derived.Test.YtnhaiecbjipodaaGreatDoorB04
import Derived.Test.YtnhaiecbjipodaaGreatDoorB06
namespace Go.Proofs.YtnhaiecbjipodaaGreatDoor
open Go.RowKit
attribute [local go_sem] Grow.cell Grow.froz Grow.lt

set_option maxRecDepth 100000 in
set_option maxHeartbeats 2000000 in
theorem mulShift_any (a b : Int) (w : World) (a0 : -9223372036854775807 ≤ a) (a1 : a ≤ 9223372036854775807) (b0 : -9223372036854775807 ≤ b) (b1 : b ≤ 9223372036854775807) (p0 : -302231454903657293676544 ≤ a * b) (p1 : a * b ≤ 302231454903657293676543) :
    Calls Tryz.prog 242 #[.int .i64 a, .int .i64 b, .int .i64 16] w fun e w' => e = .returned (.tuple #[.int .i64 (a * b / 65536), .int .i64 0]) ∧ w' = w := by
  obtain ⟨N, hN⟩ : ∃ N, a * b = N := ⟨_, rfl⟩
  have HN := Lib.hid hN
  have HM := Lib.hid (wideMul_any a b w a0 a1 b0 b1 (by omega) (by omega))
  rw [hN] at p0 p1
  have hr : (N / 18446744073709551616 % 18446744073709551616 * 281474976710656) % 18446744073709551616 = (N / 18446744073709551616 % 65536) * 281474976710656 := by omega
  have ho := or48 (x := N % 18446744073709551616 / 65536) (y := N / 18446744073709551616 % 65536) (by omega) (by omega)
  have hs : wrap64 (N % 18446744073709551616 / 65536 + N / 18446744073709551616 % 65536 * 281474976710656) = N / 65536 := by unfold wrap64; omega
  have hw : IntKind.u64.wrap (IntKind.u64.wrap (N / 18446744073709551616) * 281474976710656) = (N / 18446744073709551616 % 65536) * 281474976710656 := by rw [IntKind.wrap_u64, IntKind.wrap_u64]; exact hr
  have hc : (N / 18446744073709551616 / 65536 != N / 65536 / 9223372036854775808) = false := by
    rw [bne_eq_false_iff_eq]; omega
  have r0 : 0 ≤ N % 18446744073709551616 := by omega
  have r1 : N % 18446744073709551616 ≤ 18446744073709551615 := by omega
  have q0 : -65536 ≤ N / 18446744073709551616 := by omega
  have q1 : N / 18446744073709551616 ≤ 65536 := by omega
  have HW := Lib.hid hw
  have HO := Lib.hid ho
  have HS := Lib.hid hs
  clear hN hr hw ho hs
  go_enter Tryz.func242, Tryz.ntmps242
  go_wp2_with fail
  refine HM.out.mono ?_
  rintro e w' ⟨rfl, rfl⟩
  rw [HN.out]
  go_upto_region 7 with fail
  rw [HW.out, HO.out, HS.out]
  go_wp2
  go_ret2
  rw [HN.out]
  exact ⟨rfl, rfl⟩

set_option maxHeartbeats 1000000 in
theorem shifted_any (a b : Int) (w : World) (a0 : -9223372036854775807 ≤ a) (a1 : a ≤ 9223372036854775807) (b0 : -9223372036854775807 ≤ b) (b1 : b ≤ 9223372036854775807) (p0 : -302231454903657293676544 ≤ a * b) (p1 : a * b ≤ 302231454903657293676543) :
    Calls Tryz.prog 229 #[.int .i64 a, .int .i64 b] w fun e w' => e = .returned (.int .i64 (a * b / 65536)) ∧ w' = w := by
  have HM := Lib.hid (mulShift_any a b w a0 a1 b0 b1 p0 p1)
  clear p0 p1
  go_enter Tryz.func229, Tryz.ntmps229
  go_wp2_with fail
  refine HM.out.mono ?_
  rintro e w' ⟨rfl, rfl⟩
  go_wp2
  go_ret
  exact ⟨rfl, rfl⟩

set_option maxHeartbeats 1000000 in
theorem approach_any (lo hi nx ny dep k r ax ay m o px py vx vy k' r' ax' ay' m' o' px' py' vx' vy' : Int) (w : World) (hc : Con.Fit ⟨lo, hi, nx, ny, dep⟩) (ha : Sound ⟨k, r, ax, ay, m, o, px, py, vx, vy⟩) (hb : Sound ⟨k', r', ax', ay', m', o', px', py', vx', vy'⟩) :
    Calls Tryz.prog 227 #[.agg #[.int .u32 lo, .int .u32 hi, .int .i32 nx, .int .i32 ny, .int .i32 dep], .agg #[.int .u32 k, .int .i32 r, .int .i32 ax, .int .i32 ay, .int .i32 m, .int .i32 o, .int .i32 px, .int .i32 py, .int .i32 vx, .int .i32 vy], .agg #[.int .u32 k', .int .i32 r', .int .i32 ax', .int .i32 ay', .int .i32 m', .int .i32 o', .int .i32 px', .int .i32 py', .int .i32 vx', .int .i32 vy']] w fun e w' =>
      e = .returned (.int .i64 (approachI ⟨lo, hi, nx, ny, dep⟩ ⟨k, r, ax, ay, m, o, px, py, vx, vy⟩ ⟨k', r', ax', ay', m', o', px', py', vx', vy'⟩)) ∧ Below w.heap.size w w' := by
  obtain ⟨⟨p0, p1⟩, q0, q1⟩ := approach_prods hc ha hb
  obtain ⟨⟨n0, n1⟩, ⟨l0, l1⟩, d0, d1⟩ := hc
  obtain ⟨_, _, ⟨a0, a1⟩, b0, b1⟩ := ha
  obtain ⟨_, _, ⟨c0, c1⟩, e0, e1⟩ := hb
  unfold approachI
  simp only at *
  go_enter Tryz.func227, Tryz.ntmps227
  go_wp2_with fail
  go_quiet (fail)
  go_wp2_with fail
  go_ret
  exact ⟨rfl, by repeat (first | with_reducible exact Below.refl _ _ | with_reducible refine bel_alloc ?_ _ | with_reducible refine bel_drewN ?_ _)⟩
set_option maxHeartbeats 1000000 in
theorem bounce_any (k r ax ay m o px py vx vy k' r' ax' ay' m' o' px' py' vx' vy' : Int) (w : World) :
    Calls Tryz.prog 228 #[.agg #[.int .u32 k, .int .i32 r, .int .i32 ax, .int .i32 ay, .int .i32 m, .int .i32 o, .int .i32 px, .int .i32 py, .int .i32 vx, .int .i32 vy], .agg #[.int .u32 k', .int .i32 r', .int .i32 ax', .int .i32 ay', .int .i32 m', .int .i32 o', .int .i32 px', .int .i32 py', .int .i32 vx', .int .i32 vy']] w fun e w' =>
      e = .returned (.int .i32 (max o o')) ∧ Below w.heap.size w w' := by
  go_enter Tryz.func228, Tryz.ntmps228
  go_wp2_with fail
  go_ret
  exact ⟨rfl, by repeat (first | with_reducible exact Below.refl _ _ | with_reducible refine bel_alloc ?_ _ | with_reducible refine bel_drewN ?_ _)⟩

set_option maxHeartbeats 1000000 in
theorem strength_any (lo hi nx ny dep k r ax ay m o px py vx vy k' r' ax' ay' m' o' px' py' vx' vy' : Int) (w : World) (hc : Con.Fit ⟨lo, hi, nx, ny, dep⟩) (ha : Sound ⟨k, r, ax, ay, m, o, px, py, vx, vy⟩) (hb : Sound ⟨k', r', ax', ay', m', o', px', py', vx', vy'⟩) :
    Calls Tryz.prog 212 #[.agg #[.int .u32 lo, .int .u32 hi, .int .i32 nx, .int .i32 ny, .int .i32 dep], .agg #[.int .u32 k, .int .i32 r, .int .i32 ax, .int .i32 ay, .int .i32 m, .int .i32 o, .int .i32 px, .int .i32 py, .int .i32 vx, .int .i32 vy], .agg #[.int .u32 k', .int .i32 r', .int .i32 ax', .int .i32 ay', .int .i32 m', .int .i32 o', .int .i32 px', .int .i32 py', .int .i32 vx', .int .i32 vy']] w fun e w' =>
      e = .returned (.int .i64 (strengthI ⟨lo, hi, nx, ny, dep⟩ ⟨k, r, ax, ay, m, o, px, py, vx, vy⟩ ⟨k', r', ax', ay', m', o', px', py', vx', vy'⟩)) ∧ Below w.heap.size w w' := by
  have hv := approach_bd hc ha hb
  have HA := fun w => approach_any lo hi nx ny dep k r ax ay m o px py vx vy k' r' ax' ay' m' o' px' py' vx' vy' w hc ha hb
  obtain ⟨m01, o01, _, _⟩ := ha
  obtain ⟨m02, o02, _, _⟩ := hb
  have hs : strengthI ⟨lo, hi, nx, ny, dep⟩ ⟨k, r, ax, ay, m, o, px, py, vx, vy⟩ ⟨k', r', ax', ay', m', o', px', py', vx', vy'⟩ = if 0 ≤ approachI ⟨lo, hi, nx, ny, dep⟩ ⟨k, r, ax, ay, m, o, px, py, vx, vy⟩ ⟨k', r', ax', ay', m', o', px', py', vx', vy'⟩ ∨ m + m' = 0 then 0 else -approachI ⟨lo, hi, nx, ny, dep⟩ ⟨k, r, ax, ay, m, o, px, py, vx, vy⟩ ⟨k', r', ax', ay', m', o', px', py', vx', vy'⟩ * (65536 + max o o') / (m + m') := rfl
  generalize strengthI ⟨lo, hi, nx, ny, dep⟩ ⟨k, r, ax, ay, m, o, px, py, vx, vy⟩ ⟨k', r', ax', ay', m', o', px', py', vx', vy'⟩ = S at *
  generalize approachI ⟨lo, hi, nx, ny, dep⟩ ⟨k, r, ax, ay, m, o, px, py, vx, vy⟩ ⟨k', r', ax', ay', m', o', px', py', vx', vy'⟩ = v at *
  simp only at m01 o01 m02 o02
  obtain ⟨v0, v1⟩ := hv
  obtain ⟨m0, m1⟩ := m01
  obtain ⟨m2, m3⟩ := m02
  obtain ⟨o0, o1⟩ := o01
  obtain ⟨o2, o3⟩ := o02
  by_cases h1 : 0 ≤ v
  · rw [if_pos (.inl h1)] at hs
    subst hs
    go_enter Tryz.func212, Tryz.ntmps212
    go_wp2_with fail
    refine (HA _).mono ?_
    rintro e w1 ⟨rfl, hb⟩
    obtain ⟨g1, rfl⟩ := Grow.of hb
    have z1 : w.heap.size + 1 < g1.world.heap.size := Nat.lt_of_lt_of_le (by simp) g1.le
    have z2 : w.heap.size + 1 + 1 < g1.world.heap.size := Nat.lt_of_lt_of_le (by simp) g1.le
    clear hb
    go_wp2_with fail
    go_ret
    exact ⟨rfl, by repeat (first | with_reducible exact Below.refl _ _ | with_reducible refine bel_alloc ?_ _ | with_reducible refine bel_drewN ?_ _ | with_reducible refine bel_grow ?_ _ | with_reducible refine bel_set ?_ (by first | omega | (simp; done) | (simp; omega)) _)⟩
  · by_cases h2 : m + m' = 0
    · rw [if_pos (.inr h2)] at hs
      subst hs
      have h2' : (m + m' == 0) = true := by simpa using h2
      go_enter Tryz.func212, Tryz.ntmps212
      go_wp2_with fail
      refine (HA _).mono ?_
      rintro e w1 ⟨rfl, hb⟩
      obtain ⟨g1, rfl⟩ := Grow.of hb
      have z1 : w.heap.size + 1 < g1.world.heap.size := Nat.lt_of_lt_of_le (by simp) g1.le
      have z2 : w.heap.size + 1 + 1 < g1.world.heap.size := Nat.lt_of_lt_of_le (by simp) g1.le
      clear hb
      go_wp2_with fail
      go_ret
      exact ⟨rfl, by repeat (first | with_reducible exact Below.refl _ _ | with_reducible refine bel_alloc ?_ _ | with_reducible refine bel_drewN ?_ _ | with_reducible refine bel_grow ?_ _ | with_reducible refine bel_set ?_ (by first | omega | (simp; done) | (simp; omega)) _)⟩
    · rw [if_neg (by omega)] at hs
      subst hs
      have h2' : (m + m' == 0) = false := by simpa using h2
      have hp := mul_abs (x := -v) (y := 65536 + max o o') (X := 2199023255552) (Y := 131072) (by omega) (by omega) (by omega) (by omega)
      obtain ⟨hp0, hp1⟩ := hp
      have HP := Lib.hid (And.intro hp0 hp1)
      clear hp0 hp1
      go_enter Tryz.func212, Tryz.ntmps212
      go_wp2_with fail
      refine (HA _).mono ?_
      rintro e w1 ⟨rfl, hb⟩
      obtain ⟨g1, rfl⟩ := Grow.of hb
      have z1 : w.heap.size + 1 < g1.world.heap.size := Nat.lt_of_lt_of_le (by simp) g1.le
      have z2 : w.heap.size + 1 + 1 < g1.world.heap.size := Nat.lt_of_lt_of_le (by simp) g1.le
      clear hb
      go_wp2_with fail
      refine (bounce_any _ _ _ _ _ _ _ _ _ _ _ _ _ _ _ _ _ _ _ _ _).mono ?_
      rintro e w1 ⟨rfl, hb⟩
      obtain ⟨g2, rfl⟩ := Grow.of hb
      clear hb
      go_wp2_with fail
      refine (mulDiv_any _ _ _ _ (by omega) (by omega) (by omega) (by omega) (by omega) (by omega) (by have := HP.out; omega) (by have := HP.out; omega)).mono ?_
      rintro e w1 ⟨rfl, hb⟩
      obtain ⟨g3, rfl⟩ := Grow.of hb
      clear hb
      go_wp2_with fail
      go_ret
      exact ⟨rfl, by repeat (first | with_reducible exact Below.refl _ _ | with_reducible refine bel_alloc ?_ _ | with_reducible refine bel_drewN ?_ _ | with_reducible refine bel_grow ?_ _ | with_reducible refine bel_set ?_ (by first | omega | (simp; done) | (simp; omega)) _)⟩

set_option maxHeartbeats 1000000 in
theorem along_any (n K : Int) (b : Nat) (w : World) (hb : w.cell? ⟨b, 0, none⟩ = some (.int .i64 K)) (k0 : -4611686018427387904 ≤ K) (k1 : K ≤ 4611686018427387904) (n0 : -2147483648 ≤ n) (n1 : n ≤ 2147483647) (p0 : -302231454903657293676544 ≤ K * n) (p1 : K * n ≤ 302231454903657293676543) :
    Calls Tryz.prog 230 #[.int .i32 n, .pointer (some ⟨b, 0, none⟩)] w fun e w' => e = .returned (.int .i64 (K * n / 65536)) ∧ w' = w := by
  have HS := fun w => shifted_any K n w (by omega) (by omega) (by omega) (by omega) p0 p1
  clear p0 p1
  go_enter Tryz.func230, Tryz.ntmps230
  go_wp2_with fail
  refine (HS _).mono ?_
  rintro e w' ⟨rfl, rfl⟩
  go_wp2_with fail
  go_ret
  exact ⟨rfl, rfl⟩

theorem along_b (n K : Int) (b : Nat) (w : World) (hb : w.cell? ⟨b, 0, none⟩ = some (.int .i64 K)) (k0 : -4611686018427387904 ≤ K) (k1 : K ≤ 4611686018427387904) (n0 : -2147483648 ≤ n) (n1 : n ≤ 2147483647) (p0 : -302231454903657293676544 ≤ K * n) (p1 : K * n ≤ 302231454903657293676543) :
    Calls Tryz.prog 230 #[.int .i32 n, .pointer (some ⟨b, 0, none⟩)] w fun e w' => e = .returned (.int .i64 (K * n / 65536)) ∧ Below w.heap.size w w' := (along_any n K b w hb k0 k1 n0 n1 p0 p1).mono (fun _ _ ⟨h1, h2⟩ => ⟨h1, by subst h2; exact Below.refl _ _⟩)
set_option maxHeartbeats 1000000 in
theorem change_any (j m nx ny : Int) (w : World) (j0 : 0 ≤ j) (j1 : j ≤ 288230376151711744) (m0 : 0 ≤ m) (m1 : m ≤ 1048576) (p0 : 0 ≤ j * m) (p1 : j * m ≤ 288230376151711744) (n0 : -2147483648 ≤ nx) (n1 : nx ≤ 2147483647) (n2 : -2147483648 ≤ ny) (n3 : ny ≤ 2147483647) :
    Calls Tryz.prog 213 #[.int .i64 j, .int .i32 m, .agg #[.int .i32 nx, .int .i32 ny]] w fun e w' => e = .returned (.tuple #[.int .i64 (changeI j m nx), .int .i64 (changeI j m ny)]) ∧ Below w.heap.size w w' := by
  have hx := change_bd p0 p1 n0 n1
  have hy := change_bd p0 p1 n2 n3
  unfold changeI at *
  have HS := fun w => shifted_any j m w (by omega) (by omega) (by omega) (by omega) (by omega) (by omega)
  obtain ⟨K, hK⟩ : ∃ K, j * m / 65536 = K := ⟨_, rfl⟩
  have k0 : 0 ≤ K := by omega
  have k1 : K ≤ 4398046511104 := by omega
  rw [hK] at hx hy ⊢
  have HK := Lib.hid hK
  have HX := Lib.hid hx
  have HY := Lib.hid hy
  clear hx hy hK p0 p1
  go_enter Tryz.func213, Tryz.ntmps213
  go_wp2_with fail
  refine (HS _).mono ?_
  rintro e w' ⟨rfl, rfl⟩
  rw [HK.out]
  go_wp2_with fail
  refine wp_region_grow (by kernel_rfl) (by kernel_rfl) ?_
  repeat (first | go_big_quiet_skip | (go_big_quiet_want; go_big_quiet_op; first | go_big_quiet_on | (go_big_quiet_call (
    (go_at_call 230; exact Calls.grow_of (along_b _ K _ _ (Grow.keep _ (by simp [go_sem])) (by omega) (by omega) (by omega) (by omega) (by first | (have := HX.out; omega) | (have := HY.out; omega)) (by first | (have := HX.out; omega) | (have := HY.out; omega))))))))
  refine wpQuiet_nil ?_
  rintro _ ⟨g, rfl⟩
  go_wp2_with fail
  go_ret2
  exact ⟨rfl, by repeat (first | with_reducible exact Below.refl _ _ | with_reducible refine bel_alloc ?_ _ | with_reducible refine bel_drewN ?_ _ | with_reducible refine bel_grow ?_ _ | with_reducible refine bel_set ?_ (by first | omega | (simp; done) | (simp; omega)) _)⟩
end Go.Proofs.YtnhaiecbjipodaaGreatDoor
