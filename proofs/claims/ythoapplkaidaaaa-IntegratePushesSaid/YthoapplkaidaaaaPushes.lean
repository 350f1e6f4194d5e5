/- The walk of IntegratePushes. -/
import Derived.Test.YthoapplkaidaaaaPure19
namespace Go.Proofs.Ythoapplkaidaaaa
open Go.RowKit
attribute [local go_sem] Grow.cell Grow.froz Grow.lt
attribute [local go_sem high] body_eq

theorem eqB_self (b : Body) : eqB b b = true := by simp [eqB, eqV]
attribute [local go_sem] eqB_self
theorem shr_zero : (0 : Int) / 65536 = 0 := by decide

theorem pushV_zero {v m : Int} : pushV v 0 m = v := by unfold pushV; simp
theorem pushV_still {v j : Int} : pushV v j 0 = v := by unfold pushV; simp
theorem clampI_in {n l : Int} (h0 : -l ≤ n) (h1 : n ≤ l) : clampI n l = n := by unfold clampI; omega

set_option maxHeartbeats 8000000 in
theorem pushes_walk (k r ax ay m o px py vx vy x y a c : Int) (w : World) (hE : errOf ⟨k, r, ax, ay, m, o, px, py, vx, vy⟩ = 0) (hE2 : errOf ⟨k, r, ax, ay, m, o, px, py, a, c⟩ = 0)
    (hp : pushB ⟨k, r, ax, ay, m, o, px, py, vx, vy⟩ x y = ⟨k, r, ax, ay, m, o, px, py, a, c⟩) (hz : pushB ⟨k, r, ax, ay, m, o, px, py, vx, vy⟩ 0 0 = ⟨k, r, ax, ay, m, o, px, py, vx, vy⟩) (hc : pushC ⟨k, r, ax, ay, m, o, px, py, vx, vy⟩ 0 0 = false)
    (hs : ¬ 0 < m → a = vx ∧ c = vy)
    (m0 : 0 ≤ m) (m1 : m ≤ 1048576) (v0 : -16777216 ≤ vx) (v1 : vx ≤ 16777216) (u0 : -16777216 ≤ vy) (u1 : vy ≤ 16777216) (x0 : -2147483648 ≤ x) (x1 : x ≤ 2147483647) (y0 : -2147483648 ≤ y) (y1 : y ≤ 2147483647) :
    Calls Try.prog 6 #[.agg #[.int .u32 k, .int .i32 r, .int .i32 ax, .int .i32 ay, .int .i32 m, .int .i32 o, .int .i32 px, .int .i32 py, .int .i32 vx, .int .i32 vy], .agg #[.int .i32 x, .int .i32 y]] w fun e w' => e = .returned (.bool true) ∧ Below w.heap.size w w' := by
  have E2 := Lib.hid hE2
  have HP := Lib.hid hp
  have HZ := Lib.hid hz
  have HC := Lib.hid hc
  have HS := Lib.hid hs
  clear hE2 hp hz hc hs
  go_enter Try.func6, Try.ntmps6
  go_wp2_with fail
  refine (awake19_any _).mono ?_
  rintro e w1 ⟨rfl, hb⟩
  obtain ⟨g1, rfl⟩ := Grow.of hb
  have l1 : w.heap.size < g1.world.heap.size := Nat.lt_of_lt_of_le (by simp; omega) g1.le
  have m1' : w.heap.size + 1 < g1.world.heap.size := Nat.lt_of_lt_of_le (by simp) g1.le
  clear hb
  go_wp2_with fail
  refine (refCheck_fl _ _ _ _ _ _ _ _ _ _ _).mono ?_
  rintro e w1 ⟨rfl, hb⟩
  obtain ⟨g2, rfl⟩ := Grow.of hb
  have l2 : w.heap.size < g2.world.heap.size := Nat.lt_of_lt_of_le l1 g2.le
  have m2' : w.heap.size + 1 < g2.world.heap.size := Nat.lt_of_lt_of_le m1' g2.le
  clear hb
  go_wp2_with fail
  refine (push_any _ _ _ _ _ _ _ _ _ _ _ _ _ m0 m1 v0 v1 u0 u1 x0 x1 y0 y1).mono ?_
  rintro e w1 ⟨he, hb⟩
  rw [HP.out] at he
  obtain ⟨f, hf⟩ : ∃ f, f = pushC ⟨k, r, ax, ay, m, o, px, py, vx, vy⟩ x y := ⟨_, rfl⟩
  rw [← hf] at he
  have he' : e = .returned (.tuple #[.agg #[.int .u32 k, .int .i32 r, .int .i32 ax, .int .i32 ay, .int .i32 m, .int .i32 o, .int .i32 px, .int .i32 py, .int .i32 a, .int .i32 c], .bool f]) := he
  subst he'
  obtain ⟨g3, rfl⟩ := Grow.of hb
  have l3 : w.heap.size < g3.world.heap.size := Nat.lt_of_lt_of_le l2 g3.le
  have m3' : w.heap.size + 1 < g3.world.heap.size := Nat.lt_of_lt_of_le m2' g3.le
  have l3' : w.heap.size < g3.world.heap.size + 1 := by omega
  clear hb he hf
  go_wp2_with fail
  refine (push_any _ _ _ _ _ _ _ _ _ _ _ _ _ m0 m1 v0 v1 u0 u1 (by decide) (by decide) (by decide) (by decide)).mono ?_
  rintro e w1 ⟨he, hb⟩
  rw [HZ.out, HC.out] at he
  have he' : e = .returned (.tuple #[.agg #[.int .u32 k, .int .i32 r, .int .i32 ax, .int .i32 ay, .int .i32 m, .int .i32 o, .int .i32 px, .int .i32 py, .int .i32 vx, .int .i32 vy], .bool false]) := he
  subst he'
  obtain ⟨g4, rfl⟩ := Grow.of hb
  have l4 : w.heap.size < g4.world.heap.size := Nat.lt_of_lt_of_le (by simp; omega) g4.le
  have n4 : g3.world.heap.size < g4.world.heap.size := Nat.lt_of_lt_of_le (by simp) g4.le
  have l5 : w.heap.size < g4.world.heap.size + 1 := by omega
  have l6 : w.heap.size < g4.world.heap.size + 1 + 1 := by omega
  have n5 : g3.world.heap.size < g4.world.heap.size + 1 := by omega
  have n6 : g3.world.heap.size < g4.world.heap.size + 1 + 1 := by omega
  clear hb he
  go_wp2_with fail

  refine (refCheck_fl _ _ _ _ _ _ _ _ _ _ _).mono ?_
  rintro e w1 ⟨he, hb⟩
  rw [E2.out] at he
  subst he
  obtain ⟨g5, rfl⟩ := Grow.of hb
  have l7 : w.heap.size < g5.world.heap.size := Nat.lt_of_lt_of_le (by simp; omega) g5.le
  have n7 : g3.world.heap.size < g5.world.heap.size := Nat.lt_of_lt_of_le (by simp; omega) g5.le
  have o7 : g4.world.heap.size < g5.world.heap.size := Nat.lt_of_lt_of_le (by simp; omega) g5.le
  have p7 : g4.world.heap.size + 1 < g5.world.heap.size := Nat.lt_of_lt_of_le (by simp) g5.le
  have C5 : Below w.heap.size w g5.world := bel_grow (bel_alloc (bel_alloc (bel_grow (bel_alloc (bel_grow (bel_grow (bel_grow (bel_alloc (new_ok (w := w) _) _) g1) g2) g3) _) g4) _) _) g5
  have C6 := Lib.hid C5
  clear C5 hb
  by_cases hm : 0 < m
  · go_wp2
    go_ret
    exact ⟨rfl, C6.out⟩
  · obtain ⟨rfl, rfl⟩ := HS.out (by omega)
    go_wp2
    go_ret
    exact ⟨rfl, C6.out⟩

set_option maxHeartbeats 8000000 in
theorem pushes_not (k r ax ay m o px py vx vy x y : Int) (w : World) (hE : (errOf ⟨k, r, ax, ay, m, o, px, py, vx, vy⟩ == 0) = false) :
    Calls Try.prog 6 #[.agg #[.int .u32 k, .int .i32 r, .int .i32 ax, .int .i32 ay, .int .i32 m, .int .i32 o, .int .i32 px, .int .i32 py, .int .i32 vx, .int .i32 vy], .agg #[.int .i32 x, .int .i32 y]] w fun e w' => e = .returned (.bool true) ∧ Below w.heap.size w w' := by
  have hE' : ¬ errOf ⟨k, r, ax, ay, m, o, px, py, vx, vy⟩ = 0 := by simpa using hE
  have hE2 : (errOf ⟨k, r, ax, ay, m, o, px, py, vx, vy⟩ != 0) = true := by simpa using hE
  go_enter Try.func6, Try.ntmps6
  go_wp2_with fail
  refine (awake19_any _).mono ?_
  rintro e w1 ⟨rfl, hb⟩
  obtain ⟨g1, rfl⟩ := Grow.of hb
  have l1 : w.heap.size < g1.world.heap.size := Nat.lt_of_lt_of_le (by simp; omega) g1.le
  have m1' : w.heap.size + 1 < g1.world.heap.size := Nat.lt_of_lt_of_le (by simp) g1.le
  clear hb
  go_wp2_with fail
  refine (refCheck_fl _ _ _ _ _ _ _ _ _ _ _).mono ?_
  rintro e w1 ⟨rfl, hb⟩
  obtain ⟨g2, rfl⟩ := Grow.of hb
  clear hb
  go_wp2_with fail
  refine (awake19_any _).mono ?_
  rintro e w1 ⟨rfl, hb⟩
  obtain ⟨g3, rfl⟩ := Grow.of hb
  clear hb
  go_wp2_with fail
  go_ret
  exact ⟨rfl, bel_grow (bel_grow (bel_grow (bel_alloc (new_ok _) _) g1) g2) g3⟩

theorem pushes_all (b : Body) (_ : b.Fit) (x y : Int) (hx : I32 x) (hy : I32 y) (w : World) :
    Calls Try.prog 6 #[.agg b.cells, .agg #[.int .i32 x, .int .i32 y]] w fun e w' => e = .returned (.bool true) ∧ Below w.heap.size w w' := by
  by_cases hE : errOf b = 0
  · have hz := errOf_zero.1 hE
    have hx' := hx
    have hy' := hy
    unfold I32 at hx' hy'
    have e1 := clampI_le (n := pushV b.vx x b.inv) (l := 16777216) (by omega)
    have e2 := clampI_le (n := pushV b.vy y b.inv) (l := 16777216) (by omega)
    have i1 : clampI b.vx 16777216 = b.vx := clampI_in (by omega) (by omega)
    have i2 : clampI b.vy 16777216 = b.vy := clampI_in (by omega) (by omega)
    refine pushes_walk b.key b.radius b.ax b.ay b.inv b.bounce b.px b.py b.vx b.vy x y (clampI (pushV b.vx x b.inv) 16777216) (clampI (pushV b.vy y b.inv) 16777216) w hE ?_ rfl ?_ ?_ ?_ (by omega) (by omega) (by omega) (by omega) (by omega) (by omega) (by omega) (by omega) (by omega) (by omega)
    · exact errOf_zero.2 (by simp only; omega)
    · simp [pushB, pushV_zero, i1, i2]
    · simp [pushC, pushV_zero, i1, i2]
    · intro hm
      have h0 : b.inv = 0 := by omega
      rw [h0, pushV_still, pushV_still, i1, i2]
      exact ⟨rfl, rfl⟩
  · exact pushes_not b.key b.radius b.ax b.ay b.inv b.bounce b.px b.py b.vx b.vy x y w (by simpa using hE)
end Go.Proofs.Ythoapplkaidaaaa
