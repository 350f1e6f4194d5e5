/- The contracts of the references on points. -/
import Derived.Test.YtnhaiecbjipodaaGreatDoorE03
import Derived.Test.YtnhaiecbjipodaaGreatDoorB08
namespace Go.Proofs.YtnhaiecbjipodaaGreatDoor
open Go.RowKit
attribute [local go_sem] Grow.cell Grow.froz Grow.lt lt_s1 lt_s2 lt_s3 lt_s4 lt_s5
theorem refLim_any (n l h : Int) (w : World) (hlh : l ≤ h) : Calls Tryz.prog 194 #[.int .i64 n, .int .i64 l, .int .i64 h] w fun e w' => e = .returned (.int .i64 (max l (min n h))) ∧ w' = w := by
  go_enter Tryz.func194, Tryz.ntmps194
  go_wp2
  all_goals
    go_ret
    exact ⟨ret_int (by omega), rfl⟩
set_option maxHeartbeats 1000000 in
theorem refSquare_any (px py qx qy : Int) (w : World) (hp : InV (px, py)) (hq : InV (qx, qy)) (h : CloseV (px, py) (qx, qy)) :
    Calls Tryz.prog 166 #[.agg #[.int .i32 px, .int .i32 py], .agg #[.int .i32 qx, .int .i32 qy]] w fun e w' => e = .returned (.int .i64 (paramD (px, py) (qx, qy))) ∧ Below w.heap.size w w' := by
  obtain ⟨⟨s0, s1⟩, ⟨t0, t1⟩, _, _⟩ := param_bd hp hp h
  obtain ⟨⟨a0, a1⟩, a2, a3⟩ := hp
  obtain ⟨⟨b0, b1⟩, b2, b3⟩ := hq
  unfold paramD
  simp only at *
  clear h
  go_enter Tryz.func166, Tryz.ntmps166
  go_wp2
  go_ret
  exact ⟨rfl, (by repeat (first | with_reducible exact Below.refl _ _ | with_reducible refine bel_alloc ?_ _ | with_reducible refine bel_drewN ?_ _ | with_reducible refine bel_drew ?_ | with_reducible refine bel_grow ?_ _ | with_reducible refine bel_set ?_ (by first | omega | (simp; done) | (simp; omega)) _))⟩
set_option maxHeartbeats 1000000 in
theorem refParam_any (px py qx qy cx cy : Int) (w : World) (hp : InV (px, py)) (hq : InV (qx, qy)) (hc : InV (cx, cy)) (h : CloseV (px, py) (qx, qy)) :
    Calls Tryz.prog 167 #[.agg #[.int .i32 px, .int .i32 py], .agg #[.int .i32 qx, .int .i32 qy], .agg #[.int .i32 cx, .int .i32 cy]] w fun e w' => e = .returned (.int .i64 (paramN (px, py) (qx, qy) (cx, cy))) ∧ Below w.heap.size w w' := by
  have HS := Lib.hid fun W => refSquare_any px py qx qy W hp hq h
  have h0 := paramD_nonneg (px, py) (qx, qy)
  obtain ⟨_, _, ⟨u0, u1⟩, v0, v1⟩ := param_bd hp hc h
  obtain ⟨⟨a0, a1⟩, a2, a3⟩ := hp
  obtain ⟨⟨b0, b1⟩, b2, b3⟩ := hq
  obtain ⟨⟨c0, c1⟩, c2, c3⟩ := hc
  unfold paramN paramR
  generalize paramD (px, py) (qx, qy) = D at *
  simp only at *
  clear h
  go_enter Tryz.func167, Tryz.ntmps167
  go_wp2_with fail
  refine (HS.out _).mono ?_
  rintro e w1 ⟨rfl, hb⟩
  obtain ⟨g1, rfl⟩ := Grow.of hb
  clear hb
  go_wp2_with fail
  refine (refLim_any _ _ _ _ h0).mono ?_
  rintro e w' ⟨rfl, rfl⟩
  go_wp2_with fail
  go_ret
  exact ⟨rfl, (by repeat (first | with_reducible exact Below.refl _ _ | with_reducible refine bel_alloc ?_ _ | with_reducible refine bel_drewN ?_ _ | with_reducible refine bel_drew ?_ | with_reducible refine bel_grow ?_ _ | with_reducible refine bel_set ?_ (by first | omega | (simp; done) | (simp; omega)) _))⟩
set_option maxHeartbeats 1000000 in
theorem refNear_any (px py qx qy cx cy : Int) (w : World) (hp : InV (px, py)) (hq : InV (qx, qy)) (hc : InV (cx, cy)) (h : CloseV (px, py) (qx, qy)) :
    Calls Tryz.prog 146 #[.agg #[.int .i32 px, .int .i32 py], .agg #[.int .i32 qx, .int .i32 qy], .agg #[.int .i32 cx, .int .i32 cy]] w fun e w' => e = .returned (.agg #[.int .i32 (nearI (px, py) (qx, qy) (cx, cy)).1, .int .i32 (nearI (px, py) (qx, qy) (cx, cy)).2]) ∧ Below w.heap.size w w' := by
  have HP := Lib.hid fun w => refParam_any px py qx qy cx cy w hp hq hc h
  have HQ := Lib.hid fun w => refSquare_any px py qx qy w hp hq h
  have hD0 := paramD_nonneg (px, py) (qx, qy)
  obtain ⟨n0, n1⟩ := paramN_bd (p := (px, py)) (q := (qx, qy)) (c := (cx, cy)) hD0
  obtain ⟨⟨s0, s1⟩, ⟨t0, t1⟩, _, _⟩ := param_bd hp hc h
  have hD1 : paramD (px, py) (qx, qy) ≤ 4611686018427387904 := by unfold paramD; omega
  have HN : nearI (px, py) (qx, qy) (cx, cy) = if paramD (px, py) (qx, qy) = 0 then (px, py) else (px + (qx - px) * paramN (px, py) (qx, qy) (cx, cy) / paramD (px, py) (qx, qy), py + (qy - py) * paramN (px, py) (qx, qy) (cx, cy) / paramD (px, py) (qx, qy)) := rfl
  clear s0 s1 t0 t1
  generalize paramD (px, py) (qx, qy) = D at *
  generalize paramN (px, py) (qx, qy) (cx, cy) = n at *
  generalize nearI (px, py) (qx, qy) (cx, cy) = r at *
  obtain ⟨⟨a0, a1⟩, a2, a3⟩ := hp
  obtain ⟨⟨b0, b1⟩, b2, b3⟩ := hq
  obtain ⟨⟨c0, c1⟩, c2, c3⟩ := hc
  obtain ⟨⟨d0, d1⟩, d2, d3⟩ := h
  simp only at *
  by_cases hz : D = 0
  · rw [if_pos hz] at HN
    subst HN hz
    go_enter Tryz.func146, Tryz.ntmps146
    go_wp2_with fail
    refine (HQ.out _).mono ?_
    rintro e w1 ⟨rfl, hb⟩
    obtain ⟨g1, rfl⟩ := Grow.of hb
    clear hb
    have zz1 : w.heap.size < g1.world.heap.size := Nat.lt_of_lt_of_le (by first | omega | (simp; done) | (simp; omega)) g1.le
    have zz2 : w.heap.size + 1 + 1 + 1 < g1.world.heap.size := Nat.lt_of_lt_of_le (by first | omega | (simp; done) | (simp; omega)) g1.le
    go_wp2_with fail
    refine bodyPost_ret (v := .agg #[.int .i32 px, .int .i32 py]) (by simp [results, Tryz.results146, go_sem, *]) rfl ⟨rfl, ?_⟩
    exact (by repeat (first | with_reducible exact Below.refl _ _ | with_reducible refine bel_alloc ?_ _ | with_reducible refine bel_drewN ?_ _ | with_reducible refine bel_drew ?_ | with_reducible refine bel_grow ?_ _ | with_reducible refine bel_set ?_ (by first | omega | (simp; done) | (simp; omega)) _))
  · rw [if_neg hz] at HN
    subst HN
    have hz' : (D == 0) = false := by simpa using hz
    have hD2 : 0 < D := by omega
    have bx := part_bd (d := qx - px) n0 n1 hD2 (by omega) (by omega)
    have by' := part_bd (d := qy - py) n0 n1 hD2 (by omega) (by omega)
    have HX := Lib.hid fun W => muldiv_any (qx - px) n D W (by omega) (by omega) (by omega) (by omega) hD2 (by omega) (by omega) (by omega)
    have HY := Lib.hid fun W => muldiv_any (qy - py) n D W (by omega) (by omega) (by omega) (by omega) hD2 (by omega) (by omega) (by omega)
    obtain ⟨_, x0, x1⟩ := bx
    obtain ⟨_, y0, y1⟩ := by'
    generalize (qx - px) * n / D = x at *
    generalize (qy - py) * n / D = y at *
    go_enter Tryz.func146, Tryz.ntmps146
    go_wp2_with fail
    refine (HQ.out _).mono ?_
    rintro e w1 ⟨rfl, hb⟩
    obtain ⟨g1, rfl⟩ := Grow.of hb
    clear hb
    have zz3 : w.heap.size < g1.world.heap.size := Nat.lt_of_lt_of_le (by first | omega | (simp; done) | (simp; omega)) g1.le
    have zz4 : w.heap.size + 1 < g1.world.heap.size := Nat.lt_of_lt_of_le (by first | omega | (simp; done) | (simp; omega)) g1.le
    have zz5 : w.heap.size + 1 + 1 < g1.world.heap.size := Nat.lt_of_lt_of_le (by first | omega | (simp; done) | (simp; omega)) g1.le
    have zz6 : w.heap.size + 1 + 1 + 1 < g1.world.heap.size := Nat.lt_of_lt_of_le (by first | omega | (simp; done) | (simp; omega)) g1.le
    go_wp2_with fail
    refine (HP.out _).mono ?_
    rintro e w1 ⟨rfl, hb⟩
    obtain ⟨g2, rfl⟩ := Grow.of hb
    clear hb
    have zz7 : w.heap.size < g2.world.heap.size := Nat.lt_of_lt_of_le (by first | omega | (simp; done) | (simp; omega)) g2.le
    have zz8 : w.heap.size + 1 < g2.world.heap.size := Nat.lt_of_lt_of_le (by first | omega | (simp; done) | (simp; omega)) g2.le
    have zz9 : w.heap.size + 1 + 1 < g2.world.heap.size := Nat.lt_of_lt_of_le (by first | omega | (simp; done) | (simp; omega)) g2.le
    have zz10 : w.heap.size + 1 + 1 + 1 < g2.world.heap.size := Nat.lt_of_lt_of_le (by first | omega | (simp; done) | (simp; omega)) g2.le
    go_wp2_with fail
    refine (HX.out _).mono ?_
    rintro e w1 ⟨rfl, hb⟩
    obtain ⟨g3, rfl⟩ := Grow.of hb
    clear hb
    have zz11 : w.heap.size < g3.world.heap.size := Nat.lt_of_lt_of_le (by first | omega | (simp; done) | (simp; omega)) g3.le
    have zz12 : w.heap.size + 1 < g3.world.heap.size := Nat.lt_of_lt_of_le (by first | omega | (simp; done) | (simp; omega)) g3.le
    have zz13 : w.heap.size + 1 + 1 < g3.world.heap.size := Nat.lt_of_lt_of_le (by first | omega | (simp; done) | (simp; omega)) g3.le
    have zz14 : w.heap.size + 1 + 1 + 1 < g3.world.heap.size := Nat.lt_of_lt_of_le (by first | omega | (simp; done) | (simp; omega)) g3.le
    go_wp2_with fail
    refine (HY.out _).mono ?_
    rintro e w1 ⟨rfl, hb⟩
    obtain ⟨g4, rfl⟩ := Grow.of hb
    clear hb
    have zz15 : w.heap.size < g4.world.heap.size := Nat.lt_of_lt_of_le (by first | omega | (simp; done) | (simp; omega)) g4.le
    have zz16 : w.heap.size + 1 < g4.world.heap.size := Nat.lt_of_lt_of_le (by first | omega | (simp; done) | (simp; omega)) g4.le
    have zz17 : w.heap.size + 1 + 1 < g4.world.heap.size := Nat.lt_of_lt_of_le (by first | omega | (simp; done) | (simp; omega)) g4.le
    have zz18 : w.heap.size + 1 + 1 + 1 < g4.world.heap.size := Nat.lt_of_lt_of_le (by first | omega | (simp; done) | (simp; omega)) g4.le
    have c0 : g4.world.cell? ⟨w.heap.size + 1 + 1 + 1, 0, none⟩ = some (.int .i32 0) := by simp [go_sem, *]
    have c1 : g4.world.cell? ⟨w.heap.size + 1 + 1 + 1, 1, none⟩ = some (.int .i32 0) := by simp [go_sem, *]
    go_wp2_with fail
    refine bodyPost_ret (v := .agg #[.int .i32 (px + x), .int .i32 (py + y)]) (by simp [results, Tryz.results146, go_sem, *]) rfl ⟨rfl, ?_⟩
    exact (by repeat (first | with_reducible exact Below.refl _ _ | with_reducible refine bel_alloc ?_ _ | with_reducible refine bel_drewN ?_ _ | with_reducible refine bel_drew ?_ | with_reducible refine bel_grow ?_ _ | with_reducible refine bel_set ?_ (by first | omega | (simp; done) | (simp; omega)) _))
end Go.Proofs.YtnhaiecbjipodaaGreatDoor
