/- Contracts of the program's functions, by walks, and plain facts beside them: Point, Segment. -/
import Derived.Test.YtnhaiecbjipodaaGreatDoorB02
import Derived.Test.YtnhaiecbjipodaaGreatDoorB07
/- The contracts of the packages point and segment. -/
namespace Go.Proofs.YtnhaiecbjipodaaGreatDoor
open Go.RowKit
attribute [local go_sem] Grow.cell Grow.froz Grow.lt lt_s1 lt_s2 lt_s3 lt_s4 lt_s5

set_option maxHeartbeats 1000000 in
theorem param_any (px py qx qy cx cy : Int) (w : World) (hp : InV (px, py)) (hq : InV (qx, qy)) (hc : InV (cx, cy)) (h : CloseV (px, py) (qx, qy)) :
    Calls Tryz.prog 246 #[.agg #[.int .i32 px, .int .i32 py], .agg #[.int .i32 qx, .int .i32 qy], .agg #[.int .i32 cx, .int .i32 cy]] w fun e w' => e = .returned (.tuple #[.int .i64 (paramN (px, py) (qx, qy) (cx, cy)), .int .i64 (paramD (px, py) (qx, qy))]) ∧ Below w.heap.size w w' := by
  obtain ⟨⟨s0, s1⟩, ⟨t0, t1⟩, ⟨u0, u1⟩, v0, v1⟩ := param_bd hp hc h
  obtain ⟨⟨a0, a1⟩, a2, a3⟩ := hp
  obtain ⟨⟨b0, b1⟩, b2, b3⟩ := hq
  obtain ⟨⟨c0, c1⟩, c2, c3⟩ := hc
  unfold paramN paramR paramD
  simp only at *
  clear h
  go_enter Tryz.func246, Tryz.ntmps246
  go_wp2_with fail
  refine (diff_any _ _ _ _ _ ⟨by omega, by omega⟩ ⟨by omega, by omega⟩ ⟨by omega, by omega⟩ ⟨by omega, by omega⟩).mono ?_
  rintro e w1 ⟨rfl, hb⟩
  obtain ⟨g1, rfl⟩ := Grow.of hb
  have z1 : w.heap.size < g1.world.heap.size := Nat.lt_of_lt_of_le (by simp; omega) g1.le
  have z2 : w.heap.size + 1 + 1 < g1.world.heap.size := Nat.lt_of_lt_of_le (by simp) g1.le
  clear hb
  go_wp2_with fail
  refine (diff_any _ _ _ _ _ ⟨by omega, by omega⟩ ⟨by omega, by omega⟩ ⟨by omega, by omega⟩ ⟨by omega, by omega⟩).mono ?_
  rintro e w1 ⟨rfl, hb⟩
  obtain ⟨g2, rfl⟩ := Grow.of hb
  clear hb
  go_wp2_with fail
  all_goals
    go_ret2
    refine ⟨?_, by repeat (first | with_reducible exact Below.refl _ _ | with_reducible refine bel_alloc ?_ _ | with_reducible refine bel_grow ?_ _)⟩
    rfl

theorem nearPart_any (x d n D : Int) (b c : Nat) (w : World) (hb : w.cell? ⟨b, 0, none⟩ = some (.int .i64 n)) (hc : w.cell? ⟨c, 0, none⟩ = some (.int .i64 D)) (n0 : 0 ≤ n) (n1 : n ≤ D) (hD : 0 < D) (hD2 : D ≤ 4611686018427387904) (d0 : -16777216 ≤ d) (d1 : d ≤ 16777216) (x0 : -1082130432 ≤ x) (x1 : x ≤ 1082130432) :
    Calls Tryz.prog 247 #[.int .i32 x, .int .i64 d, .pointer (some ⟨b, 0, none⟩), .pointer (some ⟨c, 0, none⟩)] w fun e w' => e = .returned (.int .i32 (x + d * n / D)) ∧ Below w.heap.size w w' := by
  obtain ⟨⟨p0, p1⟩, q0, q1⟩ := part_bd (d := d) n0 n1 hD d0 d1
  have HM := fun w => mulDiv_any d n D w (by omega) (by omega) n0 (by omega) hD (by omega) (by omega) (by omega)
  have r0 : -16777216 ≤ d * n / D := by omega
  have r1 : d * n / D ≤ 16777216 := by omega
  clear p0 p1 q0 q1
  go_enter Tryz.func247, Tryz.ntmps247
  go_wp2_with fail
  refine (HM _).mono ?_
  rintro e w1 ⟨rfl, hb⟩
  obtain ⟨g1, rfl⟩ := Grow.of hb
  clear hb
  go_wp2_with fail
  go_ret
  exact ⟨rfl, by repeat (first | with_reducible exact Below.refl _ _ | with_reducible refine bel_alloc ?_ _ | with_reducible refine bel_drewN ?_ _ | with_reducible refine bel_drew ?_ | with_reducible refine bel_grow ?_ _ | with_reducible refine bel_set ?_ (by first | omega | (simp; done) | (simp; omega)) _)⟩

set_option maxHeartbeats 1000000 in
theorem nearest_any (px py qx qy cx cy : Int) (w : World) (hp : InV (px, py)) (hq : InV (qx, qy)) (hc : InV (cx, cy)) (h : CloseV (px, py) (qx, qy)) :
    Calls Tryz.prog 241 #[.agg #[.int .i32 px, .int .i32 py], .agg #[.int .i32 qx, .int .i32 qy], .agg #[.int .i32 cx, .int .i32 cy]] w fun e w' => e = .returned (.agg #[.int .i32 (nearI (px, py) (qx, qy) (cx, cy)).1, .int .i32 (nearI (px, py) (qx, qy) (cx, cy)).2]) ∧ Below w.heap.size w w' := by
  have HP := fun w => param_any px py qx qy cx cy w hp hq hc h
  have hD0 := paramD_nonneg (px, py) (qx, qy)
  obtain ⟨n0, n1⟩ := paramN_bd (p := (px, py)) (q := (qx, qy)) (c := (cx, cy)) hD0
  obtain ⟨⟨s0, s1⟩, ⟨t0, t1⟩, _, _⟩ := param_bd hp hc h
  have hD1 : paramD (px, py) (qx, qy) ≤ 4611686018427387904 := by unfold paramD; omega
  have HN : nearI (px, py) (qx, qy) (cx, cy) = if paramD (px, py) (qx, qy) = 0 then (px, py) else (px + (qx - px) * paramN (px, py) (qx, qy) (cx, cy) / paramD (px, py) (qx, qy), py + (qy - py) * paramN (px, py) (qx, qy) (cx, cy) / paramD (px, py) (qx, qy)) := rfl
  clear s0 s1 t0 t1
  generalize paramD (px, py) (qx, qy) = D at *
  generalize paramN (px, py) (qx, qy) (cx, cy) = n at *
  generalize nearI (px, py) (qx, qy) (cx, cy) = r at *
  obtain ⟨⟨a0, a1⟩, a2, a3⟩ := hp
  obtain ⟨⟨b0, b1⟩, b2, b3⟩ := hq
  obtain ⟨⟨c0, c1⟩, c2, c3⟩ := hc
  obtain ⟨⟨d0, d1⟩, d2, d3⟩ := h
  simp only at *
  by_cases hz : D = 0
  · rw [if_pos hz] at HN
    subst HN hz
    go_enter Tryz.func241, Tryz.ntmps241
    go_wp2_with fail
    refine (HP _).mono ?_
    rintro e w1 ⟨rfl, hb⟩
    obtain ⟨g1, rfl⟩ := Grow.of hb
    clear hb
    have zz1 : w.heap.size < g1.world.heap.size := Nat.lt_of_lt_of_le (by first | omega | (simp; done) | (simp; omega)) g1.le
    have zz2 : w.heap.size + 1 + 1 + 1 < g1.world.heap.size := Nat.lt_of_lt_of_le (by first | omega | (simp; done) | (simp; omega)) g1.le
    go_wp2_with fail
    refine bodyPost_ret (v := .agg #[.int .i32 px, .int .i32 py]) (by simp [results, Tryz.results241, go_sem, *]) rfl ⟨rfl, ?_⟩
    exact (by repeat (first | with_reducible exact Below.refl _ _ | with_reducible refine bel_alloc ?_ _ | with_reducible refine bel_drewN ?_ _ | with_reducible refine bel_drew ?_ | with_reducible refine bel_grow ?_ _ | with_reducible refine bel_set ?_ (by first | omega | (simp; done) | (simp; omega)) _))
  · rw [if_neg hz] at HN
    subst HN
    have hz' : (D == 0) = false := by simpa using hz
    have hD2 : 0 < D := by omega
    go_enter Tryz.func241, Tryz.ntmps241
    go_wp2_with fail
    refine (HP _).mono ?_
    rintro e w1 ⟨rfl, hb⟩
    obtain ⟨g1, rfl⟩ := Grow.of hb
    clear hb
    have zz3 : w.heap.size < g1.world.heap.size := Nat.lt_of_lt_of_le (by first | omega | (simp; done) | (simp; omega)) g1.le
    have zz4 : w.heap.size + 1 < g1.world.heap.size := Nat.lt_of_lt_of_le (by first | omega | (simp; done) | (simp; omega)) g1.le
    have zz5 : w.heap.size + 1 + 1 + 1 < g1.world.heap.size := Nat.lt_of_lt_of_le (by first | omega | (simp; done) | (simp; omega)) g1.le
    go_wp2_with fail
    refine (diff_any _ _ _ _ _ ⟨by omega, by omega⟩ ⟨by omega, by omega⟩ ⟨by omega, by omega⟩ ⟨by omega, by omega⟩).mono ?_
    rintro e w1 ⟨rfl, hb⟩
    obtain ⟨g2, rfl⟩ := Grow.of hb
    clear hb
    have zz6 : w.heap.size < g2.world.heap.size := Nat.lt_of_lt_of_le (by first | omega | (simp; done) | (simp; omega)) g2.le
    have zz7 : w.heap.size + 1 < g2.world.heap.size := Nat.lt_of_lt_of_le (by first | omega | (simp; done) | (simp; omega)) g2.le
    have zz8 : w.heap.size + 1 + 1 + 1 < g2.world.heap.size := Nat.lt_of_lt_of_le (by first | omega | (simp; done) | (simp; omega)) g2.le
    have zz9 : g1.world.heap.size < g2.world.heap.size := Nat.lt_of_lt_of_le (by first | omega | (simp; done) | (simp; omega)) g2.le
    have zz10 : g1.world.heap.size + 1 < g2.world.heap.size := Nat.lt_of_lt_of_le (by first | omega | (simp; done) | (simp; omega)) g2.le
    go_wp2_with fail
    refine wp_region_grow_tail 11 (by kernel_rfl) (by kernel_rfl) ?_
    simp only [List.take_succ_cons, List.take_zero]
    repeat (first | go_big_quiet_skip | (go_big_quiet_want; go_big_quiet_op; first | go_big_quiet_on | (go_big_quiet_call (first
        | (go_at_call 247; exact Calls.grow_of (nearPart_any _ _ n D _ _ _ (Grow.keep _ (Grow.keep _ (by simp [go_sem]))) (Grow.keep _ (Grow.keep _ (by simp [go_sem]))) n0 n1 hD2 hD1 (by omega) (by omega) (by omega) (by omega)))))))
    refine wpQuiet_nil ?_
    rintro _ ⟨g3, rfl⟩
    simp only [List.drop_succ_cons, List.drop_zero]
    have zz11 : w.heap.size + 1 + 1 + 1 < g3.world.heap.size := Nat.lt_of_lt_of_le (by first | omega | (simp; done) | (simp; omega)) g3.le
    have c0 : g3.world.cell? ⟨w.heap.size + 1 + 1 + 1, 0, none⟩ = some (.int .i32 0) := by simp [go_sem, *]
    have c1 : g3.world.cell? ⟨w.heap.size + 1 + 1 + 1, 1, none⟩ = some (.int .i32 0) := by simp [go_sem, *]
    go_wp2_with fail
    refine bodyPost_ret (v := .agg #[.int .i32 (px + (qx - px) * n / D), .int .i32 (py + (qy - py) * n / D)]) (by simp [results, Tryz.results241, go_sem, *]) rfl ⟨rfl, ?_⟩
    exact (by repeat (first | with_reducible exact Below.refl _ _ | with_reducible refine bel_alloc ?_ _ | with_reducible refine bel_drewN ?_ _ | with_reducible refine bel_drew ?_ | with_reducible refine bel_grow ?_ _ | with_reducible refine bel_set ?_ (by first | omega | (simp; done) | (simp; omega)) _))
end Go.Proofs.YtnhaiecbjipodaaGreatDoor
/- The contracts of the package segment. -/
namespace Go.Proofs.YtnhaiecbjipodaaGreatDoor
open Go.RowKit
attribute [local go_sem] Grow.cell Grow.froz Grow.lt lt_s1 lt_s2 lt_s3 lt_s4 lt_s5

def stepC (s : (V × V) × Int) (c : V × V) : (V × V) × Int := if distI c < s.2 then (c, distI c) else s
abbrev vecC (v : V) : Array Value := #[.int .i32 v.1, .int .i32 v.2]
/-- The three cells that the chosen points lie in. -/
structure Held3 (w : World) (L A B : Nat) (s : (V × V) × Int) : Prop where
  l : CellsAt w L #[.int .u64 s.2] 146
  a : CellsAt w A (vecC s.1.1) 25
  b : CellsAt w B (vecC s.1.2) 25

set_option maxHeartbeats 2000000 in
theorem consider_any (x1 x2 y1 y2 : Int) (L A B : Nat) (s : (V × V) × Int) (w : World) (h : Held3 w L A B s) (LA : L ≠ A) (LB : L ≠ B) (AB : A ≠ B) (hx : InV (x1, x2)) (hy : InV (y1, y2)) :
    Calls Tryz.prog 240 #[.agg #[.int .i32 x1, .int .i32 x2], .agg #[.int .i32 y1, .int .i32 y2], .pointer (some ⟨L, 0, none⟩), .pointer (some ⟨A, 0, none⟩), .pointer (some ⟨B, 0, none⟩)] w fun e w' =>
      e = .returned (.tuple #[]) ∧ Alter (fun k => k = L ∨ k = A ∨ k = B) w w' ∧ Held3 w' L A B (stepC s ((x1, x2), (y1, y2))) := by
  obtain ⟨⟨⟨a1, a2⟩, b1, b2⟩, d⟩ := s
  obtain ⟨hL, hA, hB⟩ := h
  obtain ⟨⟨p0, p1⟩, p2, p3⟩ := hx
  obtain ⟨⟨q0, q1⟩, q2, q3⟩ := hy
  simp only at *
  have lL := hL.lt
  have lA := hA.lt
  have lB := hB.lt
  have cL := hL.at 0 rfl
  have cA0 := hA.at 0 rfl
  have cA1 := hA.at 1 rfl
  have cB0 := hB.at 0 rfl
  have cB1 := hB.at 1 rfl
  have fL := hL.froz 0
  have fA0 := hA.froz 0
  have fA1 := hA.froz 1
  have fB0 := hB.froz 0
  have fB1 := hB.froz 1
  have HH := Lib.hid (And.intro hL (And.intro hA hB))
  have HLS := fun w => lengthSq_any (y1 - x1) (y2 - x2) w (by omega) (by omega) (by omega) (by omega)
  have hst : stepC (((a1, a2), b1, b2), d) ((x1, x2), (y1, y2)) = if lenSqI (y1 - x1) (y2 - x2) < d then (((x1, x2), (y1, y2)), lenSqI (y1 - x1) (y2 - x2)) else (((a1, a2), b1, b2), d) := rfl
  generalize stepC (((a1, a2), b1, b2), d) ((x1, x2), (y1, y2)) = r at *
  generalize lenSqI (y1 - x1) (y2 - x2) = D at *
  clear hL hA hB
  by_cases hlt : D < d
  · rw [if_pos hlt] at hst
    subst hst
    go_enter Tryz.func240, Tryz.ntmps240
    go_wp2_with fail
    refine (diff_any _ _ _ _ _ ⟨by omega, by omega⟩ ⟨by omega, by omega⟩ ⟨by omega, by omega⟩ ⟨by omega, by omega⟩).mono ?_
    rintro e w1 ⟨rfl, hb⟩
    obtain ⟨g1, rfl⟩ := Grow.of hb
    clear hb
    have zz1 : w.heap.size < g1.world.heap.size := Nat.lt_of_lt_of_le (by first | omega | (simp; done) | (simp; omega)) g1.le
    have zz2 : w.heap.size + 1 < g1.world.heap.size := Nat.lt_of_lt_of_le (by first | omega | (simp; done) | (simp; omega)) g1.le
    have zz3 : L < g1.world.heap.size := Nat.lt_of_lt_of_le (by first | omega | (simp; done) | (simp; omega)) g1.le
    have zz4 : A < g1.world.heap.size := Nat.lt_of_lt_of_le (by first | omega | (simp; done) | (simp; omega)) g1.le
    have zz5 : B < g1.world.heap.size := Nat.lt_of_lt_of_le (by first | omega | (simp; done) | (simp; omega)) g1.le
    go_wp2_with fail
    refine (HLS _).mono ?_
    rintro e w' ⟨rfl, rfl⟩
    go_wp2_with fail
    go_region
    all_goals go_wp2
    go_end0
    have kL := ((HH.out.1.alloc _).alloc _).grow g1
    have kA := ((HH.out.2.1.alloc _).alloc _).grow g1
    have kB := ((HH.out.2.2.alloc _).alloc _).grow g1
    refine ⟨rfl, (by repeat (first | with_reducible exact Alter.refl _ _ | with_reducible refine alter_alloc ?_ _ | with_reducible refine alter_drewN ?_ _ | with_reducible refine alter_drew ?_ | with_reducible refine alter_grow ?_ _ | with_reducible refine alter_set ?_ (by first | (left; simp; done) | (right; omega) | (right; simp; done) | (right; simp; omega)) _)), ⟨?_, ?_, ?_⟩⟩
    · exact CellsAt.drew (((((kL.far LA _).far LA _).far LB _).far LB _).set 0 _)
    · exact CellsAt.drew (((((kA.set 0 _).set 1 _).far AB _).far AB _).far (Ne.symm LA) _)
    · exact CellsAt.drew (((((kB.far (Ne.symm AB) _).far (Ne.symm AB) _).set 0 _).set 1 _).far (Ne.symm LB) _)
  · rw [if_neg hlt] at hst
    subst hst
    go_enter Tryz.func240, Tryz.ntmps240
    go_wp2_with fail
    refine (diff_any _ _ _ _ _ ⟨by omega, by omega⟩ ⟨by omega, by omega⟩ ⟨by omega, by omega⟩ ⟨by omega, by omega⟩).mono ?_
    rintro e w1 ⟨rfl, hb⟩
    obtain ⟨g1, rfl⟩ := Grow.of hb
    clear hb
    have zz6 : w.heap.size < g1.world.heap.size := Nat.lt_of_lt_of_le (by first | omega | (simp; done) | (simp; omega)) g1.le
    have zz7 : w.heap.size + 1 < g1.world.heap.size := Nat.lt_of_lt_of_le (by first | omega | (simp; done) | (simp; omega)) g1.le
    have zz8 : L < g1.world.heap.size := Nat.lt_of_lt_of_le (by first | omega | (simp; done) | (simp; omega)) g1.le
    have zz9 : A < g1.world.heap.size := Nat.lt_of_lt_of_le (by first | omega | (simp; done) | (simp; omega)) g1.le
    have zz10 : B < g1.world.heap.size := Nat.lt_of_lt_of_le (by first | omega | (simp; done) | (simp; omega)) g1.le
    go_wp2_with fail
    refine (HLS _).mono ?_
    rintro e w' ⟨rfl, rfl⟩
    go_wp2_with fail
    go_end0
    exact ⟨rfl, (by repeat (first | with_reducible exact Alter.refl _ _ | with_reducible refine alter_alloc ?_ _ | with_reducible refine alter_drewN ?_ _ | with_reducible refine alter_drew ?_ | with_reducible refine alter_grow ?_ _ | with_reducible refine alter_set ?_ (by first | (left; simp; done) | (right; omega) | (right; simp; done) | (right; simp; omega)) _)), ⟨((HH.out.1.alloc _).alloc _).grow g1, ((HH.out.2.1.alloc _).alloc _).grow g1, ((HH.out.2.2.alloc _).alloc _).grow g1⟩⟩

theorem distI_lt {c : V × V} (h : InP c) : distI c < 18446744073709551615 := by
  obtain ⟨⟨⟨a0, a1⟩, a2, a3⟩, ⟨b0, b1⟩, b2, b3⟩ := h
  have := lenSq_bd (dx := c.2.1 - c.1.1) (dy := c.2.2 - c.1.2) (by omega) (by omega) (by omega) (by omega)
  unfold distI
  omega
def start3 : (V × V) × Int := (((0, 0), (0, 0)), 18446744073709551615)
theorem step_start {c : V × V} (h : InP c) : stepC start3 c = (c, distI c) := by
  unfold stepC
  exact if_pos (distI_lt h)
theorem step_pick (a b : V × V) : stepC (a, distI a) b = (pickI a b, distI (pickI a b)) := by
  unfold stepC pickI
  simp only
  split <;> rfl
theorem chosen_steps {ap aq bp bq : V} (h : InP (ap, nearI bp bq ap)) : stepC (stepC (stepC (stepC start3 (ap, nearI bp bq ap)) (aq, nearI bp bq aq)) (nearI ap aq bp, bp)) (nearI ap aq bq, bq) = (chosenI ap aq bp bq, distI (chosenI ap aq bp bq)) := by
  rw [step_start h, step_pick, step_pick, step_pick]; rfl

theorem arr2_at0 (x0 x1 x2 x3 : Value) (w : World) : (Instr.index 336 (.agg #[x0, x1, x2, x3]) (.int .i64 0)).run Tryz.prog w = .ok (.agg #[x0, x1]) w := by kernel_rfl
theorem arr2_at1 (x0 x1 x2 x3 : Value) (w : World) : (Instr.index 336 (.agg #[x0, x1, x2, x3]) (.int .i64 1)).run Tryz.prog w = .ok (.agg #[x2, x3]) w := by kernel_rfl
attribute [local go_sem] arr2_at0 arr2_at1
/-- The four boxes of the ends. -/
structure Boxes4 (w : World) (n : Nat) (a b c d : V) : Prop where
  a : CellsAt w n (vecC a) 25
  b : CellsAt w (n + 1) (vecC b) 25
  c : CellsAt w (n + 1 + 1) (vecC c) 25
  d : CellsAt w (n + 1 + 1 + 1) (vecC d) 25
theorem Boxes4.alloc {w : World} {n : Nat} {a b c d : V} (h : Boxes4 w n a b c d) (o : Obj) : Boxes4 (w.alloc o) n a b c d := ⟨h.a.alloc o, h.b.alloc o, h.c.alloc o, h.d.alloc o⟩
theorem Boxes4.grow {w : World} {n : Nat} {a b c d : V} (h : Boxes4 w n a b c d) (g : Grow w) : Boxes4 g.world n a b c d := ⟨h.a.grow g, h.b.grow g, h.c.grow g, h.d.grow g⟩
theorem Boxes4.alter {w w' : World} {n : Nat} {a b c d : V} (h : Boxes4 w n a b c d) (ha : Alter (fun k => k = n + 1 + 1 + 1 + 1 + 1 + 1 ∨ k = n + 1 + 1 + 1 + 1 ∨ k = n + 1 + 1 + 1 + 1 + 1) w w') : Boxes4 w' n a b c d :=
  ⟨h.a.alter ha (by omega), h.b.alter ha (by omega), h.c.alter ha (by omega), h.d.alter ha (by omega)⟩
theorem Held3.alloc {w : World} {L A B : Nat} {s : (V × V) × Int} (h : Held3 w L A B s) (o : Obj) : Held3 (w.alloc o) L A B s := ⟨h.l.alloc o, h.a.alloc o, h.b.alloc o⟩
theorem Held3.grow {w : World} {L A B : Nat} {s : (V × V) × Int} (h : Held3 w L A B s) (g : Grow w) : Held3 g.world L A B s := ⟨h.l.grow g, h.a.grow g, h.b.grow g⟩

set_option maxRecDepth 100000 in
set_option maxHeartbeats 4000000 in
theorem choose_any (ap aq bp bq : V) (w : World) (h1 : InV ap) (h2 : InV aq) (h3 : InV bp) (h4 : InV bq) (ha : CloseV ap aq) (hb : CloseV bp bq) :
    Calls Tryz.prog 226 #[.agg (vecC ap), .agg (vecC aq), .agg (vecC bp), .agg (vecC bq)] w fun e w' =>
      e = .returned (.tuple #[.agg (vecC (chosenI ap aq bp bq).1), .agg (vecC (chosenI ap aq bp bq).2), .int .u64 (distI (chosenI ap aq bp bq))]) ∧ Below w.heap.size w w' := by
  have hch := chosen_steps (ap := ap) (aq := aq) (bp := bp) (bq := bq) ⟨h1, nearI_in h3 h4 hb⟩
  obtain ⟨s1, hs1⟩ : ∃ s, s = stepC start3 (ap, nearI bp bq ap) := ⟨_, rfl⟩
  obtain ⟨s2, hs2⟩ : ∃ s, s = stepC s1 (aq, nearI bp bq aq) := ⟨_, rfl⟩
  obtain ⟨s3, hs3⟩ : ∃ s, s = stepC s2 (nearI ap aq bp, bp) := ⟨_, rfl⟩
  obtain ⟨s4, hs4⟩ : ∃ s, s = stepC s3 (nearI ap aq bq, bq) := ⟨_, rfl⟩
  rw [← hs1, ← hs2, ← hs3, ← hs4] at hch
  have HS1 := Lib.hid hs1
  have HS2 := Lib.hid hs2
  have HS3 := Lib.hid hs3
  have HS4 := Lib.hid hs4
  have HCH := Lib.hid hch
  clear hs1 hs2 hs3 hs4 hch
  go_enter Tryz.func226, Tryz.ntmps226
  go_wp2_with fail
  go_loopw [20] (fun i wr => ∃ k : Nat, k ≤ 2 ∧ i = .int .i64 k ∧ Boxes4 wr w.heap.size ap aq bp bq ∧ Held3 wr (w.heap.size + 1 + 1 + 1 + 1 + 1 + 1) (w.heap.size + 1 + 1 + 1 + 1) (w.heap.size + 1 + 1 + 1 + 1 + 1) (if k = 0 then start3 else if k = 1 then s1 else s2) ∧ Below w.heap.size w wr) (fun i _ => 2 - (intOf i).toNat)
  case atStart => exact ⟨0, by omega, rfl, ⟨(by repeat (first | with_reducible exact CellsAt.newAt (by first | rfl | (simp; done) | omega) rfl | with_reducible refine CellsAt.alloc ?_ _ | with_reducible refine CellsAt.drewN ?_ _ | with_reducible refine CellsAt.drew ?_ | with_reducible refine CellsAt.grow ?_ _ | with_reducible refine CellsAt.far ?_ (by first | omega | (simp; done) | (simp; omega)) _)), (by repeat (first | with_reducible exact CellsAt.newAt (by first | rfl | (simp; done) | omega) rfl | with_reducible refine CellsAt.alloc ?_ _ | with_reducible refine CellsAt.drewN ?_ _ | with_reducible refine CellsAt.drew ?_ | with_reducible refine CellsAt.grow ?_ _ | with_reducible refine CellsAt.far ?_ (by first | omega | (simp; done) | (simp; omega)) _)), (by repeat (first | with_reducible exact CellsAt.newAt (by first | rfl | (simp; done) | omega) rfl | with_reducible refine CellsAt.alloc ?_ _ | with_reducible refine CellsAt.drewN ?_ _ | with_reducible refine CellsAt.drew ?_ | with_reducible refine CellsAt.grow ?_ _ | with_reducible refine CellsAt.far ?_ (by first | omega | (simp; done) | (simp; omega)) _)), (by repeat (first | with_reducible exact CellsAt.newAt (by first | rfl | (simp; done) | omega) rfl | with_reducible refine CellsAt.alloc ?_ _ | with_reducible refine CellsAt.drewN ?_ _ | with_reducible refine CellsAt.drew ?_ | with_reducible refine CellsAt.grow ?_ _ | with_reducible refine CellsAt.far ?_ (by first | omega | (simp; done) | (simp; omega)) _))⟩, ⟨(by repeat (first | with_reducible exact CellsAt.newAt (by first | rfl | (simp; done) | omega) rfl | with_reducible refine CellsAt.alloc ?_ _ | with_reducible refine CellsAt.drewN ?_ _ | with_reducible refine CellsAt.drew ?_ | with_reducible refine CellsAt.grow ?_ _ | with_reducible refine CellsAt.far ?_ (by first | omega | (simp; done) | (simp; omega)) _)), (by repeat (first | with_reducible exact CellsAt.newAt (by first | rfl | (simp; done) | omega) rfl | with_reducible refine CellsAt.alloc ?_ _ | with_reducible refine CellsAt.drewN ?_ _ | with_reducible refine CellsAt.drew ?_ | with_reducible refine CellsAt.grow ?_ _ | with_reducible refine CellsAt.far ?_ (by first | omega | (simp; done) | (simp; omega)) _)), (by repeat (first | with_reducible exact CellsAt.newAt (by first | rfl | (simp; done) | omega) rfl | with_reducible refine CellsAt.alloc ?_ _ | with_reducible refine CellsAt.drewN ?_ _ | with_reducible refine CellsAt.drew ?_ | with_reducible refine CellsAt.grow ?_ _ | with_reducible refine CellsAt.far ?_ (by first | omega | (simp; done) | (simp; omega)) _))⟩, (by repeat (first | with_reducible exact Below.refl _ _ | with_reducible refine bel_alloc ?_ _ | with_reducible refine bel_drewN ?_ _ | with_reducible refine bel_drew ?_ | with_reducible refine bel_grow ?_ _ | with_reducible refine bel_set ?_ (by first | omega | (simp; done) | (simp; omega)) _))⟩
  case round =>
    obtain ⟨k, hk, rfl, hbox, hheld, hbel⟩ := hrel
    have bx := hbox
    obtain ⟨b0, b1, b2, b3⟩ := bx
    have lz := b3.lt
    have c00 : wr.cell? ⟨w.heap.size, 0, none⟩ = some (.int .i32 ap.1) := b0.at 0 rfl
    have c01 : wr.cell? ⟨w.heap.size, 1, none⟩ = some (.int .i32 ap.2) := b0.at 1 rfl
    have c10 : wr.cell? ⟨w.heap.size + 1, 0, none⟩ = some (.int .i32 aq.1) := b1.at 0 rfl
    have c11 : wr.cell? ⟨w.heap.size + 1, 1, none⟩ = some (.int .i32 aq.2) := b1.at 1 rfl
    have c20 : wr.cell? ⟨w.heap.size + 1 + 1, 0, none⟩ = some (.int .i32 bp.1) := b2.at 0 rfl
    have c21 : wr.cell? ⟨w.heap.size + 1 + 1, 1, none⟩ = some (.int .i32 bp.2) := b2.at 1 rfl
    have c30 : wr.cell? ⟨w.heap.size + 1 + 1 + 1, 0, none⟩ = some (.int .i32 bq.1) := b3.at 0 rfl
    have c31 : wr.cell? ⟨w.heap.size + 1 + 1 + 1, 1, none⟩ = some (.int .i32 bq.2) := b3.at 1 rfl
    have l0 := b0.lt
    have l1 := b1.lt
    have l2 := b2.lt
    clear b0 b1 b2 b3
    obtain rfl | rfl | rfl : k = 0 ∨ k = 1 ∨ k = 2 := by omega
    · go_wp2_with fail
      refine wp_region_grow_tail 6 (by kernel_rfl) (by kernel_rfl) ?_
      simp only [List.take_succ_cons, List.take_zero]
      repeat (first | go_big_quiet_skip | (go_big_quiet_want; go_big_quiet_op; first | go_big_quiet_on | (go_big_quiet_call (first
          | (go_at_call 241; exact Calls.grow_of (nearest_any bp.1 bp.2 bq.1 bq.2 ap.1 ap.2 _ h3 h4 h1 hb))))))
      refine wpQuiet_nil ?_
      rintro _ ⟨g1, rfl⟩
      simp only [List.drop_succ_cons, List.drop_zero]
      have h3' := ((hheld.alloc _).grow g1)
      have z0 := Nat.lt_of_lt_of_le (hheld.b.lt) (show wr.heap.size ≤ g1.world.heap.size from Nat.le_trans (by simp) g1.le)
      go_wp2_with fail
      refine (consider_any ap.1 ap.2 (nearI bp bq ap).1 (nearI bp bq ap).2 _ _ _ _ _ h3' (by omega) (by omega) (by omega) h1 (nearI_in h3 h4 hb)).mono ?_
      rintro e w1 ⟨rfl, hal, hh⟩
      go_wp2_with fail
      go_roundw
      case rel => exact ⟨1, by omega, rfl, ((hbox.alloc _).grow g1).alter hal, by rw [HS1.out]; exact hh, (bel_grow (bel_alloc hbel _) g1).trans (hal.below (by have := hbel.size; have := g1.le; simp at this; omega) (by omega))⟩
      case measure => simp [intOf]
    · go_wp2_with fail
      refine wp_region_grow_tail 6 (by kernel_rfl) (by kernel_rfl) ?_
      simp only [List.take_succ_cons, List.take_zero]
      repeat (first | go_big_quiet_skip | (go_big_quiet_want; go_big_quiet_op; first | go_big_quiet_on | (go_big_quiet_call (first
          | (go_at_call 241; exact Calls.grow_of (nearest_any bp.1 bp.2 bq.1 bq.2 aq.1 aq.2 _ h3 h4 h2 hb))))))
      refine wpQuiet_nil ?_
      rintro _ ⟨g1, rfl⟩
      simp only [List.drop_succ_cons, List.drop_zero]
      have h3' := ((hheld.alloc _).grow g1)
      have z0 := Nat.lt_of_lt_of_le (hheld.b.lt) (show wr.heap.size ≤ g1.world.heap.size from Nat.le_trans (by simp) g1.le)
      go_wp2_with fail
      refine (consider_any aq.1 aq.2 (nearI bp bq aq).1 (nearI bp bq aq).2 _ _ _ _ _ h3' (by omega) (by omega) (by omega) h2 (nearI_in h3 h4 hb)).mono ?_
      rintro e w1 ⟨rfl, hal, hh⟩
      go_wp2_with fail
      go_roundw
      case rel => exact ⟨2, by omega, rfl, ((hbox.alloc _).grow g1).alter hal, by rw [HS2.out]; exact hh, (bel_grow (bel_alloc hbel _) g1).trans (hal.below (by have := hbel.size; have := g1.le; simp at this; omega) (by omega))⟩
      case measure => simp [intOf]
    · go_wp2_with fail
      go_loopw [34] (fun i wr => ∃ k : Nat, k ≤ 2 ∧ i = .int .i64 k ∧ Boxes4 wr w.heap.size ap aq bp bq ∧ Held3 wr (w.heap.size + 1 + 1 + 1 + 1 + 1 + 1) (w.heap.size + 1 + 1 + 1 + 1) (w.heap.size + 1 + 1 + 1 + 1 + 1) (if k = 0 then s2 else if k = 1 then s3 else s4) ∧ Below w.heap.size w wr) (fun i _ => 2 - (intOf i).toNat)
      case atStart => exact ⟨0, by omega, rfl, hbox, hheld, hbel⟩
      case round =>
        obtain ⟨k, hk, rfl, hbox, hheld, hbel⟩ := hrel
        have bx := hbox
        obtain ⟨b0, b1, b2, b3⟩ := bx
        have lz := b3.lt
        have c00 : wr.cell? ⟨w.heap.size, 0, none⟩ = some (.int .i32 ap.1) := b0.at 0 rfl
        have c01 : wr.cell? ⟨w.heap.size, 1, none⟩ = some (.int .i32 ap.2) := b0.at 1 rfl
        have c10 : wr.cell? ⟨w.heap.size + 1, 0, none⟩ = some (.int .i32 aq.1) := b1.at 0 rfl
        have c11 : wr.cell? ⟨w.heap.size + 1, 1, none⟩ = some (.int .i32 aq.2) := b1.at 1 rfl
        have c20 : wr.cell? ⟨w.heap.size + 1 + 1, 0, none⟩ = some (.int .i32 bp.1) := b2.at 0 rfl
        have c21 : wr.cell? ⟨w.heap.size + 1 + 1, 1, none⟩ = some (.int .i32 bp.2) := b2.at 1 rfl
        have c30 : wr.cell? ⟨w.heap.size + 1 + 1 + 1, 0, none⟩ = some (.int .i32 bq.1) := b3.at 0 rfl
        have c31 : wr.cell? ⟨w.heap.size + 1 + 1 + 1, 1, none⟩ = some (.int .i32 bq.2) := b3.at 1 rfl
        have l0 := b0.lt
        have l1 := b1.lt
        have l2 := b2.lt
        clear b0 b1 b2 b3
        obtain rfl | rfl | rfl : k = 0 ∨ k = 1 ∨ k = 2 := by omega
        · go_wp2_with fail
          refine wp_region_grow_tail 6 (by kernel_rfl) (by kernel_rfl) ?_
          simp only [List.take_succ_cons, List.take_zero]
          repeat (first | go_big_quiet_skip | (go_big_quiet_want; go_big_quiet_op; first | go_big_quiet_on | (go_big_quiet_call (first
              | (go_at_call 241; exact Calls.grow_of (nearest_any ap.1 ap.2 aq.1 aq.2 bp.1 bp.2 _ h1 h2 h3 ha))))))
          refine wpQuiet_nil ?_
          rintro _ ⟨g1, rfl⟩
          simp only [List.drop_succ_cons, List.drop_zero]
          have h3' := ((hheld.alloc _).grow g1)
          have z0 := Nat.lt_of_lt_of_le (hheld.b.lt) (show wr.heap.size ≤ g1.world.heap.size from Nat.le_trans (by simp) g1.le)
          go_wp2_with fail
          refine (consider_any (nearI ap aq bp).1 (nearI ap aq bp).2 bp.1 bp.2 _ _ _ _ _ h3' (by omega) (by omega) (by omega) (nearI_in h1 h2 ha) h3).mono ?_
          rintro e w1 ⟨rfl, hal, hh⟩
          go_wp2_with fail
          go_roundw
          case rel => exact ⟨_, _, _, _, _, _, _, _, _, _, _, _, ⟨1, by omega, rfl, ((hbox.alloc _).grow g1).alter hal, by rw [HS3.out]; exact hh, (bel_grow (bel_alloc hbel _) g1).trans (hal.below (by have := hbel.size; have := g1.le; simp at this; omega) (by omega))⟩, rfl⟩
          case measure => simp [intOf]
        · go_wp2_with fail
          refine wp_region_grow_tail 6 (by kernel_rfl) (by kernel_rfl) ?_
          simp only [List.take_succ_cons, List.take_zero]
          repeat (first | go_big_quiet_skip | (go_big_quiet_want; go_big_quiet_op; first | go_big_quiet_on | (go_big_quiet_call (first
              | (go_at_call 241; exact Calls.grow_of (nearest_any ap.1 ap.2 aq.1 aq.2 bq.1 bq.2 _ h1 h2 h4 ha))))))
          refine wpQuiet_nil ?_
          rintro _ ⟨g1, rfl⟩
          simp only [List.drop_succ_cons, List.drop_zero]
          have h3' := ((hheld.alloc _).grow g1)
          have z0 := Nat.lt_of_lt_of_le (hheld.b.lt) (show wr.heap.size ≤ g1.world.heap.size from Nat.le_trans (by simp) g1.le)
          go_wp2_with fail
          refine (consider_any (nearI ap aq bq).1 (nearI ap aq bq).2 bq.1 bq.2 _ _ _ _ _ h3' (by omega) (by omega) (by omega) (nearI_in h1 h2 ha) h4).mono ?_
          rintro e w1 ⟨rfl, hal, hh⟩
          go_wp2_with fail
          go_roundw
          case rel => exact ⟨_, _, _, _, _, _, _, _, _, _, _, _, ⟨2, by omega, rfl, ((hbox.alloc _).grow g1).alter hal, by rw [HS4.out]; exact hh, (bel_grow (bel_alloc hbel _) g1).trans (hal.below (by have := hbel.size; have := g1.le; simp at this; omega) (by omega))⟩, rfl⟩
          case measure => simp [intOf]
        · have hs : Held3 wr (w.heap.size + 1 + 1 + 1 + 1 + 1 + 1) (w.heap.size + 1 + 1 + 1 + 1) (w.heap.size + 1 + 1 + 1 + 1 + 1) s4 := hheld
          rw [HCH.out] at hs
          obtain ⟨r, hr⟩ : ∃ r, chosenI ap aq bp bq = r := ⟨_, rfl⟩
          rw [hr] at hs
          have HR := Lib.hid hr
          clear hr
          obtain ⟨hL, hA, hB⟩ := hs
          have lL := hL.lt
          have lA := hA.lt
          have lB := hB.lt
          have cL : wr.cell? ⟨w.heap.size + 1 + 1 + 1 + 1 + 1 + 1, 0, none⟩ = some (.int .u64 (distI r)) := hL.at 0 rfl
          have cA0 : wr.cell? ⟨w.heap.size + 1 + 1 + 1 + 1, 0, none⟩ = some (.int .i32 r.1.1) := hA.at 0 rfl
          have cA1 : wr.cell? ⟨w.heap.size + 1 + 1 + 1 + 1, 1, none⟩ = some (.int .i32 r.1.2) := hA.at 1 rfl
          have cB0 : wr.cell? ⟨w.heap.size + 1 + 1 + 1 + 1 + 1, 0, none⟩ = some (.int .i32 r.2.1) := hB.at 0 rfl
          have cB1 : wr.cell? ⟨w.heap.size + 1 + 1 + 1 + 1 + 1, 1, none⟩ = some (.int .i32 r.2.2) := hB.at 1 rfl
          have fL := hL.froz 0
          have fA0 := hA.froz 0
          have fA1 := hA.froz 1
          have fB0 := hB.froz 0
          have fB1 := hB.froz 1
          clear hL hA hB
          go_wp2_with fail
          go_region
          all_goals go_wp2
          all_goals refine bodyPost_ret (v := .tuple #[.agg (vecC (chosenI ap aq bp bq).1), .agg (vecC (chosenI ap aq bp bq).2), .int .u64 (distI (chosenI ap aq bp bq))]) (by rw [HR.out]; simp [results, Tryz.results226, go_sem, *]) rfl ⟨rfl, ?_⟩
          all_goals (repeat (first | with_reducible exact hbel | with_reducible refine bel_drew ?_ | with_reducible refine bel_drewN ?_ _ | with_reducible refine bel_set ?_ (by omega) _))

set_option maxHeartbeats 2000000 in
theorem chosen_any (ap aq bp bq : V) (w : World) (h1 : InV ap) (h2 : InV aq) (h3 : InV bp) (h4 : InV bq) (ha : CloseV ap aq) (hb : CloseV bp bq) :
    Calls Tryz.prog 207 #[.agg (vecC ap), .agg (vecC aq), .agg (vecC bp), .agg (vecC bq)] w fun e w' =>
      e = .returned (.tuple #[.agg (vecC (chosenI ap aq bp bq).1), .agg (vecC (chosenI ap aq bp bq).2)]) ∧ Below w.heap.size w w' := by
  have HC := fun w => choose_any ap aq bp bq w h1 h2 h3 h4 ha hb
  generalize chosenI ap aq bp bq = r at *
  go_enter Tryz.func207, Tryz.ntmps207
  go_upto_region 1 with fail
  go_cut [] (fun wx => CellsAt wx (w.heap.size + 1 + 1 + 1 + 1) (vecC r.1) 25 ∧ CellsAt wx (w.heap.size + 1 + 1 + 1 + 1 + 1) (vecC r.2) 25 ∧ Below w.heap.size w wx)
  case first =>
    go_wp2_with fail
    refine (HC _).mono ?_
    rintro e w1 ⟨rfl, hb⟩
    obtain ⟨g1, rfl⟩ := Grow.of hb
    clear hb
    have zz11 : w.heap.size + 1 + 1 + 1 + 1 < g1.world.heap.size := Nat.lt_of_lt_of_le (by first | omega | (simp; done) | (simp; omega)) g1.le
    have zz12 : w.heap.size + 1 + 1 + 1 + 1 + 1 < g1.world.heap.size := Nat.lt_of_lt_of_le (by first | omega | (simp; done) | (simp; omega)) g1.le
    go_wp2_with fail
    go_meet
    case rel =>
      have kA : CellsAt g1.world (w.heap.size + 1 + 1 + 1 + 1) #[.int .i32 0, .int .i32 0] 25 := (by repeat (first | with_reducible exact CellsAt.newAt (by first | rfl | (simp; done) | omega) rfl | with_reducible refine CellsAt.alloc ?_ _ | with_reducible refine CellsAt.drewN ?_ _ | with_reducible refine CellsAt.drew ?_ | with_reducible refine CellsAt.grow ?_ _ | with_reducible refine CellsAt.far ?_ (by first | omega | (simp; done) | (simp; omega)) _))
      have kB : CellsAt g1.world (w.heap.size + 1 + 1 + 1 + 1 + 1) #[.int .i32 0, .int .i32 0] 25 := (by repeat (first | with_reducible exact CellsAt.newAt (by first | rfl | (simp; done) | omega) rfl | with_reducible refine CellsAt.alloc ?_ _ | with_reducible refine CellsAt.drewN ?_ _ | with_reducible refine CellsAt.drew ?_ | with_reducible refine CellsAt.grow ?_ _ | with_reducible refine CellsAt.far ?_ (by first | omega | (simp; done) | (simp; omega)) _))
      exact ⟨(((kA.set 0 _).set 1 _).far (by omega) _).far (by omega) _, (((kB.far (by omega) _).far (by omega) _).set 0 _).set 1 _, (by repeat (first | with_reducible exact Below.refl _ _ | with_reducible refine bel_alloc ?_ _ | with_reducible refine bel_drewN ?_ _ | with_reducible refine bel_drew ?_ | with_reducible refine bel_grow ?_ _ | with_reducible refine bel_set ?_ (by first | omega | (simp; done) | (simp; omega)) _))⟩
  case rest =>
    obtain ⟨kA, kB, hbel⟩ := hcut
    have lA := kA.lt
    have lB := kB.lt
    have c0 : wc.cell? ⟨w.heap.size + 1 + 1 + 1 + 1, 0, none⟩ = some (.int .i32 r.1.1) := kA.at 0 rfl
    have c1 : wc.cell? ⟨w.heap.size + 1 + 1 + 1 + 1, 1, none⟩ = some (.int .i32 r.1.2) := kA.at 1 rfl
    have c2 : wc.cell? ⟨w.heap.size + 1 + 1 + 1 + 1 + 1, 0, none⟩ = some (.int .i32 r.2.1) := kB.at 0 rfl
    have c3 : wc.cell? ⟨w.heap.size + 1 + 1 + 1 + 1 + 1, 1, none⟩ = some (.int .i32 r.2.2) := kB.at 1 rfl
    have f0 := kA.froz 0
    have f1 := kA.froz 1
    have f2 := kB.froz 0
    have f3 := kB.froz 1
    clear kA kB
    go_wp2_with fail
    go_region
    all_goals go_wp2
    all_goals refine bodyPost_ret (v := .tuple #[.agg (vecC r.1), .agg (vecC r.2)]) (by simp [results, Tryz.results207, go_sem, *]) rfl ⟨rfl, ?_⟩
    all_goals (repeat (first | with_reducible exact hbel | with_reducible refine bel_drew ?_ | with_reducible refine bel_drewN ?_ _ | with_reducible refine bel_set ?_ (by omega) _))
end Go.Proofs.YtnhaiecbjipodaaGreatDoor
