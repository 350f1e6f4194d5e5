/- Contracts of the program's functions, by walks, and plain facts beside them: Contact, Box, Cmp, Cell, InOrder, Meas. -/
import Derived.Test.YtnhaiecbjipodaaGreatDoorB08
import Derived.Test.YtnhaiecbjipodaaGreatDoorB09
/- The contracts of the package contact. -/
namespace Go.Proofs.YtnhaiecbjipodaaGreatDoor
open Go.RowKit
attribute [local go_sem] Grow.cell Grow.froz Grow.lt lt_s1 lt_s2 lt_s3 lt_s4 lt_s5

abbrev solidA (b : Body) : Array Value := #[.int .u32 b.key, .int .i32 b.radius, .int .i32 b.ax, .int .i32 b.ay, .int .i32 b.inv, .int .i32 b.bounce, .int .i32 b.px, .int .i32 b.py, .int .i32 b.vx, .int .i32 b.vy, .int .i32 (b.px - b.ax), .int .i32 (b.py - b.ay), .int .i32 (b.px + b.ax), .int .i32 (b.py + b.ay)]
theorem ends_pl (b : Body) (w : World) (h : Placed b) : Calls Tryz.prog 225 #[.agg b.arr] w fun e w' => e = .returned (.tuple #[.agg #[.int .i32 (b.px - b.ax), .int .i32 (b.py - b.ay)], .agg #[.int .i32 (b.px + b.ax), .int .i32 (b.py + b.ay)]]) ∧ Below w.heap.size w w' := by
  obtain ⟨_, h2, h3, h4, h5⟩ := h
  refine (ends_any b w).mono ?_
  rintro e w' ⟨rfl, hb⟩
  rw [w32 (n := b.px - b.ax) (by omega), w32 (n := b.py - b.ay) (by omega), w32 (n := b.px + b.ax) (by omega), w32 (n := b.py + b.ay) (by omega)]
  exact ⟨rfl, hb⟩

set_option maxRecDepth 100000 in
set_option maxHeartbeats 2000000 in
theorem solidOf_any (b : Body) (w : World) (h : Placed b) : Calls Tryz.prog 206 #[.agg b.arr] w fun e w' => e = .returned (.agg (solidA b)) ∧ Below w.heap.size w w' := by
  have HE := fun w => ends_pl b w h
  go_enter Tryz.func206, Tryz.ntmps206
  go_wp2_with fail
  refine (HE _).mono ?_
  rintro e w1 ⟨rfl, hb⟩
  obtain ⟨g1, rfl⟩ := Grow.of hb
  clear hb
  have zz1 : w.heap.size < g1.world.heap.size := Nat.lt_of_lt_of_le (by first | omega | (simp; done) | (simp; omega)) g1.le
  have zz2 : w.heap.size + 1 < g1.world.heap.size := Nat.lt_of_lt_of_le (by first | omega | (simp; done) | (simp; omega)) g1.le
  have c0 : CellsAt g1.world (w.heap.size + 1) #[.int .u32 0, .int .i32 0, .int .i32 0, .int .i32 0, .int .i32 0, .int .i32 0, .int .i32 0, .int .i32 0, .int .i32 0, .int .i32 0, .int .i32 0, .int .i32 0, .int .i32 0, .int .i32 0] 267 := (by repeat (first | with_reducible exact CellsAt.newAt (by first | rfl | (simp; done) | omega) rfl | with_reducible refine CellsAt.alloc ?_ _ | with_reducible refine CellsAt.drewN ?_ _ | with_reducible refine CellsAt.drew ?_ | with_reducible refine CellsAt.grow ?_ _ | with_reducible refine CellsAt.far ?_ (by first | omega | (simp; done) | (simp; omega)) _))
  go_wp2_with fail
  refine bodyPost_ret (v := .agg (solidA b)) (ret_cells (w.heap.size + 1) (solidA b) 267 ?_ ?_) rfl ⟨rfl, (by repeat (first | with_reducible exact Below.refl _ _ | with_reducible refine bel_alloc ?_ _ | with_reducible refine bel_drewN ?_ _ | with_reducible refine bel_drew ?_ | with_reducible refine bel_grow ?_ _ | with_reducible refine bel_set ?_ (by first | omega | (simp; done) | (simp; omega)) _))⟩
  · exact ((((((((((((((((c0.set 0 _).set 1 _).set 2 _).set 3 _).set 4 _).set 5 _).set 6 _).set 7 _).set 8 _).set 9 _).set 10 _).set 11 _).set 12 _).set 13 _).alloc _).alloc _).eq (by simp)
  · intro W K
    have kk3 : W.cell? ⟨w.heap.size + 1, 0, none⟩ = some (.int .u32 b.key) := K.at 0 rfl
    have kk4 : W.cell? ⟨w.heap.size + 1, 1, none⟩ = some (.int .i32 b.radius) := K.at 1 rfl
    have kk5 : W.cell? ⟨w.heap.size + 1, 2, none⟩ = some (.int .i32 b.ax) := K.at 2 rfl
    have kk6 : W.cell? ⟨w.heap.size + 1, 3, none⟩ = some (.int .i32 b.ay) := K.at 3 rfl
    have kk7 : W.cell? ⟨w.heap.size + 1, 4, none⟩ = some (.int .i32 b.inv) := K.at 4 rfl
    have kk8 : W.cell? ⟨w.heap.size + 1, 5, none⟩ = some (.int .i32 b.bounce) := K.at 5 rfl
    have kk9 : W.cell? ⟨w.heap.size + 1, 6, none⟩ = some (.int .i32 b.px) := K.at 6 rfl
    have kk10 : W.cell? ⟨w.heap.size + 1, 7, none⟩ = some (.int .i32 b.py) := K.at 7 rfl
    have kk11 : W.cell? ⟨w.heap.size + 1, 8, none⟩ = some (.int .i32 b.vx) := K.at 8 rfl
    have kk12 : W.cell? ⟨w.heap.size + 1, 9, none⟩ = some (.int .i32 b.vy) := K.at 9 rfl
    have kk13 : W.cell? ⟨w.heap.size + 1, 10, none⟩ = some (.int .i32 (b.px - b.ax)) := K.at 10 rfl
    have kk14 : W.cell? ⟨w.heap.size + 1, 11, none⟩ = some (.int .i32 (b.py - b.ay)) := K.at 11 rfl
    have kk15 : W.cell? ⟨w.heap.size + 1, 12, none⟩ = some (.int .i32 (b.px + b.ax)) := K.at 12 rfl
    have kk16 : W.cell? ⟨w.heap.size + 1, 13, none⟩ = some (.int .i32 (b.py + b.ay)) := K.at 13 rfl
    simp [results, Tryz.results206, go_sem, *]
theorem solidOf_fl (k r ax ay m o px py vx vy : Int) (w : World) (h : Placed ⟨k, r, ax, ay, m, o, px, py, vx, vy⟩) : Calls Tryz.prog 206 #[.agg #[.int .u32 k, .int .i32 r, .int .i32 ax, .int .i32 ay, .int .i32 m, .int .i32 o, .int .i32 px, .int .i32 py, .int .i32 vx, .int .i32 vy]] w fun e w' => e = .returned (.agg #[.int .u32 k, .int .i32 r, .int .i32 ax, .int .i32 ay, .int .i32 m, .int .i32 o, .int .i32 px, .int .i32 py, .int .i32 vx, .int .i32 vy, .int .i32 (px - ax), .int .i32 (py - ay), .int .i32 (px + ax), .int .i32 (py + ay)]) ∧ Below w.heap.size w w' := solidOf_any ⟨k, r, ax, ay, m, o, px, py, vx, vy⟩ w h
end Go.Proofs.YtnhaiecbjipodaaGreatDoor
/- The variables that the program lays, and the contracts of the package box. -/
namespace Go.Proofs.YtnhaiecbjipodaaGreatDoor
open Go.RowKit
attribute [local go_sem] Grow.cell Grow.froz Grow.lt lt_s1 lt_s2 lt_s3 lt_s4 lt_s5

/-- The package-level variables cell.factors and box.none, as they are laid. -/
structure Glob (w : World) : Prop where
  f0 : w.cell? ⟨0, 0, none⟩ = some (.int .u32 73856093)
  f1 : w.cell? ⟨0, 1, none⟩ = some (.int .u32 19349663)
  n0 : w.cell? ⟨3, 0, none⟩ = some (.int .i32 1)
  n1 : w.cell? ⟨3, 1, none⟩ = some (.int .i32 0)
  n2 : w.cell? ⟨3, 2, none⟩ = some (.int .i32 0)
  n3 : w.cell? ⟨3, 3, none⟩ = some (.int .i32 0)
theorem Glob.below {w w' : World} (h : Glob w) (hb : Below w.heap.size w w') : Glob w' := by
  obtain ⟨h0, h1, h2, h3, h4, h5⟩ := h
  have z : 0 < w.heap.size := World.block_lt_of_cell? w _ h0
  have y : 3 < w.heap.size := World.block_lt_of_cell? w _ h2
  exact ⟨(keepB hb _ z _).trans h0, (keepB hb _ z _).trans h1, (keepB hb _ y _).trans h2, (keepB hb _ y _).trans h3, (keepB hb _ y _).trans h4, (keepB hb _ y _).trans h5⟩
theorem Glob.belowN {w w' : World} {n : Nat} (h : Glob w) (hb : Below n w w') (hn : 4 ≤ n) : Glob w' := by
  obtain ⟨h0, h1, h2, h3, h4, h5⟩ := h
  have k : ∀ b o, b < n → w'.cell? ⟨b, o, none⟩ = w.cell? ⟨b, o, none⟩ := fun b o hb' => hb.cell (p := ⟨b, o, none⟩) hb'
  exact ⟨(k _ _ (by omega)).trans h0, (k _ _ (by omega)).trans h1, (k _ _ (by omega)).trans h2, (k _ _ (by omega)).trans h3, (k _ _ (by omega)).trans h4, (k _ _ (by omega)).trans h5⟩
theorem Glob.size {w : World} (h : Glob w) : 4 ≤ w.heap.size := by
  have y : 3 < w.heap.size := World.block_lt_of_cell? w _ h.n0
  omega
theorem Glob.alloc {w : World} (h : Glob w) (o : Obj) : Glob (w.alloc o) := h.below ((Below.refl _ _).alloc (Nat.le_refl _) o)
theorem Glob.grow {w : World} (h : Glob w) (g : Grow w) : Glob g.world := h.below g.below

structure BoxI where
  x0 : Int
  y0 : Int
  x1 : Int
  y1 : Int
abbrev BoxI.arr (a : BoxI) : Array Value := #[.int .i32 a.x0, .int .i32 a.y0, .int .i32 a.x1, .int .i32 a.y1]
def extX (b : Body) : Int := max b.ax (-b.ax) + b.radius
def extY (b : Body) : Int := max b.ay (-b.ay) + b.radius
def boxI (b : Body) : BoxI := ⟨b.px - extX b, b.py - extY b, b.px + extX b, b.py + extY b⟩
def emptyB (a : BoxI) : Bool := decide (a.x1 < a.x0) || decide (a.y1 < a.y0)
def meetB (a b : BoxI) : BoxI := ⟨max a.x0 b.x0, max a.y0 b.y0, min a.x1 b.x1, min a.y1 b.y1⟩
def noneB : BoxI := ⟨1, 0, 0, 0⟩
def overlapI (a b : BoxI) : Bool := !emptyB (meetB a b)

theorem extent_pl (b : Body) (w : World) (h : Placed b) : Calls Tryz.prog 198 #[.agg b.arr] w fun e w' => e = .returned (.tuple #[.int .i32 (extX b), .int .i32 (extY b)]) ∧ Below w.heap.size w w' := by
  obtain ⟨h1, h2, h3, h4, h5⟩ := h
  refine (extent_any b w).mono ?_
  rintro e w' ⟨rfl, hb⟩
  unfold extX extY
  rw [w32 (n := -b.ax) (by omega), w32 (n := -b.ay) (by omega), w32 (n := max b.ax (-b.ax) + b.radius) (by omega), w32 (n := max b.ay (-b.ay) + b.radius) (by omega)]
  exact ⟨rfl, hb⟩
theorem ext_bd {b : Body} (h : Placed b) : (4096 ≤ extX b ∧ extX b ≤ 8388608) ∧ (4096 ≤ extY b ∧ extY b ≤ 8388608) := by
  obtain ⟨h1, h2, h3, h4, h5⟩ := h
  unfold extX extY; omega

set_option maxHeartbeats 1000000 in
theorem boxOf_any (b : Body) (w : World) (h : Placed b) : Calls Tryz.prog 169 #[.agg b.arr] w fun e w' => e = .returned (.agg (boxI b).arr) ∧ Below w.heap.size w w' := by
  have HE := fun w => extent_pl b w h
  obtain ⟨⟨x0, x1⟩, y0, y1⟩ := ext_bd h
  obtain ⟨_, _, _, ⟨p0, p1⟩, q0, q1⟩ := h
  have hb : boxI b = ⟨b.px - extX b, b.py - extY b, b.px + extX b, b.py + extY b⟩ := rfl
  rw [hb]
  clear hb
  generalize extX b = X at *
  generalize extY b = Y at *
  go_enter Tryz.func169, Tryz.ntmps169
  go_wp2_with fail
  refine (HE _).mono ?_
  rintro e w1 ⟨rfl, hb⟩
  obtain ⟨g1, rfl⟩ := Grow.of hb
  clear hb
  have zz1 : w.heap.size < g1.world.heap.size := Nat.lt_of_lt_of_le (by first | omega | (simp; done) | (simp; omega)) g1.le
  have zz2 : w.heap.size + 1 < g1.world.heap.size := Nat.lt_of_lt_of_le (by first | omega | (simp; done) | (simp; omega)) g1.le
  have c0 : CellsAt g1.world (w.heap.size + 1) #[.int .i32 0, .int .i32 0, .int .i32 0, .int .i32 0] 220 := (by repeat (first | with_reducible exact CellsAt.newAt (by first | rfl | (simp; done) | omega) rfl | with_reducible refine CellsAt.alloc ?_ _ | with_reducible refine CellsAt.drewN ?_ _ | with_reducible refine CellsAt.drew ?_ | with_reducible refine CellsAt.grow ?_ _ | with_reducible refine CellsAt.far ?_ (by first | omega | (simp; done) | (simp; omega)) _))
  go_wp2_with fail
  refine bodyPost_ret (v := .agg #[.int .i32 (b.px - X), .int .i32 (b.py - Y), .int .i32 (b.px + X), .int .i32 (b.py + Y)]) (ret_cells (w.heap.size + 1) #[.int .i32 (b.px - X), .int .i32 (b.py - Y), .int .i32 (b.px + X), .int .i32 (b.py + Y)] 220 ?_ ?_) rfl ⟨rfl, (by repeat (first | with_reducible exact Below.refl _ _ | with_reducible refine bel_alloc ?_ _ | with_reducible refine bel_drewN ?_ _ | with_reducible refine bel_drew ?_ | with_reducible refine bel_grow ?_ _ | with_reducible refine bel_set ?_ (by first | omega | (simp; done) | (simp; omega)) _))⟩
  · exact ((((c0.set 0 _).set 1 _).set 2 _).set 3 _).eq (by simp)
  · intro W K
    have kk3 : W.cell? ⟨w.heap.size + 1, 0, none⟩ = some (.int .i32 (b.px - X)) := K.at 0 rfl
    have kk4 : W.cell? ⟨w.heap.size + 1, 1, none⟩ = some (.int .i32 (b.py - Y)) := K.at 1 rfl
    have kk5 : W.cell? ⟨w.heap.size + 1, 2, none⟩ = some (.int .i32 (b.px + X)) := K.at 2 rfl
    have kk6 : W.cell? ⟨w.heap.size + 1, 3, none⟩ = some (.int .i32 (b.py + Y)) := K.at 3 rfl
    simp [results, Tryz.results169, go_sem, *]

set_option maxHeartbeats 1000000 in
theorem empty_any (a b c d : Int) (w : World) : Calls Tryz.prog 200 #[.agg #[.int .i32 a, .int .i32 b, .int .i32 c, .int .i32 d]] w fun e w' => e = .returned (.bool (emptyB ⟨a, b, c, d⟩)) ∧ Below w.heap.size w w' := by
  by_cases h1 : c < a
  · have he : emptyB ⟨a, b, c, d⟩ = true := by simp [emptyB, h1]
    rw [he]
    clear he
    go_enter Tryz.func200, Tryz.ntmps200
    go_wp2
    go_ret
    exact ⟨rfl, (by repeat (first | with_reducible exact Below.refl _ _ | with_reducible refine bel_alloc ?_ _ | with_reducible refine bel_drewN ?_ _ | with_reducible refine bel_drew ?_ | with_reducible refine bel_grow ?_ _ | with_reducible refine bel_set ?_ (by first | omega | (simp; done) | (simp; omega)) _))⟩
  · by_cases h2 : d < b
    · have he : emptyB ⟨a, b, c, d⟩ = true := by simp [emptyB, h2]
      rw [he]
      clear he
      go_enter Tryz.func200, Tryz.ntmps200
      go_wp2
      go_ret
      exact ⟨ret_bool (by first | rfl | (simp; done) | (simp; omega)), (by repeat (first | with_reducible exact Below.refl _ _ | with_reducible refine bel_alloc ?_ _ | with_reducible refine bel_drewN ?_ _ | with_reducible refine bel_drew ?_ | with_reducible refine bel_grow ?_ _ | with_reducible refine bel_set ?_ (by first | omega | (simp; done) | (simp; omega)) _))⟩
    · have he : emptyB ⟨a, b, c, d⟩ = false := by simp [emptyB]; omega
      rw [he]
      clear he
      go_enter Tryz.func200, Tryz.ntmps200
      go_wp2
      go_ret
      exact ⟨ret_bool (by first | rfl | (simp; done) | (simp; omega)), (by repeat (first | with_reducible exact Below.refl _ _ | with_reducible refine bel_alloc ?_ _ | with_reducible refine bel_drewN ?_ _ | with_reducible refine bel_drew ?_ | with_reducible refine bel_grow ?_ _ | with_reducible refine bel_set ?_ (by first | omega | (simp; done) | (simp; omega)) _))⟩

set_option maxHeartbeats 1000000 in
theorem meet_any (a b c d a' b' c' d' : Int) (w : World) (hG : Glob w) : Calls Tryz.prog 201 #[.agg #[.int .i32 a, .int .i32 b, .int .i32 c, .int .i32 d], .agg #[.int .i32 a', .int .i32 b', .int .i32 c', .int .i32 d']] w fun e w' =>
    e = .returned (.agg (if emptyB (meetB ⟨a, b, c, d⟩ ⟨a', b', c', d'⟩) = true then noneB else meetB ⟨a, b, c, d⟩ ⟨a', b', c', d'⟩).arr) ∧ Below w.heap.size w w' := by
  have hm : meetB ⟨a, b, c, d⟩ ⟨a', b', c', d'⟩ = ⟨max a a', max b b', min c c', min d d'⟩ := rfl
  have hsz := hG.size
  rw [hm]
  clear hm
  obtain ⟨A, hA⟩ : ∃ A, max a a' = A := ⟨_, rfl⟩
  obtain ⟨B, hB⟩ : ∃ B, max b b' = B := ⟨_, rfl⟩
  obtain ⟨C, hC⟩ : ∃ C, min c c' = C := ⟨_, rfl⟩
  obtain ⟨D, hD⟩ : ∃ D, min d d' = D := ⟨_, rfl⟩
  rw [hA, hB, hC, hD]
  by_cases he : emptyB ⟨A, B, C, D⟩ = true
  · rw [if_pos he]
    show Calls _ _ _ _ fun e w' => e = .returned (.agg #[.int .i32 1, .int .i32 0, .int .i32 0, .int .i32 0]) ∧ _
    go_enter Tryz.func201, Tryz.ntmps201
    go_wp2_with fail
    refine (empty_any A B C D _).mono ?_
    rintro e w1 ⟨rfl, hb⟩
    obtain ⟨g1, rfl⟩ := Grow.of hb
    clear hb
    have zz7 : w.heap.size + 1 + 1 < g1.world.heap.size := Nat.lt_of_lt_of_le (by first | omega | (simp; done) | (simp; omega)) g1.le
    have zz8 : w.heap.size + 1 + 1 + 1 < g1.world.heap.size := Nat.lt_of_lt_of_le (by first | omega | (simp; done) | (simp; omega)) g1.le
    obtain ⟨_, _, n0, n1, n2, n3⟩ := ((((hG.alloc _).alloc _).alloc _).alloc _).grow g1
    have c0 : CellsAt g1.world (w.heap.size + 1 + 1) #[.int .i32 0, .int .i32 0, .int .i32 0, .int .i32 0] 220 := (by repeat (first | with_reducible exact CellsAt.newAt (by first | rfl | (simp; done) | omega) rfl | with_reducible refine CellsAt.alloc ?_ _ | with_reducible refine CellsAt.drewN ?_ _ | with_reducible refine CellsAt.drew ?_ | with_reducible refine CellsAt.grow ?_ _ | with_reducible refine CellsAt.far ?_ (by first | omega | (simp; done) | (simp; omega)) _))
    have kk9 : g1.world.frozen? ⟨w.heap.size + 1 + 1, 0, none⟩ = false := c0.froz 0
    have kk10 : g1.world.frozen? ⟨w.heap.size + 1 + 1, 1, none⟩ = false := c0.froz 1
    have kk11 : g1.world.frozen? ⟨w.heap.size + 1 + 1, 2, none⟩ = false := c0.froz 2
    have kk12 : g1.world.frozen? ⟨w.heap.size + 1 + 1, 3, none⟩ = false := c0.froz 3
    have kk13 : g1.world.cell? ⟨w.heap.size + 1 + 1, 0, none⟩ = some (.int .i32 0) := c0.at 0 rfl
    have kk14 : g1.world.cell? ⟨w.heap.size + 1 + 1, 1, none⟩ = some (.int .i32 0) := c0.at 1 rfl
    have kk15 : g1.world.cell? ⟨w.heap.size + 1 + 1, 2, none⟩ = some (.int .i32 0) := c0.at 2 rfl
    have kk16 : g1.world.cell? ⟨w.heap.size + 1 + 1, 3, none⟩ = some (.int .i32 0) := c0.at 3 rfl
    go_wp2_with fail
    refine bodyPost_ret (v := .agg #[.int .i32 1, .int .i32 0, .int .i32 0, .int .i32 0]) (ret_cells (w.heap.size + 1 + 1) #[.int .i32 1, .int .i32 0, .int .i32 0, .int .i32 0] 220 ?_ ?_) rfl ⟨rfl, (by repeat (first | with_reducible exact Below.refl _ _ | with_reducible refine bel_alloc ?_ _ | with_reducible refine bel_drewN ?_ _ | with_reducible refine bel_drew ?_ | with_reducible refine bel_grow ?_ _ | with_reducible refine bel_set ?_ (by first | omega | (simp; done) | (simp; omega)) _))⟩
    · exact ((((c0.set 0 _).set 1 _).set 2 _).set 3 _).eq (by simp)
    · intro W K
      have kk17 : W.cell? ⟨w.heap.size + 1 + 1, 0, none⟩ = some (.int .i32 1) := K.at 0 rfl
      have kk18 : W.cell? ⟨w.heap.size + 1 + 1, 1, none⟩ = some (.int .i32 0) := K.at 1 rfl
      have kk19 : W.cell? ⟨w.heap.size + 1 + 1, 2, none⟩ = some (.int .i32 0) := K.at 2 rfl
      have kk20 : W.cell? ⟨w.heap.size + 1 + 1, 3, none⟩ = some (.int .i32 0) := K.at 3 rfl
      simp [results, Tryz.results201, go_sem, *]
  · rw [if_neg he]
    show Calls _ _ _ _ fun e w' => e = .returned (.agg #[.int .i32 A, .int .i32 B, .int .i32 C, .int .i32 D]) ∧ _
    have he' : emptyB ⟨A, B, C, D⟩ = false := by simpa using he
    clear he
    go_enter Tryz.func201, Tryz.ntmps201
    go_wp2_with fail
    refine (empty_any A B C D _).mono ?_
    rintro e w1 ⟨rfl, hb⟩
    obtain ⟨g1, rfl⟩ := Grow.of hb
    clear hb
    have zz21 : w.heap.size + 1 + 1 < g1.world.heap.size := Nat.lt_of_lt_of_le (by first | omega | (simp; done) | (simp; omega)) g1.le
    have zz22 : w.heap.size + 1 + 1 + 1 < g1.world.heap.size := Nat.lt_of_lt_of_le (by first | omega | (simp; done) | (simp; omega)) g1.le
    have c0 : CellsAt g1.world (w.heap.size + 1 + 1) #[.int .i32 0, .int .i32 0, .int .i32 0, .int .i32 0] 220 := (by repeat (first | with_reducible exact CellsAt.newAt (by first | rfl | (simp; done) | omega) rfl | with_reducible refine CellsAt.alloc ?_ _ | with_reducible refine CellsAt.drewN ?_ _ | with_reducible refine CellsAt.drew ?_ | with_reducible refine CellsAt.grow ?_ _ | with_reducible refine CellsAt.far ?_ (by first | omega | (simp; done) | (simp; omega)) _))
    have kk23 : g1.world.frozen? ⟨w.heap.size + 1 + 1, 0, none⟩ = false := c0.froz 0
    have kk24 : g1.world.frozen? ⟨w.heap.size + 1 + 1, 1, none⟩ = false := c0.froz 1
    have kk25 : g1.world.frozen? ⟨w.heap.size + 1 + 1, 2, none⟩ = false := c0.froz 2
    have kk26 : g1.world.frozen? ⟨w.heap.size + 1 + 1, 3, none⟩ = false := c0.froz 3
    have kk27 : g1.world.cell? ⟨w.heap.size + 1 + 1, 0, none⟩ = some (.int .i32 0) := c0.at 0 rfl
    have kk28 : g1.world.cell? ⟨w.heap.size + 1 + 1, 1, none⟩ = some (.int .i32 0) := c0.at 1 rfl
    have kk29 : g1.world.cell? ⟨w.heap.size + 1 + 1, 2, none⟩ = some (.int .i32 0) := c0.at 2 rfl
    have kk30 : g1.world.cell? ⟨w.heap.size + 1 + 1, 3, none⟩ = some (.int .i32 0) := c0.at 3 rfl
    go_wp2_with fail
    refine bodyPost_ret (v := .agg #[.int .i32 A, .int .i32 B, .int .i32 C, .int .i32 D]) (ret_cells (w.heap.size + 1 + 1) #[.int .i32 A, .int .i32 B, .int .i32 C, .int .i32 D] 220 ?_ ?_) rfl ⟨rfl, (by repeat (first | with_reducible exact Below.refl _ _ | with_reducible refine bel_alloc ?_ _ | with_reducible refine bel_drewN ?_ _ | with_reducible refine bel_drew ?_ | with_reducible refine bel_grow ?_ _ | with_reducible refine bel_set ?_ (by first | omega | (simp; done) | (simp; omega)) _))⟩
    · exact ((((c0.set 0 _).set 1 _).set 2 _).set 3 _).eq (by simp)
    · intro W K
      have kk31 : W.cell? ⟨w.heap.size + 1 + 1, 0, none⟩ = some (.int .i32 A) := K.at 0 rfl
      have kk32 : W.cell? ⟨w.heap.size + 1 + 1, 1, none⟩ = some (.int .i32 B) := K.at 1 rfl
      have kk33 : W.cell? ⟨w.heap.size + 1 + 1, 2, none⟩ = some (.int .i32 C) := K.at 2 rfl
      have kk34 : W.cell? ⟨w.heap.size + 1 + 1, 3, none⟩ = some (.int .i32 D) := K.at 3 rfl
      simp [results, Tryz.results201, go_sem, *]

theorem empty_none : emptyB noneB = true := by decide
set_option maxHeartbeats 1000000 in
theorem overlap_any (a b : BoxI) (w : World) (hG : Glob w) : Calls Tryz.prog 173 #[.agg a.arr, .agg b.arr] w fun e w' => e = .returned (.bool (overlapI a b)) ∧ Below w.heap.size w w' := by
  have HM := fun w hG => meet_any a.x0 a.y0 a.x1 a.y1 b.x0 b.y0 b.x1 b.y1 w hG
  have ho : overlapI a b = !emptyB (if emptyB (meetB a b) = true then noneB else meetB a b) := by
    unfold overlapI
    split
    · rename_i h; rw [h, empty_none]
    · rfl
  have hab : meetB ⟨a.x0, a.y0, a.x1, a.y1⟩ ⟨b.x0, b.y0, b.x1, b.y1⟩ = meetB a b := rfl
  rw [hab] at HM
  rw [ho]
  clear ho hab
  generalize (if emptyB (meetB a b) = true then noneB else meetB a b) = r at *
  go_enter Tryz.func173, Tryz.ntmps173
  go_wp2_with fail
  refine (HM _ ((hG.alloc _).alloc _)).mono ?_
  rintro e w1 ⟨rfl, hb⟩
  obtain ⟨g1, rfl⟩ := Grow.of hb
  clear hb
  go_wp2_with fail
  refine (empty_any _ _ _ _ _).mono ?_
  rintro e w1 ⟨rfl, hb⟩
  obtain ⟨g2, rfl⟩ := Grow.of hb
  clear hb
  go_wp2_with fail
  go_ret
  exact ⟨rfl, (by repeat (first | with_reducible exact Below.refl _ _ | with_reducible refine bel_alloc ?_ _ | with_reducible refine bel_drewN ?_ _ | with_reducible refine bel_drew ?_ | with_reducible refine bel_grow ?_ _ | with_reducible refine bel_set ?_ (by first | omega | (simp; done) | (simp; omega)) _))⟩
end Go.Proofs.YtnhaiecbjipodaaGreatDoor
/- The contracts of cmp.Compare at uint32, cmp.Or at two numbers, grid.pair, grid.compare. -/
namespace Go.Proofs.YtnhaiecbjipodaaGreatDoor
open Go.RowKit
attribute [local go_sem] Grow.cell Grow.froz Grow.lt lt_s1 lt_s2 lt_s3 lt_s4 lt_s5

def cmpI (x y : Int) : Int := if x < y then -1 else if y < x then 1 else 0
set_option maxHeartbeats 400000 in
theorem isNaN_any (x : Int) (w : World) : Calls Tryz.prog 89 #[.int .u32 x] w fun e w' => e = .returned (.bool false) ∧ w' = w := by
  go_enter Tryz.func89, Tryz.ntmps89
  go_wp2
  go_ret
  exact ⟨ret_bool (by simp), rfl⟩
set_option maxHeartbeats 400000 in
theorem compare_u32 (x y : Int) (w : World) : Calls Tryz.prog 51 #[.int .u32 x, .int .u32 y] w fun e w' => e = .returned (.int .i64 (cmpI x y)) ∧ w' = w := by
  by_cases h1 : x < y
  · have e : cmpI x y = -1 := by simp [cmpI, h1]
    rw [e]
    go_enter Tryz.func51, Tryz.ntmps51
    go_wp2_with fail
    refine (isNaN_any _ _).mono ?_
    rintro e w' ⟨rfl, rfl⟩
    go_wp2_with fail
    refine (isNaN_any _ _).mono ?_
    rintro e w' ⟨rfl, rfl⟩
    go_wp2_with fail
    go_ret
    exact ⟨rfl, rfl⟩
  · by_cases h2 : y < x
    · have e : cmpI x y = 1 := by simp [cmpI, h1, h2]
      rw [e]
      go_enter Tryz.func51, Tryz.ntmps51
      go_wp2_with fail
      refine (isNaN_any _ _).mono ?_
      rintro e w' ⟨rfl, rfl⟩
      go_wp2_with fail
      refine (isNaN_any _ _).mono ?_
      rintro e w' ⟨rfl, rfl⟩
      go_wp2_with fail
      go_ret
      exact ⟨rfl, rfl⟩
    · have e : cmpI x y = 0 := by simp [cmpI, h1, h2]
      rw [e]
      go_enter Tryz.func51, Tryz.ntmps51
      go_wp2_with fail
      refine (isNaN_any _ _).mono ?_
      rintro e w' ⟨rfl, rfl⟩
      go_wp2_with fail
      refine (isNaN_any _ _).mono ?_
      rintro e w' ⟨rfl, rfl⟩
      go_wp2_with fail
      go_ret
      exact ⟨rfl, rfl⟩
set_option maxHeartbeats 400000 in
theorem pair_any (x y : Int) (w : World) : Calls Tryz.prog 176 #[.int .u32 x, .int .u32 y] w fun e w' => e = .returned (.agg #[.int .u32 (min x y), .int .u32 (max x y)]) ∧ Below w.heap.size w w' := by
  go_enter Tryz.func176, Tryz.ntmps176
  go_upto_region 1 with fail
  obtain ⟨m, hm⟩ : ∃ m, min x y = m := ⟨_, rfl⟩
  obtain ⟨M, hM⟩ : ∃ M, max x y = M := ⟨_, rfl⟩
  go_wp2
  all_goals refine bodyPost_ret (v := .agg #[.int .u32 m, .int .u32 M]) (by simp [results, Tryz.results176, go_sem]) rfl ⟨by rw [hm, hM], (by repeat (first | with_reducible exact Below.refl _ _ | with_reducible refine bel_alloc ?_ _ | with_reducible refine bel_drewN ?_ _ | with_reducible refine bel_drew ?_ | with_reducible refine bel_grow ?_ _ | with_reducible refine bel_set ?_ (by first | omega | (simp; done) | (simp; omega)) _))⟩
set_option maxHeartbeats 1000000 in
theorem or_any (x y : Int) (b : Nat) (w : World) (h0 : w.cell? ⟨b, 0, none⟩ = some (.int .i64 x)) (h1 : w.cell? ⟨b, 1, none⟩ = some (.int .i64 y)) : Calls Tryz.prog 205 #[.slice (some ⟨b, 0, none⟩) 2 2] w fun e w' => e = .returned (.int .i64 (if x = 0 then y else x)) ∧ w' = w := by
  go_enter Tryz.func205, Tryz.ntmps205
  go_wp2
  go_loopw [8] (fun i wr => ∃ k : Nat, k ≤ 2 ∧ i = .int .i64 k ∧ (0 < k → x = 0) ∧ (1 < k → y = 0) ∧ wr = w) (fun i _ => 2 - (intOf i).toNat)
  case atStart => exact ⟨0, by omega, rfl, by omega, by omega, rfl⟩
  case round =>
    obtain ⟨k, hk, rfl, hx, hy, rfl⟩ := hrel
    obtain rfl | rfl | rfl : k = 0 ∨ k = 1 ∨ k = 2 := by omega
    · by_cases h : x = 0
      · have h' : (x != 0) = false := by simpa using h
        go_wp2
        go_roundw
        case rel => exact ⟨1, by omega, rfl, fun _ => h, by omega, by first | rfl | trivial⟩
        case measure => simp [intOf]
      · have h' : (x != 0) = true := by simpa using h
        go_wp2
        go_ret
        exact ⟨ret_int (by first | rfl | rw [if_neg h]), rfl⟩
    · have h := hx (by omega)
      by_cases h2 : y = 0
      · have h' : (y != 0) = false := by simpa using h2
        go_wp2
        go_roundw
        case rel => exact ⟨2, by omega, rfl, fun _ => h, fun _ => h2, by first | rfl | trivial⟩
        case measure => simp [intOf]
      · have h' : (y != 0) = true := by simpa using h2
        go_wp2
        go_ret
        exact ⟨ret_int (by first | rfl | rw [if_pos h]), rfl⟩
    · have h := hx (by omega)
      have h2 := hy (by omega)
      go_wp2
      go_ret
      exact ⟨ret_int (by first | rfl | rw [if_pos h, h2]), rfl⟩
end Go.Proofs.YtnhaiecbjipodaaGreatDoor
/- The contracts of cell.Bucket, cell.Of, cell.Span. -/
namespace Go.Proofs.YtnhaiecbjipodaaGreatDoor
open Go.RowKit
attribute [local go_sem] Grow.cell Grow.froz Grow.lt lt_s1 lt_s2 lt_s3 lt_s4 lt_s5

def bucketI (c : Int × Int) : Int := bits BinOp.and IntKind.u32 (bits BinOp.xor IntKind.u32 (c.1 % 4294967296 * 73856093 % 4294967296) (c.2 % 4294967296 * 19349663 % 4294967296)) 1023
theorem and1023 (x : Int) : 0 ≤ bits BinOp.and IntKind.u32 x 1023 ∧ bits BinOp.and IntKind.u32 x 1023 < 1024 := by
  show 0 ≤ IntKind.u32.wrap ((BitVec.ofInt 32 x &&& BitVec.ofInt 32 1023).toNat : Int) ∧ IntKind.u32.wrap ((BitVec.ofInt 32 x &&& BitVec.ofInt 32 1023).toNat : Int) < 1024
  have h : (BitVec.ofInt 32 x &&& BitVec.ofInt 32 1023).toNat ≤ 1023 := by
    rw [BitVec.toNat_and]
    exact Nat.and_le_right
  rw [IntKind.wrap_u32]
  omega
theorem bucketI_bd (c : Int × Int) : 0 ≤ bucketI c ∧ bucketI c < 1024 := and1023 _
set_option maxHeartbeats 1000000 in
theorem bucket_any (x y : Int) (w : World) (hG : Glob w) : Calls Tryz.prog 171 #[.agg #[.int .i32 x, .int .i32 y]] w fun e w' => e = .returned (.int .i64 (bucketI (x, y))) ∧ Below w.heap.size w w' := by
  have hb := bucketI_bd (x, y)
  unfold bucketI at *
  obtain ⟨f0, f1, _, _, _, _⟩ := hG.alloc (.cells #[.int .i32 x, .int .i32 y] 254)
  go_enter Tryz.func171, Tryz.ntmps171
  have HB := Lib.hid hb
  clear hb
  go_wp2
  go_ret
  exact ⟨ret_int (IntWalk.wrap64_in _ ⟨by have := HB.out; omega, by have := HB.out; omega⟩), (by repeat (first | with_reducible exact Below.refl _ _ | with_reducible refine bel_alloc ?_ _ | with_reducible refine bel_drewN ?_ _ | with_reducible refine bel_drew ?_ | with_reducible refine bel_grow ?_ _ | with_reducible refine bel_set ?_ (by first | omega | (simp; done) | (simp; omega)) _))⟩

set_option maxHeartbeats 1000000 in
theorem cellOf_any (x y : Int) (w : World) : Calls Tryz.prog 231 #[.agg #[.int .i32 x, .int .i32 y]] w fun e w' => e = .returned (.agg #[.int .i32 (x / 4194304), .int .i32 (y / 4194304)]) ∧ Below w.heap.size w w' := by
  go_enter Tryz.func231, Tryz.ntmps231
  go_wp2
  refine bodyPost_ret (v := .agg #[.int .i32 (x / 4194304), .int .i32 (y / 4194304)]) (by simp [results, Tryz.results231, go_sem]) rfl ⟨rfl, (by repeat (first | with_reducible exact Below.refl _ _ | with_reducible refine bel_alloc ?_ _ | with_reducible refine bel_drewN ?_ _ | with_reducible refine bel_drew ?_ | with_reducible refine bel_grow ?_ _ | with_reducible refine bel_set ?_ (by first | omega | (simp; done) | (simp; omega)) _))⟩

def BoxI.Fit (a : BoxI) : Prop := (-2147483648 ≤ a.x0 ∧ a.x0 ≤ 2147483647) ∧ (-2147483648 ≤ a.y0 ∧ a.y0 ≤ 2147483647) ∧ (-2147483648 ≤ a.x1 ∧ a.x1 ≤ 2147483647) ∧ (-2147483648 ≤ a.y1 ∧ a.y1 ≤ 2147483647)
set_option maxHeartbeats 1000000 in
theorem span_any (a : BoxI) (w : World) (hf : a.Fit) (he : emptyB a = false) : Calls Tryz.prog 221 #[.agg a.arr] w fun e w' => e = .returned (.tuple #[.agg #[.int .i32 (a.x0 / 4194304), .int .i32 (a.y0 / 4194304)], .agg #[.int .i32 (a.x1 / 4194304), .int .i32 (a.y1 / 4194304)], .bool true]) ∧ Below w.heap.size w w' := by
  obtain ⟨a, b, c, d⟩ := a
  obtain ⟨⟨h0, h1⟩, ⟨h2, h3⟩, ⟨h4, h5⟩, h6, h7⟩ := hf
  simp only at *
  go_enter Tryz.func221, Tryz.ntmps221
  go_wp2_with fail
  refine (empty_any a b c d _).mono ?_
  rintro e w1 ⟨rfl, hb⟩
  obtain ⟨g1, rfl⟩ := Grow.of hb
  clear hb
  have zz1 : w.heap.size < g1.world.heap.size := Nat.lt_of_lt_of_le (by first | omega | (simp; done) | (simp; omega)) g1.le
  have zz2 : w.heap.size + 1 < g1.world.heap.size := Nat.lt_of_lt_of_le (by first | omega | (simp; done) | (simp; omega)) g1.le
  have zz3 : w.heap.size + 1 + 1 < g1.world.heap.size := Nat.lt_of_lt_of_le (by first | omega | (simp; done) | (simp; omega)) g1.le
  go_wp2_with fail
  refine wp_region_grow_tail 12 (by kernel_rfl) (by kernel_rfl) ?_
  simp only [List.take_succ_cons, List.take_zero]
  repeat (first | go_big_quiet_skip | (go_big_quiet_want; go_big_quiet_op; first | go_big_quiet_on | (go_big_quiet_call (first
      | (go_at_call 231; exact Calls.grow_of (cellOf_any _ _ _))))))
  refine wpQuiet_nil ?_
  rintro _ ⟨g2, rfl⟩
  simp only [List.drop_succ_cons, List.drop_zero]
  have zz4 : w.heap.size < g2.world.heap.size := Nat.lt_of_lt_of_le (by first | omega | (simp; done) | (simp; omega)) g2.le
  have zz5 : w.heap.size + 1 < g2.world.heap.size := Nat.lt_of_lt_of_le (by first | omega | (simp; done) | (simp; omega)) g2.le
  have zz6 : w.heap.size + 1 + 1 < g2.world.heap.size := Nat.lt_of_lt_of_le (by first | omega | (simp; done) | (simp; omega)) g2.le
  have c0 : CellsAt g2.world (w.heap.size + 1) #[.int .i32 0, .int .i32 0] 254 := (by repeat (first | with_reducible exact CellsAt.newAt (by first | rfl | (simp; done) | omega) rfl | with_reducible refine CellsAt.alloc ?_ _ | with_reducible refine CellsAt.drewN ?_ _ | with_reducible refine CellsAt.drew ?_ | with_reducible refine CellsAt.grow ?_ _ | with_reducible refine CellsAt.far ?_ (by first | omega | (simp; done) | (simp; omega)) _))
  have c1 : CellsAt g2.world (w.heap.size + 1 + 1) #[.int .i32 0, .int .i32 0] 254 := (by repeat (first | with_reducible exact CellsAt.newAt (by first | rfl | (simp; done) | omega) rfl | with_reducible refine CellsAt.alloc ?_ _ | with_reducible refine CellsAt.drewN ?_ _ | with_reducible refine CellsAt.drew ?_ | with_reducible refine CellsAt.grow ?_ _ | with_reducible refine CellsAt.far ?_ (by first | omega | (simp; done) | (simp; omega)) _))
  have kk7 : g2.world.frozen? ⟨w.heap.size + 1, 0, none⟩ = false := c0.froz 0
  have kk8 : g2.world.frozen? ⟨w.heap.size + 1, 1, none⟩ = false := c0.froz 1
  have kk9 : g2.world.frozen? ⟨w.heap.size + 1 + 1, 0, none⟩ = false := c1.froz 0
  have kk10 : g2.world.frozen? ⟨w.heap.size + 1 + 1, 1, none⟩ = false := c1.froz 1
  have kk11 : g2.world.cell? ⟨w.heap.size + 1, 0, none⟩ = some (.int .i32 0) := c0.at 0 rfl
  have kk12 : g2.world.cell? ⟨w.heap.size + 1, 1, none⟩ = some (.int .i32 0) := c0.at 1 rfl
  have kk13 : g2.world.cell? ⟨w.heap.size + 1 + 1, 0, none⟩ = some (.int .i32 0) := c1.at 0 rfl
  have kk14 : g2.world.cell? ⟨w.heap.size + 1 + 1, 1, none⟩ = some (.int .i32 0) := c1.at 1 rfl
  go_wp2_with fail
  refine bodyPost_ret (v := .tuple #[.agg #[.int .i32 (a / 4194304), .int .i32 (b / 4194304)], .agg #[.int .i32 (c / 4194304), .int .i32 (d / 4194304)], .bool true]) (ret_cells2 (w.heap.size + 1) #[.int .i32 (a / 4194304), .int .i32 (b / 4194304)] 254 (w.heap.size + 1 + 1) #[.int .i32 (c / 4194304), .int .i32 (d / 4194304)] 254 ?_ ?_ ?_) rfl ⟨rfl, (by repeat (first | with_reducible exact Below.refl _ _ | with_reducible refine bel_alloc ?_ _ | with_reducible refine bel_drewN ?_ _ | with_reducible refine bel_drew ?_ | with_reducible refine bel_grow ?_ _ | with_reducible refine bel_set ?_ (by first | omega | (simp; done) | (simp; omega)) _))⟩
  · exact ((((c0.set 0 _).set 1 _).far (by omega) _).far (by omega) _).eq (by simp)
  · exact ((((c1.far (by omega) _).far (by omega) _).set 0 _).set 1 _).eq (by simp)
  · intro W K M
    have kk15 : W.cell? ⟨w.heap.size + 1, 0, none⟩ = some (.int .i32 (a / 4194304)) := K.at 0 rfl
    have kk16 : W.cell? ⟨w.heap.size + 1, 1, none⟩ = some (.int .i32 (b / 4194304)) := K.at 1 rfl
    have kk17 : W.cell? ⟨w.heap.size + 1 + 1, 0, none⟩ = some (.int .i32 (c / 4194304)) := M.at 0 rfl
    have kk18 : W.cell? ⟨w.heap.size + 1 + 1, 1, none⟩ = some (.int .i32 (d / 4194304)) := M.at 1 rfl
    simp [results, Tryz.results221, go_sem, *]
end Go.Proofs.YtnhaiecbjipodaaGreatDoor
/- The contract of contact.inOrder. -/
namespace Go.Proofs.YtnhaiecbjipodaaGreatDoor
open Go.RowKit
attribute [local go_sem] Grow.cell Grow.froz Grow.lt lt_s1 lt_s2 lt_s3 lt_s4 lt_s5

set_option maxRecDepth 100000 in
set_option maxHeartbeats 4000000 in
theorem inOrder_any (a b : Body) (w : World) (ha : Placed a) (hb : Placed b) (hk : a.key < b.key) : Calls Tryz.prog 180 #[.agg a.arr, .agg b.arr] w fun e w' => e = .returned (.tuple #[.agg (solidA a), .agg (solidA b)]) ∧ Below w.heap.size w w' := by
  have HA := Lib.hid ha
  have HB := Lib.hid hb
  clear ha hb
  go_enter Tryz.func180, Tryz.ntmps180
  go_wp2_with fail
  refine wp_region_grow_tail 4 (by kernel_rfl) (by kernel_rfl) ?_
  simp only [List.take_succ_cons, List.take_zero]
  repeat (first | go_big_quiet_skip | (go_big_quiet_want; go_big_quiet_op; first | go_big_quiet_on | (go_big_quiet_call (first
      | (go_at_call 206; exact Calls.grow_of (solidOf_fl _ _ _ _ _ _ _ _ _ _ _ (by first | exact HA.out | exact HB.out)))))))
  refine wpQuiet_nil ?_
  rintro _ ⟨g1, rfl⟩
  simp only [List.drop_succ_cons, List.drop_zero]
  have zz1 : w.heap.size < g1.world.heap.size := Nat.lt_of_lt_of_le (by first | omega | (simp; done) | (simp; omega)) g1.le
  have zz2 : w.heap.size + 1 < g1.world.heap.size := Nat.lt_of_lt_of_le (by first | omega | (simp; done) | (simp; omega)) g1.le
  have zz3 : w.heap.size + 1 + 1 < g1.world.heap.size := Nat.lt_of_lt_of_le (by first | omega | (simp; done) | (simp; omega)) g1.le
  have zz4 : w.heap.size + 1 + 1 + 1 < g1.world.heap.size := Nat.lt_of_lt_of_le (by first | omega | (simp; done) | (simp; omega)) g1.le
  have c0 : CellsAt g1.world (w.heap.size + 1 + 1) #[.int .u32 0, .int .i32 0, .int .i32 0, .int .i32 0, .int .i32 0, .int .i32 0, .int .i32 0, .int .i32 0, .int .i32 0, .int .i32 0, .int .i32 0, .int .i32 0, .int .i32 0, .int .i32 0] 267 := (by repeat (first | with_reducible exact CellsAt.newAt (by first | rfl | (simp; done) | omega) rfl | with_reducible refine CellsAt.alloc ?_ _ | with_reducible refine CellsAt.drewN ?_ _ | with_reducible refine CellsAt.drew ?_ | with_reducible refine CellsAt.grow ?_ _ | with_reducible refine CellsAt.far ?_ (by first | omega | (simp; done) | (simp; omega)) _))
  have c1 : CellsAt g1.world (w.heap.size + 1 + 1 + 1) #[.int .u32 0, .int .i32 0, .int .i32 0, .int .i32 0, .int .i32 0, .int .i32 0, .int .i32 0, .int .i32 0, .int .i32 0, .int .i32 0, .int .i32 0, .int .i32 0, .int .i32 0, .int .i32 0] 267 := (by repeat (first | with_reducible exact CellsAt.newAt (by first | rfl | (simp; done) | omega) rfl | with_reducible refine CellsAt.alloc ?_ _ | with_reducible refine CellsAt.drewN ?_ _ | with_reducible refine CellsAt.drew ?_ | with_reducible refine CellsAt.grow ?_ _ | with_reducible refine CellsAt.far ?_ (by first | omega | (simp; done) | (simp; omega)) _))
  go_wp2_with fail
  refine bodyPost_ret (v := .tuple #[.agg (solidA a), .agg (solidA b)]) (ret_cells2 (w.heap.size + 1 + 1) (solidA a) 267 (w.heap.size + 1 + 1 + 1) (solidA b) 267 ?_ ?_ ?_) rfl ⟨rfl, (by repeat (first | with_reducible exact Below.refl _ _ | with_reducible refine bel_alloc ?_ _ | with_reducible refine bel_drewN ?_ _ | with_reducible refine bel_drew ?_ | with_reducible refine bel_grow ?_ _ | with_reducible refine bel_set ?_ (by first | omega | (simp; done) | (simp; omega)) _))⟩
  · exact (((((((((((((((((((((((((((((c0.set 0 _).set 1 _).set 2 _).set 3 _).set 4 _).set 5 _).set 6 _).set 7 _).set 8 _).set 9 _).set 10 _).set 11 _).set 12 _).set 13 _).far (by omega) _).far (by omega) _).far (by omega) _).far (by omega) _).far (by omega) _).far (by omega) _).far (by omega) _).far (by omega) _).far (by omega) _).far (by omega) _).far (by omega) _).far (by omega) _).far (by omega) _).far (by omega) _)).eq (by simp)
  · exact (((((((((((((((((((((((((((((c1.far (by omega) _).far (by omega) _).far (by omega) _).far (by omega) _).far (by omega) _).far (by omega) _).far (by omega) _).far (by omega) _).far (by omega) _).far (by omega) _).far (by omega) _).far (by omega) _).far (by omega) _).far (by omega) _).set 0 _).set 1 _).set 2 _).set 3 _).set 4 _).set 5 _).set 6 _).set 7 _).set 8 _).set 9 _).set 10 _).set 11 _).set 12 _).set 13 _)).eq (by simp)
  · intro W K M
    have kk5 : W.cell? ⟨w.heap.size + 1 + 1, 0, none⟩ = some (.int .u32 a.key) := K.at 0 rfl
    have kk6 : W.cell? ⟨w.heap.size + 1 + 1, 1, none⟩ = some (.int .i32 a.radius) := K.at 1 rfl
    have kk7 : W.cell? ⟨w.heap.size + 1 + 1, 2, none⟩ = some (.int .i32 a.ax) := K.at 2 rfl
    have kk8 : W.cell? ⟨w.heap.size + 1 + 1, 3, none⟩ = some (.int .i32 a.ay) := K.at 3 rfl
    have kk9 : W.cell? ⟨w.heap.size + 1 + 1, 4, none⟩ = some (.int .i32 a.inv) := K.at 4 rfl
    have kk10 : W.cell? ⟨w.heap.size + 1 + 1, 5, none⟩ = some (.int .i32 a.bounce) := K.at 5 rfl
    have kk11 : W.cell? ⟨w.heap.size + 1 + 1, 6, none⟩ = some (.int .i32 a.px) := K.at 6 rfl
    have kk12 : W.cell? ⟨w.heap.size + 1 + 1, 7, none⟩ = some (.int .i32 a.py) := K.at 7 rfl
    have kk13 : W.cell? ⟨w.heap.size + 1 + 1, 8, none⟩ = some (.int .i32 a.vx) := K.at 8 rfl
    have kk14 : W.cell? ⟨w.heap.size + 1 + 1, 9, none⟩ = some (.int .i32 a.vy) := K.at 9 rfl
    have kk15 : W.cell? ⟨w.heap.size + 1 + 1, 10, none⟩ = some (.int .i32 (a.px - a.ax)) := K.at 10 rfl
    have kk16 : W.cell? ⟨w.heap.size + 1 + 1, 11, none⟩ = some (.int .i32 (a.py - a.ay)) := K.at 11 rfl
    have kk17 : W.cell? ⟨w.heap.size + 1 + 1, 12, none⟩ = some (.int .i32 (a.px + a.ax)) := K.at 12 rfl
    have kk18 : W.cell? ⟨w.heap.size + 1 + 1, 13, none⟩ = some (.int .i32 (a.py + a.ay)) := K.at 13 rfl
    have kk19 : W.cell? ⟨w.heap.size + 1 + 1 + 1, 0, none⟩ = some (.int .u32 b.key) := M.at 0 rfl
    have kk20 : W.cell? ⟨w.heap.size + 1 + 1 + 1, 1, none⟩ = some (.int .i32 b.radius) := M.at 1 rfl
    have kk21 : W.cell? ⟨w.heap.size + 1 + 1 + 1, 2, none⟩ = some (.int .i32 b.ax) := M.at 2 rfl
    have kk22 : W.cell? ⟨w.heap.size + 1 + 1 + 1, 3, none⟩ = some (.int .i32 b.ay) := M.at 3 rfl
    have kk23 : W.cell? ⟨w.heap.size + 1 + 1 + 1, 4, none⟩ = some (.int .i32 b.inv) := M.at 4 rfl
    have kk24 : W.cell? ⟨w.heap.size + 1 + 1 + 1, 5, none⟩ = some (.int .i32 b.bounce) := M.at 5 rfl
    have kk25 : W.cell? ⟨w.heap.size + 1 + 1 + 1, 6, none⟩ = some (.int .i32 b.px) := M.at 6 rfl
    have kk26 : W.cell? ⟨w.heap.size + 1 + 1 + 1, 7, none⟩ = some (.int .i32 b.py) := M.at 7 rfl
    have kk27 : W.cell? ⟨w.heap.size + 1 + 1 + 1, 8, none⟩ = some (.int .i32 b.vx) := M.at 8 rfl
    have kk28 : W.cell? ⟨w.heap.size + 1 + 1 + 1, 9, none⟩ = some (.int .i32 b.vy) := M.at 9 rfl
    have kk29 : W.cell? ⟨w.heap.size + 1 + 1 + 1, 10, none⟩ = some (.int .i32 (b.px - b.ax)) := M.at 10 rfl
    have kk30 : W.cell? ⟨w.heap.size + 1 + 1 + 1, 11, none⟩ = some (.int .i32 (b.py - b.ay)) := M.at 11 rfl
    have kk31 : W.cell? ⟨w.heap.size + 1 + 1 + 1, 12, none⟩ = some (.int .i32 (b.px + b.ax)) := M.at 12 rfl
    have kk32 : W.cell? ⟨w.heap.size + 1 + 1 + 1, 13, none⟩ = some (.int .i32 (b.py + b.ay)) := M.at 13 rfl
    simp [results, Tryz.results180, go_sem, *]
end Go.Proofs.YtnhaiecbjipodaaGreatDoor
/- The contract of contact.measure. -/
namespace Go.Proofs.YtnhaiecbjipodaaGreatDoor
open Go.RowKit
attribute [local go_sem] Grow.cell Grow.froz Grow.lt lt_s1 lt_s2 lt_s3 lt_s4 lt_s5

set_option maxRecDepth 100000 in
set_option maxHeartbeats 4000000 in
theorem measure_any (a b : Body) (w : World) (ha : Placed a) (hb : Placed b) : Calls Tryz.prog 181 #[.agg (solidA a), .agg (solidA b)] w fun e w' => e = .returned (.tuple #[.int .i64 (gapX a b), .int .i64 (gapY a b), .int .i64 (a.radius + b.radius)]) ∧ Below w.heap.size w w' := by
  have ea := ends_in ha
  have eb := ends_in hb
  have hz := chosenI_in ea.1 ea.2.1 eb.1 eb.2.1 ea.2.2 eb.2.2
  have HC := fun w => chosen_any (endA a) (endB a) (endA b) (endB b) w ea.1 ea.2.1 eb.1 eb.2.1 ea.2.2 eb.2.2
  have r1 := ha.radius
  have r2 := hb.radius
  unfold gapX gapY betweenI
  generalize chosenI (endA a) (endB a) (endA b) (endB b) = z at *
  clear ea eb ha hb
  obtain ⟨⟨⟨x0, x1⟩, x2, x3⟩, ⟨y0, y1⟩, y2, y3⟩ := hz
  obtain ⟨r10, r11⟩ := r1
  obtain ⟨r20, r21⟩ := r2
  go_enter Tryz.func181, Tryz.ntmps181
  go_wp2_with fail
  refine (HC _).mono ?_
  rintro e w1 ⟨rfl, hb⟩
  obtain ⟨g1, rfl⟩ := Grow.of hb
  clear hb
  have zz1 : w.heap.size < g1.world.heap.size := Nat.lt_of_lt_of_le (by first | omega | (simp; done) | (simp; omega)) g1.le
  have zz2 : w.heap.size + 1 < g1.world.heap.size := Nat.lt_of_lt_of_le (by first | omega | (simp; done) | (simp; omega)) g1.le
  go_wp2_with fail
  refine (diff_any _ _ _ _ _ ⟨by omega, by omega⟩ ⟨by omega, by omega⟩ ⟨by omega, by omega⟩ ⟨by omega, by omega⟩).mono ?_
  rintro e w1 ⟨rfl, hb⟩
  obtain ⟨g2, rfl⟩ := Grow.of hb
  clear hb
  have zz3 : w.heap.size < g2.world.heap.size := Nat.lt_of_lt_of_le (by first | omega | (simp; done) | (simp; omega)) g2.le
  have zz4 : w.heap.size + 1 < g2.world.heap.size := Nat.lt_of_lt_of_le (by first | omega | (simp; done) | (simp; omega)) g2.le
  go_wp2_with fail
  refine wp_region_grow (by kernel_rfl) (by kernel_rfl) ?_
  repeat (first | go_big_quiet_skip | (go_big_quiet_want; go_big_quiet_op; first | go_big_quiet_on))
  refine wpQuiet_nil ?_
  rintro _ ⟨g3, rfl⟩
  go_wp2_with fail
  go_ret3
  exact ⟨rfl, (by repeat (first | with_reducible exact Below.refl _ _ | with_reducible refine bel_alloc ?_ _ | with_reducible refine bel_drewN ?_ _ | with_reducible refine bel_drew ?_ | with_reducible refine bel_grow ?_ _ | with_reducible refine bel_set ?_ (by first | omega | (simp; done) | (simp; omega)) _))⟩
theorem touch_iff (a b : Body) : touchI a b = true ↔ lenSqI (gapX a b) (gapY a b) < (a.radius + b.radius) * (a.radius + b.radius) := by unfold touchI; simp
end Go.Proofs.YtnhaiecbjipodaaGreatDoor
