/- Contracts of the program's functions, by walks, and plain facts beside them: Data, Plain, Geo, Knuth, Grow, Map, Slices, Alter, Cells, Tail, MapKeys. -/
import Derived.WalkKit
import Derived.Deep.Quiet
import Derived.BigQuiet
import Derived.MapKept
import Derived.Laws.AppendOwn
import Derived.OwnWalk
import Derived.Maps.AppendAt
import Derived.Deep.AppendLies
import Derived.Laws.OwnMore
import Derived.Laws.Rows
import Derived.StillTail
/- Plain data for the proofs of this seat: bodies as ten numbers, the error of a body. No program in it. -/
namespace Go.Proofs.YtnhaiecbjipodaaGreatDoor
open Go.RowKit

structure Body where
  key : Int
  radius : Int
  ax : Int
  ay : Int
  inv : Int
  bounce : Int
  px : Int
  py : Int
  vx : Int
  vy : Int

def Body.cells (b : Body) : Array Value := #[.int .u32 b.key, .int .i32 b.radius, .int .i32 b.ax, .int .i32 b.ay, .int .i32 b.inv, .int .i32 b.bounce, .int .i32 b.px, .int .i32 b.py, .int .i32 b.vx, .int .i32 b.vy]

abbrev Body.arr (b : Body) : Array Value := #[.int .u32 b.key, .int .i32 b.radius, .int .i32 b.ax, .int .i32 b.ay, .int .i32 b.inv, .int .i32 b.bounce, .int .i32 b.px, .int .i32 b.py, .int .i32 b.vx, .int .i32 b.vy]
def I32 (n : Int) : Prop := -2147483648 ≤ n ∧ n ≤ 2147483647
structure Body.Fit (b : Body) : Prop where
  key : 0 ≤ b.key ∧ b.key ≤ 4294967295
  radius : I32 b.radius
  ax : I32 b.ax
  ay : I32 b.ay
  inv : I32 b.inv
  bounce : I32 b.bounce
  px : I32 b.px
  py : I32 b.py
  vx : I32 b.vx
  vy : I32 b.vy

def inB (x l : Int) : Bool := decide (-l ≤ x) && decide (x ≤ l)
def okRadius (b : Body) : Bool := decide (4096 ≤ b.radius) && decide (b.radius ≤ 4194304)
def okVec (x y l : Int) : Bool := decide (-l ≤ x) && (decide (x ≤ l) && (decide (-l ≤ y) && decide (y ≤ l)))
def okAxis (b : Body) : Bool := okVec b.ax b.ay 4194304
def okMass (b : Body) : Bool := decide (0 ≤ b.inv) && decide (b.inv ≤ 1048576)
def okBounce (b : Body) : Bool := decide (0 ≤ b.bounce) && decide (b.bounce ≤ 65536)
def okPlace (b : Body) : Bool := okVec b.px b.py 1073741824
def okSpeed (b : Body) : Bool := okVec b.vx b.vy 16777216

/-- The error of a body. -/
def errOf (b : Body) : Int :=
  if okRadius b = false then 4 else if okAxis b = false then 5 else if okMass b = false then 6 else if okBounce b = false then 7 else if okPlace b = false then 8 else if okSpeed b = false then 9 else 0

theorem w32 {n : Int} (h : -2147483648 ≤ n ∧ n ≤ 2147483647) : wrap32 n = n := IntWalk.wrap32_in n h
theorem errOf_zero {b : Body} : errOf b = 0 ↔ (4096 ≤ b.radius ∧ b.radius ≤ 4194304) ∧ (-4194304 ≤ b.ax ∧ b.ax ≤ 4194304 ∧ -4194304 ≤ b.ay ∧ b.ay ≤ 4194304) ∧ (0 ≤ b.inv ∧ b.inv ≤ 1048576) ∧ (0 ≤ b.bounce ∧ b.bounce ≤ 65536) ∧ (-1073741824 ≤ b.px ∧ b.px ≤ 1073741824 ∧ -1073741824 ≤ b.py ∧ b.py ≤ 1073741824) ∧ (-16777216 ≤ b.vx ∧ b.vx ≤ 16777216 ∧ -16777216 ≤ b.vy ∧ b.vy ≤ 16777216) := by
  simp only [errOf, okRadius, okAxis, okMass, okBounce, okPlace, okSpeed, okVec, Bool.and_eq_false_iff, decide_eq_false_iff_not]
  constructor
  · intro h
    repeat' split at h
    all_goals first | omega | contradiction
  · intro h
    repeat' rw [if_neg (by omega)]

def eqV (a b c d : Int) : Bool := a == c && (b == d && true)
def eqB (x y : Body) : Bool := x.key == y.key && (x.radius == y.radius && (eqV x.ax x.ay y.ax y.ay && (x.inv == y.inv && (x.bounce == y.bounce && (eqV x.px x.py y.px y.py && (eqV x.vx x.vy y.vx y.vy && true))))))
theorem eqB_iff (x y : Body) : eqB x y = true ↔ x = y := by
  cases x; cases y
  simp [eqB, eqV, and_assoc]
instance : DecidableEq Body := fun x y => if h : eqB x y = true then isTrue ((eqB_iff x y).1 h) else isFalse (fun e => h ((eqB_iff x y).2 e))

end Go.Proofs.YtnhaiecbjipodaaGreatDoor
/- Plain words for the whole program: lengths, roots, nearest points, contacts, cells, sums, shifts, steps, as functions of numbers and of bodies. No program in it. -/
namespace Go.Proofs.YtnhaiecbjipodaaGreatDoor
open Go.RowKit

def lenSqI (dx dy : Int) : Int := dx * dx + dy * dy
def isqBit (i : Nat) : Int := 4611686018427387904 / 2 ^ (2 * i)
def isqStep (s : Int × Int) (i : Nat) : Int × Int := if s.2 + isqBit i ≤ s.1 then (s.1 - (s.2 + isqBit i), s.2 / 2 + isqBit i) else (s.1, s.2 / 2)
def isqRun (n : Int) (k : Nat) : Int × Int := (List.range k).foldl isqStep (n, 0)
def isqrtI (n : Int) : Int := (isqRun n 32).2
theorem isqRun_succ (n : Int) (k : Nat) : isqRun n (k + 1) = isqStep (isqRun n k) k := by
  unfold isqRun
  rw [List.range_succ, List.foldl_append]; rfl
def lengthI (dx dy : Int) : Int := isqrtI (lenSqI dx dy)
def unitI (dx dy : Int) : Int × Int := if lengthI dx dy = 0 then (65536, 0) else (wrap32 (dx * 65536 / lengthI dx dy), wrap32 (dy * 65536 / lengthI dx dy))

/-- What the root's run keeps: a part that is left, and the root so far. -/
def isqTop (k : Nat) : Int := 2 ^ (64 - k) - 4 ^ (32 - k)
theorem isqRun_keeps {n : Int} (h0 : 0 ≤ n) (h1 : n ≤ 18446744073709551615) : ∀ k, k ≤ 32 → 0 ≤ (isqRun n k).1 ∧ (isqRun n k).1 ≤ n ∧ 0 ≤ (isqRun n k).2 ∧ (isqRun n k).2 ≤ isqTop k
  | 0, _ => ⟨h0, Int.le_refl _, Int.le_refl _, Int.le_refl _⟩
  | k + 1, hk => by
    obtain ⟨a0, a1, b0, b1⟩ := isqRun_keeps h0 h1 k (by omega)
    rw [isqRun_succ]
    generalize isqRun n k = s at *
    have hb : ∀ k, k < 32 → 0 ≤ isqBit k ∧ isqTop k / 2 + isqBit k ≤ isqTop (k + 1) := by decide +kernel
    obtain ⟨c0, c1⟩ := hb k (by omega)
    have hd : s.2 / 2 ≤ isqTop k / 2 := Int.ediv_le_ediv (by omega) b1
    unfold isqStep
    split
    · exact ⟨by simp only; omega, by simp only; omega, by simp only; omega, by simp only; omega⟩
    · exact ⟨a0, a1, by simp only; omega, by simp only; omega⟩
theorem isqrtI_bounds {n : Int} (h0 : 0 ≤ n) (h1 : n ≤ 18446744073709551615) : 0 ≤ isqrtI n ∧ isqrtI n ≤ 4294967295 := by
  obtain ⟨_, _, h2, h3⟩ := isqRun_keeps h0 h1 32 (by omega)
  exact ⟨h2, Int.le_trans h3 (by decide +kernel)⟩

/-- A contact: the keys, the normal, the depth. -/
structure Con where
  lo : Int
  hi : Int
  nx : Int
  ny : Int
  dep : Int
def Con.cells (c : Con) : Array Value := #[.int .u32 c.lo, .int .u32 c.hi, .int .i32 c.nx, .int .i32 c.ny, .int .i32 c.dep]
structure Con.Fit (c : Con) : Prop where
  nx : -2147483648 ≤ c.nx ∧ c.nx ≤ 2147483647
  ny : -2147483648 ≤ c.ny ∧ c.ny ≤ 2147483647
  dep : -2147483648 ≤ c.dep ∧ c.dep ≤ 2147483647
/-- What the solver keeps of a body. -/
structure Sound (b : Body) : Prop where
  inv : 0 ≤ b.inv ∧ b.inv ≤ 1048576
  bounce : 0 ≤ b.bounce ∧ b.bounce ≤ 65536
  vx : -16777216 ≤ b.vx ∧ b.vx ≤ 16777216
  vy : -16777216 ≤ b.vy ∧ b.vy ≤ 16777216
def approachI (c : Con) (a b : Body) : Int := ((b.vx - a.vx) * c.nx + (b.vy - a.vy) * c.ny) / 65536
def strengthI (c : Con) (a b : Body) : Int := if 0 ≤ approachI c a b ∨ a.inv + b.inv = 0 then 0 else -approachI c a b * (65536 + max a.bounce b.bounce) / (a.inv + b.inv)
def changeI (j inv n : Int) : Int := j * inv / 65536 * n / 65536
theorem mul_abs {x y X Y : Int} (hx0 : -X ≤ x) (hx1 : x ≤ X) (hy0 : -Y ≤ y) (hy1 : y ≤ Y) : -(X * Y) ≤ x * y ∧ x * y ≤ X * Y := by
  have hX : 0 ≤ X := by omega
  have hY : 0 ≤ Y := by omega
  have key : ∀ u v : Int, 0 ≤ u → u ≤ X → 0 ≤ v → v ≤ Y → 0 ≤ u * v ∧ u * v ≤ X * Y := fun u v h1 h2 h3 h4 => ⟨Int.mul_nonneg h1 h3, Int.mul_le_mul h2 h4 h3 hX⟩
  rcases Int.le_total 0 x with h | h <;> rcases Int.le_total 0 y with k | k
  · have := key x y h hx1 k hy1; omega
  · have := key x (-y) h hx1 (by omega) (by omega); rw [Int.mul_neg] at this; omega
  · have := key (-x) y (by omega) (by omega) k hy1; rw [Int.neg_mul] at this; omega
  · have := key (-x) (-y) (by omega) (by omega) (by omega) (by omega); rw [Int.neg_mul_neg] at this; omega
theorem approach_prods {c : Con} {a b : Body} (hc : c.Fit) (ha : Sound a) (hb : Sound b) :
    (-72057594037927936 ≤ (b.vx - a.vx) * c.nx ∧ (b.vx - a.vx) * c.nx ≤ 72057594037927936) ∧ (-72057594037927936 ≤ (b.vy - a.vy) * c.ny ∧ (b.vy - a.vy) * c.ny ≤ 72057594037927936) := by
  obtain ⟨h1, h2, _⟩ := hc
  have a1 := ha.vx; have a2 := ha.vy; have b1 := hb.vx; have b2 := hb.vy
  have p := mul_abs (x := b.vx - a.vx) (y := c.nx) (X := 33554432) (Y := 2147483648) (by omega) (by omega) (by omega) (by omega)
  have q := mul_abs (x := b.vy - a.vy) (y := c.ny) (X := 33554432) (Y := 2147483648) (by omega) (by omega) (by omega) (by omega)
  omega
theorem approach_bd {c : Con} {a b : Body} (hc : c.Fit) (ha : Sound a) (hb : Sound b) : -2199023255552 ≤ approachI c a b ∧ approachI c a b ≤ 2199023255552 := by
  have := approach_prods hc ha hb
  unfold approachI
  omega
/-- A strength is not negative, and it is small where a mass is great. -/
theorem strength_bd {c : Con} {a b : Body} (hc : c.Fit) (ha : Sound a) (hb : Sound b) : 0 ≤ strengthI c a b ∧ strengthI c a b ≤ 288230376151711744 ∧ 0 ≤ strengthI c a b * a.inv ∧ strengthI c a b * a.inv ≤ 288230376151711744 ∧ 0 ≤ strengthI c a b * b.inv ∧ strengthI c a b * b.inv ≤ 288230376151711744 := by
  have hv := approach_bd hc ha hb
  have a1 := ha.inv; have a2 := ha.bounce; have b1 := hb.inv; have b2 := hb.bounce
  unfold strengthI
  split
  · omega
  · rename_i h
    have hp := mul_abs (x := -approachI c a b) (y := 65536 + max a.bounce b.bounce) (X := 2199023255552) (Y := 131072) (by omega) (by omega) (by omega) (by omega)
    have h0 : 0 ≤ -approachI c a b * (65536 + max a.bounce b.bounce) := Int.mul_nonneg (by omega) (by omega)
    generalize -approachI c a b * (65536 + max a.bounce b.bounce) = P at *
    have hm : 0 < a.inv + b.inv := by omega
    have q0 := Int.ediv_nonneg h0 (show 0 ≤ a.inv + b.inv by omega)
    have q1 := Int.ediv_mul_le P (show a.inv + b.inv ≠ 0 by omega)
    have q2 := Int.ediv_le_self (a.inv + b.inv) h0
    have e : P / (a.inv + b.inv) * (a.inv + b.inv) = P / (a.inv + b.inv) * a.inv + P / (a.inv + b.inv) * b.inv := Int.mul_add _ _ _
    have n1 := Int.mul_nonneg q0 a1.1
    have n2 := Int.mul_nonneg q0 b1.1
    omega
theorem change_bd {j inv n : Int} (h0 : 0 ≤ j * inv) (h1 : j * inv ≤ 288230376151711744) (n0 : -2147483648 ≤ n) (n1 : n ≤ 2147483647) :
    -9444732965739290427392 ≤ j * inv / 65536 * n ∧ j * inv / 65536 * n ≤ 9444732965739290427392 ∧ -144115188075855872 ≤ changeI j inv n ∧ changeI j inv n ≤ 144115188075855872 := by
  have := mul_abs (x := j * inv / 65536) (y := n) (X := 4398046511104) (Y := 2147483648) (by omega) (by omega) (by omega) (by omega)
  unfold changeI
  omega
end Go.Proofs.YtnhaiecbjipodaaGreatDoor
/- Plain words: nearest points, chosen points, contacts. No program in it. -/
namespace Go.Proofs.YtnhaiecbjipodaaGreatDoor
open Go.RowKit

abbrev V := Int × Int
def paramD (p q : V) : Int := (q.1 - p.1) * (q.1 - p.1) + (q.2 - p.2) * (q.2 - p.2)
def paramR (p q c : V) : Int := (c.1 - p.1) * (q.1 - p.1) + (c.2 - p.2) * (q.2 - p.2)
def paramN (p q c : V) : Int := max 0 (min (paramR p q c) (paramD p q))
def nearI (p q c : V) : V := if paramD p q = 0 then p else (p.1 + (q.1 - p.1) * paramN p q c / paramD p q, p.2 + (q.2 - p.2) * paramN p q c / paramD p q)
def InV (p : V) : Prop := (-1082130432 ≤ p.1 ∧ p.1 ≤ 1082130432) ∧ (-1082130432 ≤ p.2 ∧ p.2 ≤ 1082130432)
def CloseV (p q : V) : Prop := (-16777216 ≤ q.1 - p.1 ∧ q.1 - p.1 ≤ 16777216) ∧ (-16777216 ≤ q.2 - p.2 ∧ q.2 - p.2 ≤ 16777216)
theorem sq_nonneg (x : Int) : 0 ≤ x * x := by
  rcases Int.le_total 0 x with h | h
  · exact Int.mul_nonneg h h
  · have := Int.mul_nonneg (show 0 ≤ -x by omega) (show 0 ≤ -x by omega)
    rwa [Int.neg_mul_neg] at this
theorem param_bd {p q c : V} (hp : InV p) (hc : InV c) (h : CloseV p q) :
    (0 ≤ (q.1 - p.1) * (q.1 - p.1) ∧ (q.1 - p.1) * (q.1 - p.1) ≤ 281474976710656) ∧ (0 ≤ (q.2 - p.2) * (q.2 - p.2) ∧ (q.2 - p.2) * (q.2 - p.2) ≤ 281474976710656) ∧
    (-72057594037927936 ≤ (c.1 - p.1) * (q.1 - p.1) ∧ (c.1 - p.1) * (q.1 - p.1) ≤ 72057594037927936) ∧ (-72057594037927936 ≤ (c.2 - p.2) * (q.2 - p.2) ∧ (c.2 - p.2) * (q.2 - p.2) ≤ 72057594037927936) := by
  obtain ⟨⟨a0, a1⟩, a2, a3⟩ := hp
  obtain ⟨⟨b0, b1⟩, b2, b3⟩ := hc
  obtain ⟨⟨c0, c1⟩, c2, c3⟩ := h
  have s1 := sq_nonneg (q.1 - p.1)
  have s2 := sq_nonneg (q.2 - p.2)
  have p1 := mul_abs (x := q.1 - p.1) (y := q.1 - p.1) (X := 16777216) (Y := 16777216) (by omega) (by omega) (by omega) (by omega)
  have p2 := mul_abs (x := q.2 - p.2) (y := q.2 - p.2) (X := 16777216) (Y := 16777216) (by omega) (by omega) (by omega) (by omega)
  have p3 := mul_abs (x := c.1 - p.1) (y := q.1 - p.1) (X := 4294967296) (Y := 16777216) (by omega) (by omega) (by omega) (by omega)
  have p4 := mul_abs (x := c.2 - p.2) (y := q.2 - p.2) (X := 4294967296) (Y := 16777216) (by omega) (by omega) (by omega) (by omega)
  omega
theorem paramN_bd {p q c : V} (h : 0 ≤ paramD p q) : 0 ≤ paramN p q c ∧ paramN p q c ≤ paramD p q := by unfold paramN; omega
theorem paramD_nonneg (p q : V) : 0 ≤ paramD p q := by
  have s1 := sq_nonneg (q.1 - p.1)
  have s2 := sq_nonneg (q.2 - p.2)
  unfold paramD; omega
theorem part_bd {d n D : Int} (n0 : 0 ≤ n) (n1 : n ≤ D) (hD : 0 < D) (d0 : -16777216 ≤ d) (d1 : d ≤ 16777216) : (-(16777216 * D) ≤ d * n ∧ d * n ≤ 16777216 * D) ∧ min 0 d ≤ d * n / D ∧ d * n / D ≤ max 0 d := by
  have p := mul_abs (x := d) (y := n) (X := 16777216) (Y := D) (by omega) (by omega) (by omega) (by omega)
  refine ⟨p, ?_, ?_⟩
  · rw [Int.le_ediv_iff_mul_le hD]
    rcases Int.le_total 0 d with h | h
    · rw [Int.min_eq_left h, Int.zero_mul]; exact Int.mul_nonneg h n0
    · rw [Int.min_eq_right h]
      have := Int.mul_le_mul_of_nonneg_left n1 (show 0 ≤ -d by omega)
      rw [Int.neg_mul, Int.neg_mul] at this
      omega
  · apply Int.ediv_le_of_le_mul hD
    rcases Int.le_total 0 d with h | h
    · rw [Int.max_eq_right h]; exact Int.mul_le_mul_of_nonneg_left n1 h
    · rw [Int.max_eq_left h, Int.zero_mul]
      have := Int.mul_nonneg (show 0 ≤ -d by omega) n0
      rw [Int.neg_mul] at this
      omega
theorem nearI_in {p q c : V} (hp : InV p) (hq : InV q) (h : CloseV p q) : InV (nearI p q c) := by
  unfold nearI
  split
  · exact hp
  · rename_i hD
    have h0 := paramD_nonneg p q
    have hn := paramN_bd (p := p) (q := q) (c := c) h0
    have a := part_bd (d := q.1 - p.1) hn.1 hn.2 (by omega) h.1.1 h.1.2
    have b := part_bd (d := q.2 - p.2) hn.1 hn.2 (by omega) h.2.1 h.2.2
    unfold InV at *
    simp only
    omega
def distI (x : V × V) : Int := lenSqI (x.2.1 - x.1.1) (x.2.2 - x.1.2)
def pickI (a b : V × V) : V × V := if distI b < distI a then b else a
def chosenI (ap aq bp bq : V) : V × V := pickI (pickI (pickI (ap, nearI bp bq ap) (aq, nearI bp bq aq)) (nearI ap aq bp, bp)) (nearI ap aq bq, bq)
def InP (x : V × V) : Prop := InV x.1 ∧ InV x.2
theorem pickI_in {a b : V × V} (ha : InP a) (hb : InP b) : InP (pickI a b) := by unfold pickI; split <;> assumption
theorem chosenI_in {ap aq bp bq : V} (h1 : InV ap) (h2 : InV aq) (h3 : InV bp) (h4 : InV bq) (ha : CloseV ap aq) (hb : CloseV bp bq) : InP (chosenI ap aq bp bq) :=
  pickI_in (pickI_in (pickI_in ⟨h1, nearI_in h3 h4 hb⟩ ⟨h2, nearI_in h3 h4 hb⟩) ⟨nearI_in h1 h2 ha, h3⟩) ⟨nearI_in h1 h2 ha, h4⟩
/-- What the geometry asks of a body. -/
structure Placed (b : Body) : Prop where
  radius : 4096 ≤ b.radius ∧ b.radius ≤ 4194304
  ax : -4194304 ≤ b.ax ∧ b.ax ≤ 4194304
  ay : -4194304 ≤ b.ay ∧ b.ay ≤ 4194304
  px : -1073741824 ≤ b.px ∧ b.px ≤ 1073741824
  py : -1073741824 ≤ b.py ∧ b.py ≤ 1073741824
def endA (b : Body) : V := (b.px - b.ax, b.py - b.ay)
def endB (b : Body) : V := (b.px + b.ax, b.py + b.ay)
theorem ends_in {b : Body} (h : Placed b) : InV (endA b) ∧ InV (endB b) ∧ CloseV (endA b) (endB b) := by
  obtain ⟨h1, h2, h3, h4, h5⟩ := h
  unfold InV CloseV endA endB
  simp only
  omega
def betweenI (a b : Body) : V × V := chosenI (endA a) (endB a) (endA b) (endB b)
def gapX (a b : Body) : Int := (betweenI a b).2.1 - (betweenI a b).1.1
def gapY (a b : Body) : Int := (betweenI a b).2.2 - (betweenI a b).1.2
def touchI (a b : Body) : Bool := decide (lenSqI (gapX a b) (gapY a b) < (a.radius + b.radius) * (a.radius + b.radius))
def conOf (a b : Body) : Con := ⟨a.key, b.key, (unitI (gapX a b) (gapY a b)).1, (unitI (gapX a b) (gapY a b)).2, wrap32 (a.radius + b.radius - lengthI (gapX a b) (gapY a b))⟩
theorem gap_bd {a b : Body} (ha : Placed a) (hb : Placed b) : (-2181038080 ≤ gapX a b ∧ gapX a b ≤ 2181038080) ∧ (-2181038080 ≤ gapY a b ∧ gapY a b ≤ 2181038080) := by
  obtain ⟨a1, a2, a3⟩ := ends_in ha
  obtain ⟨b1, b2, b3⟩ := ends_in hb
  have h := chosenI_in a1 a2 b1 b2 a3 b3
  unfold gapX gapY betweenI
  generalize chosenI (endA a) (endB a) (endA b) (endB b) = z at *
  obtain ⟨⟨h1, h2⟩, h3, h4⟩ := h
  omega
theorem wrap32_bd (n : Int) : -2147483648 ≤ wrap32 n ∧ wrap32 n ≤ 2147483647 := by unfold wrap32; omega
theorem unitI_bd (x y : Int) : (-2147483648 ≤ (unitI x y).1 ∧ (unitI x y).1 ≤ 2147483647) ∧ (-2147483648 ≤ (unitI x y).2 ∧ (unitI x y).2 ≤ 2147483647) := by
  unfold unitI
  split
  · simp
  · exact ⟨wrap32_bd _, wrap32_bd _⟩
theorem conOf_fit (a b : Body) : (conOf a b).Fit := by
  have h := unitI_bd (gapX a b) (gapY a b)
  have k := wrap32_bd (a.radius + b.radius - lengthI (gapX a b) (gapY a b))
  unfold conOf
  generalize wrap32 (a.radius + b.radius - lengthI (gapX a b) (gapY a b)) = d at *
  generalize unitI (gapX a b) (gapY a b) = u at *
  exact ⟨h.1, h.2, k⟩
end Go.Proofs.YtnhaiecbjipodaaGreatDoor
/- One digit of a division of 128 bits by 64 bits (math/bits.Div64): plain facts. No program in it. -/
namespace Go.Proofs.YtnhaiecbjipodaaGreatDoor

/-- The guess is not below the digit, and what is left over fits it. -/
structure Guess (u u1 y1 y0 q r : Int) : Prop where
  left : u = q * y1 + r
  ge : (u * 4294967296 + u1) / (y1 * 4294967296 + y0) ≤ q
  r0 : 0 ≤ r
  q0 : 0 ≤ q
section
variable {u u1 y1 y0 q r : Int}
theorem mul_parts (q y1 y0 : Int) : q * (y1 * 4294967296 + y0) = q * y1 * 4294967296 + q * y0 := by rw [Int.mul_add, Int.mul_assoc]
theorem Guess.start (hu : 0 ≤ u) (h1 : 0 ≤ u1 ∧ u1 < 4294967296) (hy1 : 0 < y1) (hy0 : 0 ≤ y0) : Guess u u1 y1 y0 (u / y1) (u % y1) := by
  have e := Int.mul_ediv_add_emod u y1
  have hr := Int.emod_nonneg u (show y1 ≠ 0 by omega)
  have hr2 := Int.emod_lt_of_pos u hy1
  refine ⟨by rw [Int.mul_comm]; exact e.symm, ?_, hr, Int.ediv_nonneg hu (by omega)⟩
  have hpos : 0 < y1 * 4294967296 + y0 := by omega
  have : (u * 4294967296 + u1) / (y1 * 4294967296 + y0) < u / y1 + 1 := by
    rw [Int.ediv_lt_iff_lt_mul hpos, Int.add_mul, mul_parts, Int.one_mul]
    have h2 : 0 ≤ u / y1 * y0 := Int.mul_nonneg (Int.ediv_nonneg hu (by omega)) hy0
    rw [Int.mul_comm] at e
    generalize u / y1 * y1 = p at *
    generalize u / y1 * y0 = s at *
    omega
  omega
/-- The guess is right. -/
theorem Guess.done (g : Guess u u1 y1 y0 q r) (hy : 0 < y1 * 4294967296 + y0) (h : q * y0 ≤ 4294967296 * r + u1) : (u * 4294967296 + u1) / (y1 * 4294967296 + y0) = q := by
  have h1 : q ≤ (u * 4294967296 + u1) / (y1 * 4294967296 + y0) := by
    rw [Int.le_ediv_iff_mul_le hy, mul_parts]
    have := g.left
    generalize q * y1 = p at *
    generalize q * y0 = s at *
    omega
  have := g.ge
  omega
/-- The guess is too great by one at least. -/
theorem Guess.next (g : Guess u u1 y1 y0 q r) (hy : 0 < y1 * 4294967296 + y0) (hy1 : 0 < y1) (hlt : (u * 4294967296 + u1) / (y1 * 4294967296 + y0) < 4294967296) (hq : 0 ≤ (u * 4294967296 + u1)) (h : 4294967296 ≤ q ∨ 4294967296 * r + u1 < q * y0) : Guess u u1 y1 y0 (q - 1) (r + y1) := by
  have hd : (u * 4294967296 + u1) / (y1 * 4294967296 + y0) < q := by
    rcases h with h | h
    · omega
    · rw [Int.ediv_lt_iff_lt_mul hy, mul_parts]
      have := g.left
      generalize q * y1 = p at *
      generalize q * y0 = s at *
      omega
  have hd0 := Int.ediv_nonneg hq (show 0 ≤ y1 * 4294967296 + y0 by omega)
  refine ⟨by rw [Int.sub_mul, g.left]; omega, by omega, by have := g.r0; omega, by omega⟩
theorem digit_lt (hu : u < y1 * 4294967296 + y0) (h1 : u1 < 4294967296) (hy : 0 < y1 * 4294967296 + y0) : (u * 4294967296 + u1) / (y1 * 4294967296 + y0) < 4294967296 := by
  rw [Int.ediv_lt_iff_lt_mul hy]
  omega
end

/-- The loop of a guess leaves by its break with the right digit. -/
theorem Guess.over {u u1 y1 y0 q r : Int} (g : Guess u u1 y1 y0 q r) (hu : u < y1 * 4294967296 + y0) (h1 : 0 ≤ u1) (hy1 : 0 < y1) (hy : 0 ≤ y0 ∧ y0 < 4294967296) (h : 4294967296 ≤ r) : (u * 4294967296 + u1) / (y1 * 4294967296 + y0) = q := by
  have e := g.left
  have hq : q < 4294967296 := by
    rcases Int.lt_or_le q 4294967296 with hq | hq
    · exact hq
    · have : 4294967296 * y1 ≤ q * y1 := Int.mul_le_mul_of_nonneg_right hq (by omega)
      omega
  have hb : q * y0 ≤ 4294967295 * 4294967295 := Int.mul_le_mul (by omega) (by omega) hy.1 (by omega)
  exact g.done (by omega) (by omega)
theorem Guess.le {u u1 y1 y0 q r : Int} (g : Guess u u1 y1 y0 q r) (hu : u < y1 * 4294967296 + y0) (hy1 : 2147483648 ≤ y1) (hy : 0 ≤ y0 ∧ y0 < 4294967296) : q ≤ 4294967297 := by
  have e := g.left
  have r0 := g.r0
  rcases Int.lt_or_le q 4294967298 with hq | hq
  · omega
  · have : 4294967298 * y1 ≤ q * y1 := Int.mul_le_mul_of_nonneg_right hq (by omega)
    omega

/-- The numbers of a division, shifted so that the divisor's first bit is set. -/
structure Shifted (hi lo y p U L : Int) : Prop where
  all : U * 18446744073709551616 + L = (hi * 18446744073709551616 + lo) * p
  U0 : 0 ≤ U
  lt : U < y * p
  L0 : 0 ≤ L
  L1 : L ≤ 18446744073709551615
theorem shifted_of {hi lo y p q : Int} (hp : 0 < p) (hq : 0 < q) (hpq : q * p = 18446744073709551616) (h0 : 0 ≤ hi) (h1 : hi < y) (l0 : 0 ≤ lo) (l1 : lo ≤ 18446744073709551615) : Shifted hi lo y p (hi * p + lo / q) (lo * p % 18446744073709551616) := by
  have e := Int.mul_ediv_add_emod lo q
  have m0 := Int.emod_nonneg lo (show q ≠ 0 by omega)
  have m1 := Int.emod_lt_of_pos lo hq
  have a0 := Int.ediv_nonneg l0 (show 0 ≤ q by omega)
  generalize lo / q = a at *
  generalize lo % q = b at *
  have hbp : b * p < 18446744073709551616 := by rw [← hpq]; exact Int.mul_lt_mul_of_pos_right m1 hp
  have hbp0 : 0 ≤ b * p := Int.mul_nonneg m0 (by omega)
  have hlo : lo * p = a * 18446744073709551616 + b * p := by
    rw [← e, ← hpq, Int.add_mul, Int.mul_comm q a, Int.mul_assoc]
  have hL : lo * p % 18446744073709551616 = b * p := by rw [hlo]; omega
  have hh0 : 0 ≤ hi * p := Int.mul_nonneg h0 (by omega)
  refine ⟨?_, by omega, ?_, by omega, by omega⟩
  · rw [hL, Int.add_mul _ _ p, hlo, Int.mul_right_comm]
    omega
  · have : hi * p + p ≤ y * p := by
      have := Int.mul_le_mul_of_nonneg_right (show hi + 1 ≤ y by omega) (show 0 ≤ p by omega)
      rwa [Int.add_mul, Int.one_mul] at this
    have hap : a < p := by
      have : a * q < p * q := by
        rw [Int.mul_comm p q, hpq]
        have : q * a = a * q := Int.mul_comm _ _
        omega
      exact Int.lt_of_mul_lt_mul_right this (by omega)
    omega
/-- Two digits make the quotient, and what is left is the remainder, shifted. -/
theorem two_digits {hi lo y p U L u1 u0 q1 V q0 R : Int} (hs : Shifted hi lo y p U L) (hy : 0 < y) (hp : 0 < p) (hL : L = u1 * 4294967296 + u0)
    (e1 : U * 4294967296 + u1 = q1 * (y * p) + V) (e0 : V * 4294967296 + u0 = q0 * (y * p) + R) (hR : 0 ≤ R ∧ R < y * p) :
    (hi * 18446744073709551616 + lo) / y = q1 * 4294967296 + q0 ∧ R / p = (hi * 18446744073709551616 + lo) % y := by
  have hall := hs.all
  generalize hi * 18446744073709551616 + lo = N at *
  have hyp : 0 < y * p := Int.mul_pos hy hp
  have hN : N * p = (q1 * 4294967296 + q0) * (y * p) + R := by
    rw [← hall, Int.add_mul]
    have : q1 * 4294967296 * (y * p) = q1 * (y * p) * 4294967296 := Int.mul_right_comm _ _ _
    rw [this]
    omega
  have hu := (Int.ediv_emod_unique (a := N * p) (b := y * p) (r := R) (q := q1 * 4294967296 + q0) hyp).2 ⟨by rw [hN, Int.mul_comm (y * p)]; omega, hR.1, hR.2⟩
  have h1 : N * p / (y * p) = N / y := Int.mul_ediv_mul_of_pos_left _ _ hp
  have h2 : N * p % (y * p) = N % y * p := by rw [Int.mul_comm N p, Int.mul_comm y p, Int.mul_emod_mul_of_pos _ _ hp, Int.mul_comm p]
  refine ⟨by rw [← h1]; exact hu.1, ?_⟩
  rw [← hu.2, h2]
  exact Int.mul_ediv_cancel _ (by omega)
end Go.Proofs.YtnhaiecbjipodaaGreatDoor
/- Worlds that have grown: below the heap's old size they are as they were. A region that draws its order and whose operations read or call what only grows the world is walked once. -/
namespace Go.Proofs.YtnhaiecbjipodaaGreatDoor
open Go.RowKit

theorem ret_int {k : IntKind} {a b : Int} (h : a = b) : Ending.returned (.int k a) = .returned (.int k b) := by rw [h]
theorem ret_bool {a b : Bool} (h : a = b) : Ending.returned (.bool a) = .returned (.bool b) := by rw [h]
theorem ret_pair {a b : Int} {x y : Bool} (h : a = b) (k : x = y) : Ending.returned (.tuple #[.int .i64 a, .bool x]) = .returned (.tuple #[.int .i64 b, .bool y]) := by rw [h, k]
theorem bcell {W w1 : World} (hb : Below W.heap.size W w1) : (∀ b o, b < W.heap.size → w1.cell? ⟨b, o, none⟩ = W.cell? ⟨b, o, none⟩) ∧ (∀ b o, b < W.heap.size → w1.frozen? ⟨b, o, none⟩ = W.frozen? ⟨b, o, none⟩) :=
  ⟨fun b o h => hb.cell (p := ⟨b, o, none⟩) h, fun b o h => hb.frozen (p := ⟨b, o, none⟩) h⟩
theorem keepB {W w1 : World} (hb : Below W.heap.size W w1) (B : Nat) (h : B < W.heap.size) : ∀ o, w1.cell? ⟨B, o, none⟩ = W.cell? ⟨B, o, none⟩ := fun o => hb.cell (p := ⟨B, o, none⟩) h
theorem new_ok {w : World} (o : Obj) : Below w.heap.size w (w.alloc o) := (Below.refl _ _).alloc (Nat.le_refl _) _
theorem bel_alloc {w W : World} (h : Below w.heap.size w W) (o : Obj) : Below w.heap.size w (W.alloc o) := h.alloc h.size o
theorem bel_drewN {w W : World} (h : Below w.heap.size w W) (n : Nat) : Below w.heap.size w (W.drewN n) := ⟨h.os, h.tape, h.output, h.size, h.block⟩
theorem bel_drew {w W : World} (h : Below w.heap.size w W) : Below w.heap.size w W.drew := ⟨h.os, h.tape, h.output, h.size, h.block⟩

structure Grow (w : World) where
  world : World
  below : Below w.heap.size w world
theorem Grow.of {w w' : World} (h : Below w.heap.size w w') : ∃ g : Grow w, w' = g.world := ⟨⟨w', h⟩, rfl⟩
instance {w : World} : Nonempty (Grow w) := ⟨⟨w, Below.refl _ _⟩⟩
theorem Grow.cell {w : World} (g : Grow w) {p o : Nat} (h : p < w.heap.size) : g.world.cell? ⟨p, o, none⟩ = w.cell? ⟨p, o, none⟩ := g.below.cell (p := ⟨p, o, none⟩) h
theorem Grow.froz {w : World} (g : Grow w) {p o : Nat} (h : p < w.heap.size) : g.world.frozen? ⟨p, o, none⟩ = w.frozen? ⟨p, o, none⟩ := g.below.frozen (p := ⟨p, o, none⟩) h
theorem Grow.lt {w : World} (g : Grow w) {p : Nat} (h : p < w.heap.size) : (p < g.world.heap.size) = True := eq_true (Nat.lt_of_lt_of_le h g.below.size)
theorem Grow.le {w : World} (g : Grow w) : w.heap.size ≤ g.world.heap.size := g.below.size
def Grow.drawn (w : World) : Grow w := ⟨{ w with drawn := w.drawn + 1 }, ⟨rfl, rfl, rfl, Nat.le_refl _, fun _ _ => rfl⟩⟩

theorem bel_grow {w W : World} (h : Below w.heap.size w W) (g : Grow W) : Below w.heap.size w g.world := h.trans (g.below.mono h.size)

theorem Calls.grow_of {P : Program} {f : FuncId} {args : Array Value} {w : World} {g : Grow w} {v : Value}
    (h : Calls P f args g.world fun e w' => e = .returned v ∧ Below g.world.heap.size g.world w') : Calls P f args g.world fun e w'' => e = .returned v ∧ ∃ g' : Grow w, w'' = g'.world :=
  h.mono fun _ _ ⟨he, hb⟩ => ⟨he, Grow.of (g.below.trans (hb.mono g.below.size))⟩

theorem wp_region_grow {P : Program} {id : Nat} {Q : Exit → Act → World → Prop} {a : Act} {w : World} {l : List Oper} (hm : P.follows .mixedOrders = true) (hB : Region.lexB .any l.toArray = true)
    (h : wpQuiet P l.toArray (fun w' => ∃ g : Grow w, w' = g.world) (fun a' => ∀ w', (∃ g : Grow w, w' = g.world) → Q .normal a' w') l a) : (Code.region id l.toArray true).wp P Q a w :=
  wp_region_quiet (C := fun w' => ∃ g : Grow w, w' = g.world) hm hB ⟨Grow.drawn w, rfl⟩ (by simpa using h)
end Go.Proofs.YtnhaiecbjipodaaGreatDoor
/- Maps with keys of a kind that Lean decides and elements of any value: what a map's block holds; look up, store, delete, len. No program in it. -/
namespace Go.Proofs.YtnhaiecbjipodaaGreatDoor
open Go.RowKit Go.MapKept

/-- Keys of a type: how a key stands as a value, and that the model finds it among entries. -/
structure MKey (P : Program) (kt : TypeId) (κ : Type) [DecidableEq κ] where
  kv : κ → Value
  check : ∀ e k w, (Instr.checkKey e 10000 kt (kv k)).run P w = .ok () w
  find : ∀ k (es : List MapEntry) (l : List (κ × Value)) w, es.map (fun e => (e.key, e.val)) = l.map (fun p => (kv p.1, p.2)) → (Instr.findKey kt (kv k) es).run P w = .ok ((l.findIdx? (fun p => p.1 = k)).map fun i => (i, (l.map Prod.snd).getD i undef)) w
  bits : ∀ k, Instr.sameBits 10000 (kv k) (kv k) = true

section
variable {P : Program} {kt : TypeId} {κ : Type} [DecidableEq κ] {K : MKey P kt κ}

/-- The marks of a map's entries: all different, all below the clock. -/
def Born (es : Array MapEntry) (clock : Nat) : Prop := (es.toList.map (·.born)).Nodup ∧ ∀ e ∈ es.toList, e.born < clock
theorem Born.push {es : Array MapEntry} {c : Nat} (h : Born es c) (k v : Value) : Born (es.push ⟨k, v, c⟩) (c + 1) := by
  obtain ⟨h1, h2⟩ := h
  refine ⟨?_, fun e he => ?_⟩
  · simp only [Array.toList_push, List.map_append, List.map_cons, List.map_nil]
    rw [List.nodup_append]
    refine ⟨h1, by simp, ?_⟩
    intro a ha
    simp
    rintro rfl
    obtain ⟨e, he, hx⟩ := List.mem_map.1 ha
    have := h2 e he
    omega
  · simp only [Array.toList_push, List.mem_append, List.mem_singleton] at he
    rcases he with he | rfl
    · have := h2 e he; omega
    · simp
theorem Born.same {es es' : Array MapEntry} {c : Nat} (h : Born es c) (he : es'.toList.map (·.born) = es.toList.map (·.born)) : Born es' c := by
  obtain ⟨h1, h2⟩ := h
  refine ⟨by rw [he]; exact h1, fun e hm => ?_⟩
  have : e.born ∈ es.toList.map (·.born) := by rw [← he]; exact List.mem_map_of_mem hm
  obtain ⟨x, hx, e2⟩ := List.mem_map.1 this
  rw [← e2]; exact h2 x hx
theorem Born.sub {es es' : Array MapEntry} {c : Nat} (h : Born es c) (he : es'.toList.Sublist es.toList) : Born es' c :=
  ⟨h.1.sublist (he.map _), fun e hm => h.2 e (he.subset hm)⟩
theorem Born.modify {es : Array MapEntry} {c : Nat} (h : Born es c) (i : Nat) (k v : Value) : Born (es.modify i fun e => { e with key := k, val := v }) c := by
  refine h.same (List.ext_getElem? fun j => ?_)
  simp only [List.getElem?_map, Array.getElem?_toList, Array.getElem?_modify]
  by_cases hij : i = j
  · subst hij; cases es[i]? <;> simp
  · simp [hij]
/-- The block is a map that holds these entries, in the order in which their keys came. -/
def MapAt (K : MKey P kt κ) (w : World) (b : Nat) (l : List (κ × Value)) : Prop :=
  ∃ es clock, w.heap[b]? = some (.map es clock) ∧ es.toList.map (fun e => (e.key, e.val)) = l.map (fun p => (K.kv p.1, p.2)) ∧ (l.map Prod.fst).Nodup ∧ Born es clock

/-- What a key leads to. -/
def getM (l : List (κ × Value)) (k : κ) : Option Value := (l.find? (fun p => p.1 = k)).map Prod.snd
/-- A map with a key set. -/
def putM (l : List (κ × Value)) (k : κ) (v : Value) : List (κ × Value) := if (l.any fun p => p.1 = k) then l.map (fun p => if p.1 = k then (k, v) else p) else l ++ [(k, v)]
def delM (l : List (κ × Value)) (k : κ) : List (κ × Value) := l.filter fun p => ¬ p.1 = k

theorem MapAt.lt {w : World} {b : Nat} {l : List (κ × Value)} (h : MapAt K w b l) : b < w.heap.size := by
  obtain ⟨es, c, h, _⟩ := h
  exact lt_of_block h
theorem MapAt.of_block {w w' : World} {b : Nat} {l : List (κ × Value)} (h : MapAt K w b l) (hb : w'.heap[b]? = w.heap[b]?) : MapAt K w' b l := by
  obtain ⟨es, c, h, r⟩ := h
  exact ⟨es, c, hb.trans h, r⟩
theorem MapAt.made (w : World) : MapAt K (w.alloc (.map #[] 0)) w.heap.size [] := ⟨#[], 0, heap_alloc_new w _, rfl, by simp, by simp [Born]⟩

theorem getM_idx (l : List (κ × Value)) (k : κ) : getM l k = (l.findIdx? (fun p => p.1 = k)).map fun i => (l.map Prod.snd).getD i undef := by
  unfold getM
  induction l with
  | nil => rfl
  | cons p r ih =>
    by_cases h : p.1 = k
    · simp [List.findIdx?_cons, h]
    · simp only [List.find?_cons, List.findIdx?_cons, h, decide_false, Bool.false_eq_true, if_false]
      rw [ih]
      cases (r.findIdx? fun p => p.1 = k) <;> simp

theorem run_lookup {w : World} {b : Nat} {l : List (κ × Value)} {t e : TypeId} (h : MapAt K w b l) (ht : P.underlying t = some (.map kt e)) {z : Value} (hz : (zeroValue e).run P w = .ok z w) (k : κ) (ok : Bool) :
    (Instr.lookup t (.map (some b)) (K.kv k) ok).run P w = .ok (if ok then .tuple #[(getM l k).getD z, .bool (getM l k).isSome] else (getM l k).getD z) w := by
  obtain ⟨es, c, hb, he, hd, hbn⟩ := h
  have hf := K.find k es.toList l w he
  unfold Instr.lookup
  simp only [Sem.run_bind, run_underlying ht, Result.andThen_ok, Go.MapKept.run_getObj_map hb, Sem.run_pure, K.check, hf]
  rw [getM_idx]
  cases hi : (l.findIdx? fun p => p.1 = k) with
  | none => cases ok <;> simp [hz]
  | some i => cases ok <;> simp
theorem run_lookup_nil {w : World} {t e : TypeId} (K : MKey P kt κ) (ht : P.underlying t = some (.map kt e)) {z : Value} (hz : (zeroValue e).run P w = .ok z w) (k : κ) (ok : Bool) :
    (Instr.lookup t (.map none) (K.kv k) ok).run P w = .ok (if ok then .tuple #[z, .bool false] else z) w := by
  have hf := K.find k [] [] w rfl
  unfold Instr.lookup
  simp only [Sem.run_bind, run_underlying ht, Result.andThen_ok, Sem.run_pure, K.check]
  rw [hf]
  cases ok <;> simp [hz]
theorem run_mapUpdate {w : World} {b : Nat} {l : List (κ × Value)} {t e : TypeId} (h : MapAt K w b l) (ht : P.underlying t = some (.map kt e)) (k : κ) (v : Value) :
    ∃ w', (Instr.mapUpdate t (.map (some b)) (K.kv k) v).run P w = .ok () w' ∧ MapAt K w' b (putM l k v) ∧ w.grownBy w' (some b) ∧ w'.heap.size = w.heap.size := by
  obtain ⟨es, c, hb, he, hd, hbn⟩ := h
  have hf := K.find k es.toList l w he
  have hl : es.toList.length = l.length := by have := congrArg List.length he; simpa using this
  have frame : ∀ o, (w.grownBy { w with heap := w.heap.setIfInBounds b o } (some b)) ∧ ({ w with heap := w.heap.setIfInBounds b o } : World).heap.size = w.heap.size := fun o =>
    ⟨⟨rfl, rfl, rfl, by simp, fun i _ hi => (heap_set (o' := o) hb).2 i (fun e => hi (by rw [e]))⟩, by simp⟩
  unfold Instr.mapUpdate
  simp only [Sem.run_bind, run_underlying ht, Result.andThen_ok, Go.MapKept.run_getObj_map hb, K.check, hf]
  cases hi : (l.findIdx? fun p => p.1 = k) with
  | none =>
    have hno : ∀ p ∈ l, ¬ p.1 = k := by
      have := List.findIdx?_eq_none_iff.1 hi
      intro p hp
      simpa using this p hp
    refine ⟨_, by simpa using run_setObj_map _ hb, ⟨_, _, (heap_set hb).1, ?_, ?_, hbn.push _ _⟩, (frame _).1, (frame _).2⟩
    · have : (l.any fun p => p.1 = k) = false := by simpa using hno
      simp [putM, this, he]
    · have : (l.any fun p => p.1 = k) = false := by simpa using hno
      simp only [putM, this, Bool.false_eq_true, if_false, List.map_append, List.map_cons, List.map_nil]
      rw [List.nodup_append]
      exact ⟨hd, by simp, by intro a ha; simp; intro hk; subst hk; obtain ⟨p, hp, e⟩ := List.mem_map.1 ha; exact hno p hp e⟩
  | some i =>
    obtain ⟨hil, hik, _⟩ := List.findIdx?_eq_some_iff_getElem.1 hi
    have hik' : l[i].1 = k := by simpa using hik
    have hes : i < es.size := by have : es.toList.length = es.size := by simp
                                 omega
    have hat : ∀ j (h1 : j < es.size) (h2 : j < l.length), es[j].key = K.kv l[j].1 ∧ es[j].val = l[j].2 := fun j h1 h2 => by
      have := congrArg (fun z => z[j]?) he
      simp [h1, h2] at this
      exact this
    have hkey : ((es[i]?).map (·.key)).getD (K.kv k) = K.kv k := by
      rw [Array.getElem?_eq_getElem hes]
      simp [(hat i hes hil).1, hik']
    have hs : (Instr.keyThatStays (K.kv k) (K.kv k)).run P w = .ok (K.kv k) w := by
      simp [Instr.keyThatStays, K.bits]
    have huniq : ∀ j (h2 : j < l.length), l[j].1 = k → j = i := fun j h2 e => by
      have h3 : (l.map Prod.fst)[j]'(by simpa using h2) = (l.map Prod.fst)[i]'(by simpa using hil) := by simp [e, hik']
      exact (List.getElem_inj hd).1 h3
    have hany : (l.any fun p => p.1 = k) = true := by
      rw [List.any_eq_true]
      exact ⟨l[i], List.getElem_mem hil, by simpa using hik'⟩
    refine ⟨_, by simp only [Option.map_some, hkey, Sem.run_bind, hs, Result.andThen_ok]; exact run_setObj_map _ hb, ⟨_, _, (heap_set hb).1, ?_, ?_, hbn.modify _ _ _⟩, (frame _).1, (frame _).2⟩
    · simp only [putM, hany, if_true]
      refine List.ext_getElem (by simp; omega) fun j h1 h2 => ?_
      have hj1 : j < es.size := by simpa using h1
      have hj2 : j < l.length := by simpa using h2
      have hm : (es.modify i fun e => { e with key := K.kv k, val := v }).toList[j]'(by simpa using hj1) = if i = j then { es[j] with key := K.kv k, val := v } else es[j] := by
        rw [Array.getElem_toList, Array.getElem_modify]
      simp only [List.getElem_map, hm]
      by_cases hij : i = j
      · subst hij
        simp [hik']
      · have hne : ¬ l[j].1 = k := fun e => hij (huniq j hj2 e).symm
        simp [hij, hne, hat j hj1 hj2]
    · simp only [putM, hany, if_true, List.map_map]
      rw [show (l.map (Prod.fst ∘ fun p => if p.1 = k then (k, v) else p)) = l.map Prod.fst from List.map_congr_left fun p _ => by
        by_cases h : p.1 = k <;> simp [h]]
      exact hd
theorem map_erase {α β : Type} (f : α → β) : ∀ (l : List α) (i : Nat), (l.eraseIdx i).map f = (l.map f).eraseIdx i
  | [], _ => by simp
  | _ :: _, 0 => by simp
  | a :: r, i + 1 => by simp [map_erase f r i]
theorem run_delete {w : World} {b : Nat} {l : List (κ × Value)} {t e ty : TypeId} (h : MapAt K w b l) (ht : P.underlying t = some (.map kt e)) (k : κ) :
    ∃ w', (Builtin.delete_ #[t, kt] ty #[.map (some b), K.kv k]).run P w = .ok (.tuple #[]) w' ∧ MapAt K w' b (delM l k) ∧ w.grownBy w' (some b) ∧ w'.heap.size = w.heap.size := by
  obtain ⟨es, c, hb, he, hd, hbn⟩ := h
  have hf := K.find k es.toList l w he
  have hl : es.toList.length = l.length := by have := congrArg List.length he; simpa using this
  have frame : ∀ o, (w.grownBy { w with heap := w.heap.setIfInBounds b o } (some b)) ∧ ({ w with heap := w.heap.setIfInBounds b o } : World).heap.size = w.heap.size := fun o =>
    ⟨⟨rfl, rfl, rfl, by simp, fun i _ hi => (heap_set (o' := o) hb).2 i (fun e => hi (by rw [e]))⟩, by simp⟩
  cases hi : (l.findIdx? fun p => p.1 = k) with
  | none =>
    have hno : ∀ p ∈ l, ¬ p.1 = k := by
      have := List.findIdx?_eq_none_iff.1 hi
      intro p hp
      simpa using this p hp
    have hdel : delM l k = l := by
      unfold delM
      rw [List.filter_eq_self]
      intro p hp
      simpa using hno p hp
    refine ⟨{ w with heap := w.heap.setIfInBounds b (.map es c) }, by simp [Builtin.delete_, run_underlying ht, Result.andThen, Go.MapKept.run_getObj_map hb, K.check, hf, hi, run_setObj_map (P := P) (.map es c) hb], ⟨_, _, (heap_set hb).1, ?_, ?_, hbn⟩, (frame _).1, (frame _).2⟩
    · rw [hdel]; exact he
    · rw [hdel]; exact hd
  | some i =>
    obtain ⟨hil, hik, _⟩ := List.findIdx?_eq_some_iff_getElem.1 hi
    have hik' : l[i].1 = k := by simpa using hik
    have hes : i < es.size := by have : es.toList.length = es.size := by simp
                                 omega
    have huniq : ∀ j (h2 : j < l.length), l[j].1 = k → j = i := fun j h2 e => by
      have h3 : (l.map Prod.fst)[j]'(by simpa using h2) = (l.map Prod.fst)[i]'(by simpa using hil) := by simp [e, hik']
      exact (List.getElem_inj hd).1 h3
    have hdel : delM l k = l.eraseIdx i := by
      unfold delM
      rw [List.eraseIdx_eq_take_drop_succ]
      conv => lhs; rw [← List.take_append_drop i l, List.drop_eq_getElem_cons hil]
      rw [List.filter_append, List.filter_cons]
      have h1 : (l.take i).filter (fun p => decide (¬ p.1 = k)) = l.take i := by
        rw [List.filter_eq_self]
        intro p hp
        obtain ⟨j, hj, rfl⟩ := List.getElem_of_mem hp
        have hj' : j < i ∧ j < l.length := by simp at hj; omega
        have : ¬ l[j].1 = k := fun e => by have := huniq j hj'.2 e; omega
        simpa using this
      have h2 : (l.drop (i + 1)).filter (fun p => decide (¬ p.1 = k)) = l.drop (i + 1) := by
        rw [List.filter_eq_self]
        intro p hp
        obtain ⟨j, hj, rfl⟩ := List.getElem_of_mem hp
        have hj' : i + 1 + j < l.length := by simp at hj; omega
        have : ¬ l[i + 1 + j].1 = k := fun e => by have := huniq _ hj' e; omega
        simpa using this
      rw [h1, h2]
      simp [hik']
    refine ⟨{ w with heap := w.heap.setIfInBounds b (.map (es.eraseIdxIfInBounds i) c) }, by simp [Builtin.delete_, run_underlying ht, Result.andThen, Go.MapKept.run_getObj_map hb, K.check, hf, hi, run_setObj_map (P := P) (.map (es.eraseIdxIfInBounds i) c) hb], ⟨_, _, (heap_set hb).1, ?_, ?_, hbn.sub (by rw [Array.eraseIdxIfInBounds, dif_pos hes]; simpa using List.eraseIdx_sublist _ _)⟩, (frame _).1, (frame _).2⟩
    · rw [hdel, map_erase, ← he, ← map_erase]
      congr 1
      rw [Array.eraseIdxIfInBounds, dif_pos hes]
      simp
    · rw [hdel, map_erase]
      exact hd.sublist (List.eraseIdx_sublist _ _)
theorem run_len {w : World} {b : Nat} {l : List (κ × Value)} {t e ty : TypeId} (h : MapAt K w b l) (ht : P.underlying t = some (.map kt e)) : (Builtin.len_ #[t] ty #[.map (some b)]).run P w = .ok (.int .i64 l.length) w := by
  obtain ⟨es, c, hb, he, hd, hbn⟩ := h
  have hl : es.size = l.length := by have := congrArg List.length he; simpa using this
  simp [Builtin.len_, run_underlying ht, Go.MapKept.run_getObj_map hb, hl, goInt]

/-- The look-up in a walk. -/
theorem wpList_look {ops : Array Oper} {rest : List Oper} {o : Oper} {a : Act} {Q : Exit → Act → World → Prop} {w : World} (hg : o.guard = none) (m x : Operand) (t e : TypeId) (ok : Bool) (hop : o.op = Op.lookup t m x ok)
    (ht : P.underlying t = some (.map kt e)) {z : Value} (hz : ∀ w, (zeroValue e).run P w = .ok z w) (b : Nat) (l : List (κ × Value)) (k : κ) (hm : a.eval m = .map (some b)) (hk : a.eval x = K.kv k) (h : MapAt K w b l)
    (hK : wpList P ops Q rest (a.put o.dst (if ok then .tuple #[(getM l k).getD z, .bool (getM l k).isSome] else (getM l k).getD z)) w) : wpList P ops Q (o :: rest) a w := by
  refine wpList_plain hg fun K' hK' => ?_
  have hr := run_lookup (K := K) h ht (hz w) k ok
  unfold Oper.wp
  simp [execOp, hop, hm, hk, hr, Result.andThen]
  exact hK' _ _ hK
/-- A store in a walk. -/
theorem wpList_store {ops : Array Oper} {rest : List Oper} {o : Oper} {a : Act} {Q : Exit → Act → World → Prop} {w : World} (hg : o.guard = none) (m x y : Operand) (t e : TypeId) (hop : o.op = Op.mapUpdate t m x y)
    (ht : P.underlying t = some (.map kt e)) (b : Nat) (l : List (κ × Value)) (k : κ) (v : Value) (hm : a.eval m = .map (some b)) (hk : a.eval x = K.kv k) (hv : a.eval y = v) (h : MapAt K w b l)
    (hK : ∀ w', MapAt K w' b (putM l k v) → w.grownBy w' (some b) → w'.heap.size = w.heap.size → wpList P ops Q rest (a.put o.dst undef) w') : wpList P ops Q (o :: rest) a w := by
  refine wpList_plain hg fun K' hK' => ?_
  obtain ⟨w', hr, h1, h2, h3⟩ := run_mapUpdate (K := K) h ht k v
  unfold Oper.wp
  simp [execOp, hop, hm, hk, hv, hr, Result.andThen]
  exact hK' _ _ (hK w' h1 h2 h3)
end
end Go.Proofs.YtnhaiecbjipodaaGreatDoor
/- Slices of structs: what is read, what the call itself has made, what an append leaves. No program in it. -/
namespace Go.Proofs.YtnhaiecbjipodaaGreatDoor
open Go.RowKit

/-- How a value of some type lies in memory. -/
structure Enc (α : Type) where
  sz : Nat
  cells : α → List Value
  len : ∀ a, (cells a).length = sz
  one : ∀ a, ∀ u ∈ cells a, u.oneCell' = true
  pos : 0 < sz
def bodyE : Enc Body := ⟨10, fun b => b.cells.toList, fun _ => rfl, fun b u hu => by
  simp [Body.cells] at hu
  rcases hu with rfl | rfl | rfl | rfl | rfl | rfl | rfl | rfl | rfl | rfl <;> rfl, by decide⟩

/-- The value is a slice that reads as this list. -/
def Reads {α : Type} (E : Enc α) (w : World) (v : Value) (l : List α) : Prop :=
  l.length ≤ 140737488355328 ∧ ∃ A c, v = .slice A l.length c ∧ ∀ i a, l[i]? = some a → ∃ b off, A = some ⟨b, off, none⟩ ∧ ∀ j u, (E.cells a)[j]? = some u → w.cell? ⟨b, off + i * E.sz + j, none⟩ = some u
/-- The value is a slice of the call's own that holds this list. -/
def Own {α : Type} (E : Enc α) (t : TypeId) (w : World) (base : Nat) (v : Value) (l : List α) : Prop := w.ownsRow base t E.sz v l.length (l.flatMap E.cells)

section
variable {α : Type} {E : Enc α} {t : TypeId} {w w' : World} {v : Value} {l : List α} {base : Nat}
theorem Reads.below (h : Reads E w v l) (hb : Below w.heap.size w w') : Reads E w' v l := by
  obtain ⟨h1, A, c, h2, h3⟩ := h
  refine ⟨h1, A, c, h2, fun i a ha => ?_⟩
  obtain ⟨b, off, e, hc⟩ := h3 i a ha
  exact ⟨b, off, e, fun j u hu => (hb.cell (World.block_lt_of_cell? w _ (hc j u hu))).trans (hc j u hu)⟩
theorem Reads.grow (h : Reads E w v l) (g : Grow w) : Reads E g.world v l := h.below g.below
theorem Reads.alloc (h : Reads E w v l) (o : Obj) : Reads E (w.alloc o) v l := h.below ((Below.refl _ _).alloc (Nat.le_refl _) _)
theorem Reads.form (h : Reads E w v l) : ∃ A c b off, v = .slice A l.length c ∧ (0 < l.length → A = some ⟨b, off, none⟩ ∧ b < w.heap.size) ∧ ∀ i (hi : i < l.length), ∀ j u, (E.cells l[i])[j]? = some u → w.cell? ⟨b, off + i * E.sz + j, none⟩ = some u := by
  obtain ⟨_, A, c, h2, h3⟩ := h
  by_cases hl : 0 < l.length
  · obtain ⟨b, off, e, hc⟩ := h3 0 l[0] (List.getElem?_eq_getElem hl)
    refine ⟨A, c, b, off, h2, fun _ => ⟨e, ?_⟩, fun i hi => ?_⟩
    · have hp := E.pos
      have hlen : (E.cells l[0]).length = E.sz := E.len _
      obtain ⟨u, hu⟩ : ∃ u, (E.cells l[0])[0]? = some u := ⟨(E.cells l[0])[0]'(by omega), List.getElem?_eq_getElem _⟩
      exact World.block_lt_of_cell? w _ (hc 0 u hu)
    · obtain ⟨b', off', e', hc'⟩ := h3 i l[i] (List.getElem?_eq_getElem hi)
      rw [e] at e'
      simp only [Option.some.injEq, Addr.mk.injEq, and_true] at e'
      obtain ⟨rfl, rfl⟩ := e'
      exact hc'
  · exact ⟨A, c, 0, 0, h2, fun h => absurd h hl, fun i hi => absurd hi (by omega)⟩
theorem Reads.len (h : Reads E w v l) : l.length ≤ 140737488355328 := h.1
theorem Reads.none (E : Enc α) (w : World) : Reads E w (.slice none 0 0) ([] : List α) := ⟨by simp, Option.none, 0, rfl, fun i a h => by simp at h⟩

/-- The ten cells of a body at an address. -/
def TenAt (w : World) (b o : Nat) (x : Body) : Prop :=
  w.cell? ⟨b, o, none⟩ = some (.int .u32 x.key) ∧ w.cell? ⟨b, o + 1, none⟩ = some (.int .i32 x.radius) ∧ w.cell? ⟨b, o + 2, none⟩ = some (.int .i32 x.ax) ∧ w.cell? ⟨b, o + 3, none⟩ = some (.int .i32 x.ay) ∧ w.cell? ⟨b, o + 4, none⟩ = some (.int .i32 x.inv) ∧
  w.cell? ⟨b, o + 5, none⟩ = some (.int .i32 x.bounce) ∧ w.cell? ⟨b, o + 6, none⟩ = some (.int .i32 x.px) ∧ w.cell? ⟨b, o + 7, none⟩ = some (.int .i32 x.py) ∧ w.cell? ⟨b, o + 8, none⟩ = some (.int .i32 x.vx) ∧ w.cell? ⟨b, o + 9, none⟩ = some (.int .i32 x.vy)
theorem ten_of {b o : Nat} {x : Body} (h : ∀ j u, (bodyE.cells x)[j]? = some u → w.cell? ⟨b, o + j, Option.none⟩ = some u) : TenAt w b o x :=
  ⟨h 0 _ rfl, h 1 _ rfl, h 2 _ rfl, h 3 _ rfl, h 4 _ rfl, h 5 _ rfl, h 6 _ rfl, h 7 _ rfl, h 8 _ rfl, h 9 _ rfl⟩

theorem TenAt.below {b o : Nat} {x : Body} (h : TenAt w b o x) (hb : Below w.heap.size w w') : TenAt w' b o x := by
  obtain ⟨h0, h1, h2, h3, h4, h5, h6, h7, h8, h9⟩ := h
  have z : b < w.heap.size := World.block_lt_of_cell? w _ h0
  exact ⟨(keepB hb b z _).trans h0, (keepB hb b z _).trans h1, (keepB hb b z _).trans h2, (keepB hb b z _).trans h3, (keepB hb b z _).trans h4, (keepB hb b z _).trans h5, (keepB hb b z _).trans h6, (keepB hb b z _).trans h7, (keepB hb b z _).trans h8, (keepB hb b z _).trans h9⟩
/-- The ten cells of a body at the head of a block. -/
def BoxAt (w : World) (b : Nat) (x : Body) : Prop :=
  w.cell? ⟨b, 0, none⟩ = some (.int .u32 x.key) ∧ w.cell? ⟨b, 1, none⟩ = some (.int .i32 x.radius) ∧ w.cell? ⟨b, 2, none⟩ = some (.int .i32 x.ax) ∧ w.cell? ⟨b, 3, none⟩ = some (.int .i32 x.ay) ∧ w.cell? ⟨b, 4, none⟩ = some (.int .i32 x.inv) ∧
  w.cell? ⟨b, 5, none⟩ = some (.int .i32 x.bounce) ∧ w.cell? ⟨b, 6, none⟩ = some (.int .i32 x.px) ∧ w.cell? ⟨b, 7, none⟩ = some (.int .i32 x.py) ∧ w.cell? ⟨b, 8, none⟩ = some (.int .i32 x.vx) ∧ w.cell? ⟨b, 9, none⟩ = some (.int .i32 x.vy)
theorem box_of {b : Nat} {x : Body} {t : TypeId} (h : w.heap[b]? = some (.cells x.cells t (0, 0))) : BoxAt w b x := by
  have hc : ∀ j, w.cell? ⟨b, j, Option.none⟩ = x.cells[j]? := fun j => by simp [World.cell?, h]
  exact ⟨hc 0, hc 1, hc 2, hc 3, hc 4, hc 5, hc 6, hc 7, hc 8, hc 9⟩
/-- A slice of bodies: its parts, and where each body lies. -/
theorem Reads.bodies {l : List Body} (h : Reads bodyE w v l) : ∃ A c b off, v = .slice A l.length c ∧ (0 < l.length → A = some ⟨b, off, Option.none⟩ ∧ b < w.heap.size) ∧ ∀ i (hi : i < l.length), TenAt w b (off + i * 10) l[i] := by
  obtain ⟨A, c, b, off, h1, h2, h3⟩ := h.form
  exact ⟨A, c, b, off, h1, h2, fun i hi => ten_of (h3 i hi)⟩
theorem flat_len (E : Enc α) (l : List α) : (l.flatMap E.cells).length = l.length * E.sz := by
  induction l with
  | nil => simp
  | cons a r ih => simp [List.flatMap_cons, ih, E.len, Nat.succ_mul, Nat.add_comm]
theorem flat_get (E : Enc α) : ∀ (l : List α) (i : Nat) (a : α) (j : Nat) (u : Value), l[i]? = some a → (E.cells a)[j]? = some u → (l.flatMap E.cells)[i * E.sz + j]? = some u
  | [], i, a, j, u, h, _ => by simp at h
  | b :: r, 0, a, j, u, h, hu => by
    simp at h
    subst h
    have hj : j < (E.cells b).length := (List.getElem?_eq_some_iff.1 hu).1
    rw [List.flatMap_cons, Nat.zero_mul, Nat.zero_add, List.getElem?_append_left hj, hu]
  | b :: r, i + 1, a, j, u, h, hu => by
    have hh : r[i]? = some a := by simpa using h
    rw [List.flatMap_cons, List.getElem?_append_right (by rw [E.len, Nat.succ_mul]; omega), E.len, show (i + 1) * E.sz + j - E.sz = i * E.sz + j from by rw [Nat.succ_mul]; omega]
    exact flat_get E r i a j u hh hu

theorem Own.nil (E : Enc α) (t : TypeId) (w : World) (base : Nat) : Own E t w base (.slice Option.none 0 0) ([] : List α) := ⟨by simp, .inl ⟨rfl, rfl⟩⟩
theorem Own.reads (h : Own E t w base v l) (hl : l.length ≤ 140737488355328) : Reads E w v l := by
  rcases h.2 with ⟨rfl, h0⟩ | ⟨g, cap, cur, rfl, _, _, _⟩
  · obtain rfl : l = [] := List.eq_nil_of_length_eq_zero h0
    exact Reads.none E w
  · refine ⟨hl, _, _, rfl, fun i a ha => ⟨g, 0, rfl, fun j u hu => ?_⟩⟩
    have := World.ownsRow.cells h (g := g) rfl (i * E.sz + j) u (flat_get E l i a j u ha hu)
    rwa [show (⟨g, 0, Option.none⟩ : Addr).add (i * E.sz + j) = ⟨g, 0 + i * E.sz + j, Option.none⟩ from by unfold Addr.add; split <;> simp_all] at this
theorem Own.form (h : Own E t w base v l) : ∃ A c, v = .slice A l.length c := by
  rcases h.2 with ⟨rfl, h0⟩ | ⟨g, cap, cur, rfl, _⟩
  · exact ⟨Option.none, 0, by rw [h0]⟩
  · exact ⟨_, cap, rfl⟩
theorem Own.kept {row : Option Nat} (h : Own E t w base v l) (hg : w.grownBy w' row) (hne : v.ownBlock = Option.none ∨ v.ownBlock ≠ row) : Own E t w' base v l := World.ownsRow.kept h hg hne
theorem Own.alloc (h : Own E t w base v l) (o : Obj) : Own E t (w.alloc o) base v l := World.ownsRow.alloc h o
theorem Own.below (h : Own E t w base v l) (hb : Below w.heap.size w w') : Own E t w' base v l :=
  h.kept (row := Option.none) ⟨hb.os, hb.tape, hb.output, hb.size, fun i hi _ => hb.block i hi⟩ (by cases v.ownBlock <;> simp)
theorem Own.base_le (h : Own E t w base v l) (k : Nat) (hk : v.ownBlock = some k) : base ≤ k := by
  rcases h.2 with ⟨rfl, _⟩ | ⟨g, cap, cur, rfl, hb, _⟩
  · simp [Value.ownBlock] at hk
  · have : g = k := by simpa [Value.ownBlock] using hk
    omega
end

section
variable {P : Program} {ops : Array Oper} {rest : List Oper} {o : Oper} {a : Act} {Q : Exit → Act → World → Prop}
/-- append(v, x), x one value: behind 'at_builtin'; the goal's world is 'W.alloc' of the variadic's row. -/
theorem own_append {α : Type} (E : Enc α) {w0 W : World} (base : Nat) (hgd : o.guard = none) (s x : Operand) (t e : TypeId) (z : Value) (bytes : Nat)
    (ho : o.op = .call { callee := .builtin .append, args := #[s, x], argTypes := #[t, t] })
    (ht : P.underlying t = some (.slice e)) (hinfo : (P.info? e).map (fun i => (i.zero, i.size, i.bytes)) = some (some z, E.sz, bytes)) (hz : z.cells.size = E.sz) (hb0 : 0 < bytes)
    (v : Value) (l : List α) (y : α) (cs : Array Value) (hcs : cs.toList = E.cells y) (hs : a.eval s = v) (hx : a.eval x = .slice (some ⟨W.heap.size, 0, none⟩) 1 1)
    (HO : Own E e W base v l) (HB : Below base w0 W) (hbase : base ≤ W.heap.size) (hl : (l.length + 1) * bytes ≤ 140737488355328)
    (h : ∀ v1 w1, Own E e w1 base v1 (l ++ [y]) → Below base w0 w1 → W.grownBy w1 v.ownBlock → base ≤ w1.heap.size → wpList P ops Q rest (a.put o.dst v1) w1) :
    wpList P ops Q (o :: rest) a (W.alloc (.cells cs e)) := by
  obtain ⟨i0, hi, hzz⟩ := Option.map_eq_some_iff.1 hinfo
  simp only [Prod.mk.injEq] at hzz
  obtain ⟨hz0, hz1, hz2⟩ := hzz
  have hlen : l.length + 1 ≤ 140737488355328 := Nat.le_trans (Nat.le_mul_of_pos_right _ hb0) hl
  refine wpList_append_own_at (W.alloc (.cells cs e)) hgd s x t ho base e i0 z E.sz bytes ht hi hz0 hz1 hz2 hz E.pos v l.length (l.flatMap E.cells) hs (World.ownsRow.alloc HO _) ⟨W.heap.size, 0, none⟩ 1 1 (E.cells y) hx (by rw [E.len]; omega)
    (fun j u hu => World.news_of_block (cs := cs) (t := e) (fr := (0, 0)) (heap_alloc_new W _) j u (by rw [hcs]; exact hu)) (E.one y) (by simp only [maxLen]; omega) hl (by simp; omega) ?_
  intro v1 w1 hown hg _ _
  have hg' := World.grownBy.trans (World.grownBy_alloc W (.cells cs e) _) hg
  refine h v1 w1 ?_ ((HB.alloc hbase _).grown hg (by simp; omega) (fun k hk => Own.base_le HO k hk)) hg' (Nat.le_trans hbase hg'.size)
  unfold Own
  rw [List.length_append, List.flatMap_append]
  simpa using hown
end
end Go.Proofs.YtnhaiecbjipodaaGreatDoor
/- Worlds of which some blocks alone may have turned. No program in it. -/
namespace Go.Proofs.YtnhaiecbjipodaaGreatDoor
open Go.RowKit Go.MapKept

/-- Of what was there only the blocks of S may have turned. -/
structure Alter (S : Nat → Prop) (w w' : World) : Prop where
  os : w'.os = w.os
  tape : w'.tape = w.tape
  output : w'.output = w.output
  size : w.heap.size ≤ w'.heap.size
  block : ∀ k, k < w.heap.size → ¬ S k → w'.heap[k]? = w.heap[k]?
section
variable {S T : Nat → Prop} {w w' w'' : World}
theorem Alter.refl (S : Nat → Prop) (w : World) : Alter S w w := ⟨rfl, rfl, rfl, Nat.le_refl _, fun _ _ _ => rfl⟩
theorem Alter.trans (h : Alter S w w') (g : Alter T w' w'') (hst : ∀ k, k < w.heap.size → T k → S k) : Alter S w w'' :=
  ⟨g.os.trans h.os, g.tape.trans h.tape, g.output.trans h.output, Nat.le_trans h.size g.size, fun k hk hs => (g.block k (Nat.lt_of_lt_of_le hk h.size) (fun ht => hs (hst k hk ht))).trans (h.block k hk hs)⟩
theorem Alter.mono (h : Alter S w w') (hst : ∀ k, k < w.heap.size → S k → T k) : Alter T w w' := ⟨h.os, h.tape, h.output, h.size, fun k hk ht => h.block k hk (fun hs => ht (hst k hk hs))⟩
theorem Alter.of_below (h : Below w.heap.size w w') (S : Nat → Prop) : Alter S w w' := ⟨h.os, h.tape, h.output, h.size, fun k hk _ => h.block k hk⟩
theorem Alter.of_grown {b : Nat} (h : w.grownBy w' (some b)) (hb : S b) : Alter S w w' := ⟨h.os, h.tape, h.output, h.size, fun k hk hs => h.block k hk (fun e => hs (by simp at e; subst e; exact hb))⟩
theorem Alter.of_grown_none {r : Option Nat} (h : w.grownBy w' r) (hb : ∀ b, r = some b → S b) : Alter S w w' := ⟨h.os, h.tape, h.output, h.size, fun k hk hs => h.block k hk (fun e => hs (hb k e.symm))⟩
theorem Alter.below (h : Alter S w w') {n : Nat} (hn : n ≤ w.heap.size) (hs : ∀ k, k < n → ¬ S k) : Below n w w' := ⟨h.os, h.tape, h.output, h.size, fun k hk => h.block k (by omega) (hs k hk)⟩
theorem Alter.cell (h : Alter S w w') {b o : Nat} (hb : b < w.heap.size) (hs : ¬ S b) : w'.cell? ⟨b, o, none⟩ = w.cell? ⟨b, o, none⟩ := World.cell?_of_block (h.block b hb hs)
theorem Alter.froz (h : Alter S w w') {b o : Nat} (hb : b < w.heap.size) (hs : ¬ S b) : w'.frozen? ⟨b, o, none⟩ = w.frozen? ⟨b, o, none⟩ := World.frozen?_of_block (h.block b hb hs)
theorem Alter.setCell {b o : Nat} (hb : S b) (v : Value) (w : World) : Alter S w (w.setCell ⟨b, o, none⟩ v) :=
  ⟨rfl, rfl, rfl, by simp, fun k hk hs => Below.heap_setCell _ _ _ _ (fun e => hs (by subst e; exact hb))⟩
theorem Alter.reads {α : Type} {E : Enc α} {v : Value} {l : List α} (h : Alter S w w') (hr : Reads E w v l) (hs : ∀ b, v.ownBlock = some b → ¬ S b) : Reads E w' v l := by
  obtain ⟨h1, A, c, rfl, h3⟩ := hr
  refine ⟨h1, A, c, rfl, fun i a ha => ?_⟩
  obtain ⟨b, off, e, hc⟩ := h3 i a ha
  subst e
  refine ⟨b, off, rfl, fun j u hu => ?_⟩
  rw [h.cell (World.block_lt_of_cell? w _ (hc j u hu)) (hs b rfl)]
  exact hc j u hu
end
end Go.Proofs.YtnhaiecbjipodaaGreatDoor
/- Blocks of cells: what a block holds, and what leaves it as it is. No program in it. -/
namespace Go.Proofs.YtnhaiecbjipodaaGreatDoor
open Go.RowKit

/-- The block holds these cells, and none of them is frozen. -/
def CellsAt (w : World) (b : Nat) (cs : Array Value) (t : TypeId) : Prop := w.heap[b]? = some (.cells cs t (0, 0))
section
variable {w w' : World} {b : Nat} {cs : Array Value} {t : TypeId}
theorem CellsAt.lt (h : CellsAt w b cs t) : b < w.heap.size := (Array.getElem?_eq_some_iff.1 h).1
theorem CellsAt.cell (h : CellsAt w b cs t) (i : Nat) : w.cell? ⟨b, i, none⟩ = cs[i]? := by
  unfold CellsAt at h
  simp [World.cell?, h]
theorem CellsAt.at (h : CellsAt w b cs t) (i : Nat) {v : Value} (hv : cs[i]? = some v) : w.cell? ⟨b, i, none⟩ = some v := (h.cell i).trans hv
theorem CellsAt.froz (h : CellsAt w b cs t) (i : Nat) : w.frozen? ⟨b, i, none⟩ = false := by
  unfold CellsAt at h
  simp [World.frozen?, h]
theorem CellsAt.of_block (h : CellsAt w b cs t) (hb : w'.heap[b]? = w.heap[b]?) : CellsAt w' b cs t := hb.trans h
theorem CellsAt.below {n : Nat} (h : CellsAt w b cs t) (hb : Below n w w') (hn : b < n) : CellsAt w' b cs t := h.of_block (hb.block b hn)
theorem CellsAt.grow (h : CellsAt w b cs t) (g : Grow w) : CellsAt g.world b cs t := h.below g.below h.lt
theorem CellsAt.alloc (h : CellsAt w b cs t) (o : Obj) : CellsAt (w.alloc o) b cs t := h.below ((Below.refl _ _).alloc (Nat.le_refl _) o) h.lt
theorem CellsAt.drewN (h : CellsAt w b cs t) (n : Nat) : CellsAt (w.drewN n) b cs t := h
theorem CellsAt.drew (h : CellsAt w b cs t) : CellsAt w.drew b cs t := h
theorem CellsAt.far {p i : Nat} (h : CellsAt w b cs t) (hb : b ≠ p) (v : Value) : CellsAt (w.setCell ⟨p, i, none⟩ v) b cs t := (Below.heap_setCell w ⟨p, i, none⟩ v b hb).trans h
theorem CellsAt.set (h : CellsAt w b cs t) (i : Nat) (v : Value) : CellsAt (w.setCell ⟨b, i, none⟩ v) b (cs.set! i v) t := heap_setCell_same w b i cs t v h
theorem CellsAt.alter {S : Nat → Prop} (h : CellsAt w b cs t) (ha : Alter S w w') (hs : ¬ S b) : CellsAt w' b cs t := h.of_block (ha.block b h.lt hs)
theorem CellsAt.new (w : World) (cs : Array Value) (t : TypeId) : CellsAt (w.alloc (.cells cs t)) w.heap.size cs t := heap_alloc_new w _
theorem CellsAt.newAt {o : Obj} (hb : b = w.heap.size) (ho : o = .cells cs t (0, 0)) : CellsAt (w.alloc o) b cs t := by subst hb ho; exact heap_alloc_new w _
theorem CellsAt.eq (h : CellsAt w b cs t) {ds : Array Value} (e : cs = ds) : CellsAt w b ds t := e ▸ h
theorem alter_alloc {S : Nat → Prop} {W : World} (h : Alter S w W) (o : Obj) : Alter S w (W.alloc o) := h.trans (T := fun _ => False) (Alter.of_below ((Below.refl _ _).alloc (Nat.le_refl _) o) _) (fun _ _ h => h.elim)
theorem alter_drewN {S : Nat → Prop} {W : World} (h : Alter S w W) (n : Nat) : Alter S w (W.drewN n) := ⟨h.os, h.tape, h.output, h.size, h.block⟩
theorem alter_drew {S : Nat → Prop} {W : World} (h : Alter S w W) : Alter S w W.drew := ⟨h.os, h.tape, h.output, h.size, h.block⟩
theorem alter_grow {S : Nat → Prop} {W : World} (h : Alter S w W) (g : Grow W) : Alter S w g.world := h.trans (T := fun _ => False) (Alter.of_below g.below _) (fun _ _ h => h.elim)
theorem alter_set {S : Nat → Prop} {W : World} {b o : Nat} (h : Alter S w W) (hb : S b ∨ w.heap.size ≤ b) (v : Value) : Alter S w (W.setCell ⟨b, o, none⟩ v) :=
  ⟨h.os, h.tape, h.output, by simpa using h.size, fun k hk hs => (Below.heap_setCell W ⟨b, o, none⟩ v k (fun e => by
    have e' : k = b := e
    subst e'
    rcases hb with hb | hb
    · exact hs hb
    · omega)).trans (h.block k hk hs)⟩
theorem alter_below {S : Nat → Prop} {W : World} (h : Alter S w W) (hs : ∀ k, k < w.heap.size → ¬ S k) : Below w.heap.size w W := h.below (Nat.le_refl _) hs
end
/-- A result that lies in a block: to be read off any world that holds the block so. -/
theorem ret_cells {P : Program} {fn : Func} {tmps : Array Value} {W : World} {v : Value} (B : Nat) (cs : Array Value) (t : TypeId) (K : CellsAt W B cs t) (h : ∀ W', CellsAt W' B cs t → (results fn tmps).run P W' = .ok v W') : (results fn tmps).run P W = .ok v W := h W K
theorem ret_cells2 {P : Program} {fn : Func} {tmps : Array Value} {W : World} {v : Value} (B : Nat) (cs : Array Value) (t : TypeId) (B2 : Nat) (cs2 : Array Value) (t2 : TypeId) (K : CellsAt W B cs t) (K2 : CellsAt W B2 cs2 t2) (h : ∀ W', CellsAt W' B cs t → CellsAt W' B2 cs2 t2 → (results fn tmps).run P W' = .ok v W') : (results fn tmps).run P W = .ok v W := h W K K2
end Go.Proofs.YtnhaiecbjipodaaGreatDoor
/- A region that draws its order: quiet operations in a class of worlds, and behind them a tail in one forced order. No program in it. -/
namespace Go.Proofs.YtnhaiecbjipodaaGreatDoor
open Go
section
variable {P : Program} {ops : Array Oper} {md : Region.Mode} {C : World → Prop}

def wpAnyT (P : Program) (md : Region.Mode) (ops : Array Oper) (C : World → Prop) (n : Nat) (L : Array Bool → Act → Prop) : Nat → Array Bool → Act → Prop
  | 0, listed, a => L listed a
  | f + 1, listed, a => Region.ready md ops listed ≠ [] ∧ ∀ i ∈ Region.ready md ops listed, i < n ∧ qOp P ops C i (wpAnyT P md ops C n L f (listed.setIfInBounds i true)) a

theorem wpAny_of_headT {n g : Nat} {L : Array Bool → Act → Prop} {Q' : Exit → Act → World → Prop} (hL : ∀ listed a w, C w → L listed a → wpAny P md ops Q' g listed a w) :
    ∀ (f : Nat) (listed : Array Bool) (a : Act) (w : World), C w → wpAnyT P md ops C n L f listed a → wpAny P md ops Q' (f + g) listed a w
  | 0, listed, a, w, hw, h => by rw [Nat.zero_add]; exact hL _ _ _ hw h
  | f + 1, listed, a, w, hw, h => by
    rw [show f + 1 + g = (f + g) + 1 by omega]
    exact ⟨fun h0 => absurd h0 h.1, fun i hi => wpOp_of_qOp hw (fun a' w' hw' h' => wpAny_of_headT hL f _ a' w' hw' h') (h.2 i hi).2⟩

theorem wpAnyT_first {n i : Nat} {oi : Oper} {v : Value} {L : Array Bool → Act → Prop} (hi : ops[i]? = some oi) (hsel : ∀ (j : Nat) (o : Oper) cs b, ops[j]? = some o → o.op ≠ .select cs b)
    (hs : Region.sinkB md ops n = true) (hc : Region.chainB md ops n = true) (hn : n < ops.size) (hin : i < n)
    (hdone : ∀ listed a, L listed a → ∀ j ∈ Region.ready md ops listed, n ≤ j) :
    ∀ (f : Nat) (listed : Array Bool) (a : Act), HeadInv md ops n listed →
      (∀ j oj, ops[j]? = some oj → j ≠ i → listed.getD j true = false → (∀ e ∈ oj.after, Region.binds md e = true → e.on ≠ i) → oi.apart ops oj = true) →
      i ∈ Region.ready md ops listed → YieldsIn P ops C oi v a →
      wpAnyT P md ops C n L f (listed.setIfInBounds i true) (a.put oi.dst v) → wpAnyT P md ops C n L (f + 1) listed a := by
  intro f
  induction f with
  | zero =>
    intro listed a inv _ hr hy H
    have hun := (mem_ready.1 hr).1
    refine ⟨fun h => (by rw [h] at hr; cases hr), fun j hj => ?_⟩
    have hjn : j < n := by
      rcases Nat.lt_or_ge j n with h | h
      · exact h
      · exact absurd hj (tail_waits hs hc hn inv _ i rfl hin hun j h)
    refine ⟨hjn, ?_⟩
    by_cases hji : j = i
    · subst hji; exact hy.qOp hi H
    · have := hdone _ _ H j (ready_mono hj hji)
      omega
  | succ f ih =>
    intro listed a inv hfree hr hy H
    have hun := (mem_ready.1 hr).1
    refine ⟨fun h => (by rw [h] at hr; cases hr), fun j hj => ?_⟩
    have hjn : j < n := by
      rcases Nat.lt_or_ge j n with h | h
      · exact h
      · exact absurd hj (tail_waits hs hc hn inv _ i rfl hin hun j h)
    refine ⟨hjn, ?_⟩
    by_cases hji : j = i
    · subst hji; exact hy.qOp hi H
    · have h1 := (H.2 j (ready_mono hj hji)).2
      obtain ⟨hjun, oj, hoj, hall⟩ := mem_ready.1 hj
      have hnot : ∀ e ∈ oj.after, Region.binds md e = true → e.on ≠ i := fun e he hb heq => by
        have h1 := hall e he hb
        rw [heq, getD_both hun] at h1
        cases h1
      have h2 := qOp_put hoj (hfree j oj hoj hji hjun hnot) (fun cs b => hsel i oi cs b hi) (fun cs b => hsel j oj cs b hoj) hy h1
      have hfree' : ∀ k ok, ops[k]? = some ok → k ≠ i → (listed.setIfInBounds j true).getD k true = false →
          (∀ e ∈ ok.after, Region.binds md e = true → e.on ≠ i) → oi.apart ops ok = true := fun k ok hk hki hun hno => by
        refine hfree k ok hk hki ?_ hno
        by_cases hjk : j = k
        · subst hjk; exact hjun
        · rw [getD_set_ne true hjk] at hun; exact hun
      refine qOp_mono (fun a' h3 => ih (listed.setIfInBounds j true) a' (inv.set hj hjn) hfree' (ready_mono hr (Ne.symm hji)) h3.1 ?_) h2
      rw [Array.setIfInBounds_comm _ _ hji]
      exact h3.2

theorem wpAnyT_lex {n g : Nat} {Lq : Act → Prop} (hsel : Region.noSelect ops = true) (hs : Region.sinkB md ops n = true) (hc : Region.chainB md ops n = true) (hn : n < ops.size) :
    ∀ (l : List Oper) (k : Nat) (listed : Array Bool) (a : Act), (∀ j, j < l.length → l[j]? = ops[k + j]?) → k + l.length = n → HeadInv md ops n listed →
    Region.lexHead md ops g l.length k listed = true → wpQuiet P ops C Lq l a →
    wpAnyT P md ops C n (fun listed' a' => Region.seqB md ops g n listed' = true ∧ Lq a') l.length listed a
  | [], k, listed, a, _, hk, _, hB, h => by
    have : k = n := by simpa using hk
    subst this
    exact ⟨by simpa [Region.lexHead] using hB, h⟩
  | o :: l, k, listed, a, hl, hk, inv, hB, h => by
    have h0 : ops[k]? = some o := by simpa using (hl 0 (by simp)).symm
    simp only [List.length_cons, Region.lexHead, Bool.and_eq_true] at hB
    obtain ⟨⟨hr, hf⟩, hB'⟩ := hB
    have hkn : k < n := by simp only [List.length_cons] at hk; omega
    have hr' : k ∈ Region.ready md ops listed := by simpa using hr
    have hst : qOp P ops C k (wpQuiet P ops C Lq l) a := by unfold qOp; simp only [h0]; exact h
    obtain ⟨v, hy, hK⟩ := yieldsIn_of_qOp h0 hst
    exact wpAnyT_first h0 (Region.noSelect_spec hsel) hs hc hn hkn (fun listed' a' hL => seqB_ready hL.1) l.length listed a inv (Region.free_spec h0 hf) hr' hy
      (wpAnyT_lex hsel hs hc hn l (k + 1) _ _ (fun j hj => by have := hl (j + 1) (by simp; omega); simpa [Nat.add_assoc, Nat.add_comm 1 j] using this) (by simp only [List.length_cons] at hk; omega) (inv.set hr' hkn) hB' hK)

theorem wp_region_quiet_tail {id : Nat} {Q : Exit → Act → World → Prop} {a : Act} {w : World} {l : List Oper} (n : Nat) (hm : P.follows .mixedOrders = true) (hB : Region.lexTailB .any l.toArray n = true) (hC : C { w with drawn := w.drawn + 1 })
    (h : wpQuiet P l.toArray C (fun a' => ∀ w', C w' → wpList P l.toArray Q (l.drop n) a' w') (l.take n) a) : (Code.region id l.toArray true).wp P Q a w := by
  simp only [Region.lexTailB, Bool.and_eq_true, decide_eq_true_eq] at hB
  obtain ⟨⟨⟨⟨hsel, hn⟩, hs⟩, hc⟩, hlex⟩ := hB
  have hn' : n < l.length := by simpa using hn
  have htl : (l.take n).length = n := by simp; omega
  have hdl : (l.drop n).length = l.toArray.size - n := by simp
  have inv0 : HeadInv .any l.toArray n (Array.replicate l.toArray.size false) :=
    ⟨by simp, fun j oj _ hl => (by rw [getD_replicate_false] at hl; cases hl), fun t _ ht => getD_in (by simpa using ht) (getD_replicate_false _ _)⟩
  have H := wpAnyT_lex (C := C) (md := .any) (g := l.toArray.size - n) hsel hs hc hn (l.take n) 0 _ a (fun j hj => by
    have hj' : j < n := by rw [htl] at hj; exact hj
    simp [hj']) (by simpa using htl) inv0 (by rw [htl]; exact hlex) h
  refine wp_region_any hm ?_
  have := wpAny_of_headT (Q' := Q) (g := l.toArray.size - n) (fun listed a' w' hw' hL => by
    have := wpAny_of_seq (md := .any) (Q' := Q) (l.drop n) n listed a' w' (fun j => by simp [List.getElem?_drop]) (by rw [hdl]; exact hL.1) (hL.2 w' hw')
    rwa [hdl] at this) _ _ _ _ hC H
  rw [htl, show n + (l.toArray.size - n) = l.toArray.size by omega] at this
  exact this

/-- The same at the class of the worlds that have grown. -/
theorem wp_region_grow_tail {id : Nat} {Q : Exit → Act → World → Prop} {a : Act} {w : World} {l : List Oper} (n : Nat) (hm : P.follows .mixedOrders = true) (hB : Region.lexTailB .any l.toArray n = true)
    (h : wpQuiet P l.toArray (fun w' => ∃ g : Grow w, w' = g.world) (fun a' => ∀ w', (∃ g : Grow w, w' = g.world) → wpList P l.toArray Q (l.drop n) a' w') (l.take n) a) : (Code.region id l.toArray true).wp P Q a w :=
  wp_region_quiet_tail (C := fun w' => ∃ g : Grow w, w' = g.world) n hm hB ⟨Grow.drawn w, rfl⟩ h
/-- The same at the class of the worlds that only draws have turned. -/
theorem wp_region_drew_tail {id : Nat} {Q : Exit → Act → World → Prop} {a : Act} {w : World} {l : List Oper} (n : Nat) (hm : P.follows .mixedOrders = true) (hB : Region.lexTailB .any l.toArray n = true)
    (h : wpQuiet P l.toArray (fun w' => ∃ n, w' = w.drewN n) (fun a' => ∀ w', (∃ n, w' = w.drewN n) → wpList P l.toArray Q (l.drop n) a' w') (l.take n) a) : (Code.region id l.toArray true).wp P Q a w :=
  wp_region_quiet_tail (C := fun w' => ∃ n, w' = w.drewN n) n hm hB ⟨1, rfl⟩ h
end
end Go.Proofs.YtnhaiecbjipodaaGreatDoor
/- Keys of maps: whole numbers. No program in it. -/
namespace Go.Proofs.YtnhaiecbjipodaaGreatDoor
open Go.RowKit Go.MapKept

theorem findNow_int (q : IntKind) (k : Int) : ∀ (es : List MapEntry) (l : List (Int × Value)) (i : Nat), es.map (fun e => (e.key, e.val)) = l.map (fun p => (Value.int q p.1, p.2)) →
    Instr.findNow (.int q) (.int q k) es i = some ((l.findIdx? (fun p => p.1 = k)).map fun j => (i + j, (l.map Prod.snd).getD j undef))
  | [], [], i, _ => rfl
  | [], _ :: _, _, h => by simp at h
  | _ :: _, [], _, h => by simp at h
  | e :: es, p :: l, i, h => by
    simp only [List.map_cons, List.cons.injEq, Prod.mk.injEq] at h
    obtain ⟨⟨h1, h2⟩, h3⟩ := h
    have ih := findNow_int q k es l (i + 1) h3
    unfold Instr.findNow
    simp only [h1, Instr.sameNow, if_true]
    by_cases hk : p.1 = k
    · simp [List.findIdx?_cons, hk, h2]
    · have hk' : (k == p.1) = false := by rw [beq_eq_false_iff_ne]; exact fun e => hk e.symm
      simp only [hk', ih, List.findIdx?_cons, hk, decide_false, Bool.false_eq_true, if_false]
      cases (l.findIdx? fun p => decide (p.1 = k)) with
      | none => rfl
      | some j => simp; omega
def intKey (P : Program) (kt : TypeId) (q : IntKind) (h : P.underlying kt = some (.int q)) : MKey P kt Int where
  kv n := .int q n
  check e k w := run_checkKey h (by trivial) e 9999
  find k es l w he := by
    have := findNow_int q k es l 0 he
    rw [run_findKey h this]
    cases (l.findIdx? fun p => decide (p.1 = k)) <;> simp
  bits k := by unfold Instr.sameBits; simp
end Go.Proofs.YtnhaiecbjipodaaGreatDoor
