/- Plain data for the proofs of this seat: bodies as ten numbers, the error of a body. No program in it. -/
import Derived.WalkKit
namespace Go.Proofs.Ytlibkfjafhggkaa
open Go.RowKit

structure Body where
  key : Int
  radius : Int
  ax : Int
  ay : Int
  inv : Int
  bounce : Int
  px : Int
  py : Int
  vx : Int
  vy : Int

def Body.cells (b : Body) : Array Value := #[.int .u32 b.key, .int .i32 b.radius, .int .i32 b.ax, .int .i32 b.ay, .int .i32 b.inv, .int .i32 b.bounce, .int .i32 b.px, .int .i32 b.py, .int .i32 b.vx, .int .i32 b.vy]

abbrev Body.arr (b : Body) : Array Value := #[.int .u32 b.key, .int .i32 b.radius, .int .i32 b.ax, .int .i32 b.ay, .int .i32 b.inv, .int .i32 b.bounce, .int .i32 b.px, .int .i32 b.py, .int .i32 b.vx, .int .i32 b.vy]
def I32 (n : Int) : Prop := -2147483648 ≤ n ∧ n ≤ 2147483647
structure Body.Fit (b : Body) : Prop where
  key : 0 ≤ b.key ∧ b.key ≤ 4294967295
  radius : I32 b.radius
  ax : I32 b.ax
  ay : I32 b.ay
  inv : I32 b.inv
  bounce : I32 b.bounce
  px : I32 b.px
  py : I32 b.py
  vx : I32 b.vx
  vy : I32 b.vy

def inB (x l : Int) : Bool := decide (-l ≤ x) && decide (x ≤ l)
def okRadius (b : Body) : Bool := decide (4096 ≤ b.radius) && decide (b.radius ≤ 4194304)
def okVec (x y l : Int) : Bool := decide (-l ≤ x) && (decide (x ≤ l) && (decide (-l ≤ y) && decide (y ≤ l)))
def okAxis (b : Body) : Bool := okVec b.ax b.ay 4194304
def okMass (b : Body) : Bool := decide (0 ≤ b.inv) && decide (b.inv ≤ 1048576)
def okBounce (b : Body) : Bool := decide (0 ≤ b.bounce) && decide (b.bounce ≤ 65536)
def okPlace (b : Body) : Bool := okVec b.px b.py 1073741824
def okSpeed (b : Body) : Bool := okVec b.vx b.vy 16777216

/-- The error of a body. -/
def errOf (b : Body) : Int :=
  if okRadius b = false then 4 else if okAxis b = false then 5 else if okMass b = false then 6 else if okBounce b = false then 7 else if okPlace b = false then 8 else if okSpeed b = false then 9 else 0

theorem w32 {n : Int} (h : -2147483648 ≤ n ∧ n ≤ 2147483647) : wrap32 n = n := IntWalk.wrap32_in n h
theorem errOf_zero {b : Body} : errOf b = 0 ↔ (4096 ≤ b.radius ∧ b.radius ≤ 4194304) ∧ (-4194304 ≤ b.ax ∧ b.ax ≤ 4194304 ∧ -4194304 ≤ b.ay ∧ b.ay ≤ 4194304) ∧ (0 ≤ b.inv ∧ b.inv ≤ 1048576) ∧ (0 ≤ b.bounce ∧ b.bounce ≤ 65536) ∧ (-1073741824 ≤ b.px ∧ b.px ≤ 1073741824 ∧ -1073741824 ≤ b.py ∧ b.py ≤ 1073741824) ∧ (-16777216 ≤ b.vx ∧ b.vx ≤ 16777216 ∧ -16777216 ≤ b.vy ∧ b.vy ≤ 16777216) := by
  simp only [errOf, okRadius, okAxis, okMass, okBounce, okPlace, okSpeed, okVec, Bool.and_eq_false_iff, decide_eq_false_iff_not]
  constructor
  · intro h
    repeat' split at h
    all_goals first | omega | contradiction
  · intro h
    repeat' rw [if_neg (by omega)]

def eqV (a b c d : Int) : Bool := a == c && (b == d && true)
def eqB (x y : Body) : Bool := x.key == y.key && (x.radius == y.radius && (eqV x.ax x.ay y.ax y.ay && (x.inv == y.inv && (x.bounce == y.bounce && (eqV x.px x.py y.px y.py && (eqV x.vx x.vy y.vx y.vy && true))))))
theorem eqB_iff (x y : Body) : eqB x y = true ↔ x = y := by
  cases x; cases y
  simp [eqB, eqV, and_assoc]
instance : DecidableEq Body := fun x y => if h : eqB x y = true then isTrue ((eqB_iff x y).1 h) else isFalse (fun e => h ((eqB_iff x y).2 e))

end Go.Proofs.Ytlibkfjafhggkaa
