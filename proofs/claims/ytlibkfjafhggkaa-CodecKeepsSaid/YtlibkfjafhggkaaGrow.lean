/- Worlds that have grown: below the heap's old size they are as they were. A region that draws its order and whose operations read or call what only grows the world is walked once. -/
import Derived.WalkKit
import Derived.Deep.Quiet
import Derived.BigQuiet
namespace Go.Proofs.Ytlibkfjafhggkaa
open Go.RowKit

theorem ret_int {k : IntKind} {a b : Int} (h : a = b) : Ending.returned (.int k a) = .returned (.int k b) := by rw [h]
theorem ret_bool {a b : Bool} (h : a = b) : Ending.returned (.bool a) = .returned (.bool b) := by rw [h]
theorem ret_pair {a b : Int} {x y : Bool} (h : a = b) (k : x = y) : Ending.returned (.tuple #[.int .i64 a, .bool x]) = .returned (.tuple #[.int .i64 b, .bool y]) := by rw [h, k]
theorem bcell {W w1 : World} (hb : Below W.heap.size W w1) : (∀ b o, b < W.heap.size → w1.cell? ⟨b, o, none⟩ = W.cell? ⟨b, o, none⟩) ∧ (∀ b o, b < W.heap.size → w1.frozen? ⟨b, o, none⟩ = W.frozen? ⟨b, o, none⟩) :=
  ⟨fun b o h => hb.cell (p := ⟨b, o, none⟩) h, fun b o h => hb.frozen (p := ⟨b, o, none⟩) h⟩
theorem keepB {W w1 : World} (hb : Below W.heap.size W w1) (B : Nat) (h : B < W.heap.size) : ∀ o, w1.cell? ⟨B, o, none⟩ = W.cell? ⟨B, o, none⟩ := fun o => hb.cell (p := ⟨B, o, none⟩) h
theorem new_ok {w : World} (o : Obj) : Below w.heap.size w (w.alloc o) := (Below.refl _ _).alloc (Nat.le_refl _) _
theorem bel_alloc {w W : World} (h : Below w.heap.size w W) (o : Obj) : Below w.heap.size w (W.alloc o) := h.alloc h.size o
theorem bel_drewN {w W : World} (h : Below w.heap.size w W) (n : Nat) : Below w.heap.size w (W.drewN n) := ⟨h.os, h.tape, h.output, h.size, h.block⟩
theorem bel_drew {w W : World} (h : Below w.heap.size w W) : Below w.heap.size w W.drew := ⟨h.os, h.tape, h.output, h.size, h.block⟩

structure Grow (w : World) where
  world : World
  below : Below w.heap.size w world
theorem Grow.of {w w' : World} (h : Below w.heap.size w w') : ∃ g : Grow w, w' = g.world := ⟨⟨w', h⟩, rfl⟩
instance {w : World} : Nonempty (Grow w) := ⟨⟨w, Below.refl _ _⟩⟩
theorem Grow.cell {w : World} (g : Grow w) {p o : Nat} (h : p < w.heap.size) : g.world.cell? ⟨p, o, none⟩ = w.cell? ⟨p, o, none⟩ := g.below.cell (p := ⟨p, o, none⟩) h
theorem Grow.froz {w : World} (g : Grow w) {p o : Nat} (h : p < w.heap.size) : g.world.frozen? ⟨p, o, none⟩ = w.frozen? ⟨p, o, none⟩ := g.below.frozen (p := ⟨p, o, none⟩) h
theorem Grow.lt {w : World} (g : Grow w) {p : Nat} (h : p < w.heap.size) : (p < g.world.heap.size) = True := eq_true (Nat.lt_of_lt_of_le h g.below.size)
theorem Grow.le {w : World} (g : Grow w) : w.heap.size ≤ g.world.heap.size := g.below.size
def Grow.drawn (w : World) : Grow w := ⟨{ w with drawn := w.drawn + 1 }, ⟨rfl, rfl, rfl, Nat.le_refl _, fun _ _ => rfl⟩⟩

theorem bel_grow {w W : World} (h : Below w.heap.size w W) (g : Grow W) : Below w.heap.size w g.world := h.trans (g.below.mono h.size)

theorem Calls.grow_of {P : Program} {f : FuncId} {args : Array Value} {w : World} {g : Grow w} {v : Value}
    (h : Calls P f args g.world fun e w' => e = .returned v ∧ Below g.world.heap.size g.world w') : Calls P f args g.world fun e w'' => e = .returned v ∧ ∃ g' : Grow w, w'' = g'.world :=
  h.mono fun _ _ ⟨he, hb⟩ => ⟨he, Grow.of (g.below.trans (hb.mono g.below.size))⟩

theorem wp_region_grow {P : Program} {id : Nat} {Q : Exit → Act → World → Prop} {a : Act} {w : World} {l : List Oper} (hm : P.follows .mixedOrders = true) (hB : Region.lexB .any l.toArray = true)
    (h : wpQuiet P l.toArray (fun w' => ∃ g : Grow w, w' = g.world) (fun a' => ∀ w', (∃ g : Grow w, w' = g.world) → Q .normal a' w') l a) : (Code.region id l.toArray true).wp P Q a w :=
  wp_region_quiet (C := fun w' => ∃ g : Grow w, w' = g.world) hm hB ⟨Grow.drawn w, rfl⟩ (by simpa using h)
end Go.Proofs.Ytlibkfjafhggkaa
