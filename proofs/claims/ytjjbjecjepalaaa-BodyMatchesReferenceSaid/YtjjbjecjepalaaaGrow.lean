/- Worlds that have grown: below the heap's old size they are as they were. A region that draws its order and whose operations read or call what only grows the world is walked once. -/
import Derived.WalkKit
import Derived.Deep.Quiet
import Derived.BigQuiet
namespace Go.Proofs.Ytjjbjecjepalaaa
open Go.RowKit

structure Grow (w : World) where
  world : World
  below : Below w.heap.size w world
theorem Grow.of {w w' : World} (h : Below w.heap.size w w') : ∃ g : Grow w, w' = g.world := ⟨⟨w', h⟩, rfl⟩
instance {w : World} : Nonempty (Grow w) := ⟨⟨w, Below.refl _ _⟩⟩
theorem Grow.cell {w : World} (g : Grow w) {p o : Nat} (h : p < w.heap.size) : g.world.cell? ⟨p, o, none⟩ = w.cell? ⟨p, o, none⟩ := g.below.cell (p := ⟨p, o, none⟩) h
theorem Grow.froz {w : World} (g : Grow w) {p o : Nat} (h : p < w.heap.size) : g.world.frozen? ⟨p, o, none⟩ = w.frozen? ⟨p, o, none⟩ := g.below.frozen (p := ⟨p, o, none⟩) h
theorem Grow.lt {w : World} (g : Grow w) {p : Nat} (h : p < w.heap.size) : (p < g.world.heap.size) = True := eq_true (Nat.lt_of_lt_of_le h g.below.size)
theorem Grow.le {w : World} (g : Grow w) : w.heap.size ≤ g.world.heap.size := g.below.size
def Grow.drawn (w : World) : Grow w := ⟨{ w with drawn := w.drawn + 1 }, ⟨rfl, rfl, rfl, Nat.le_refl _, fun _ _ => rfl⟩⟩

theorem bel_grow {w W : World} (h : Below w.heap.size w W) (g : Grow W) : Below w.heap.size w g.world := h.trans (g.below.mono h.size)

theorem Calls.grow_of {P : Program} {f : FuncId} {args : Array Value} {w : World} {g : Grow w} {v : Value}
    (h : Calls P f args g.world fun e w' => e = .returned v ∧ Below g.world.heap.size g.world w') : Calls P f args g.world fun e w'' => e = .returned v ∧ ∃ g' : Grow w, w'' = g'.world :=
  h.mono fun _ _ ⟨he, hb⟩ => ⟨he, Grow.of (g.below.trans (hb.mono g.below.size))⟩

theorem wp_region_grow {P : Program} {id : Nat} {Q : Exit → Act → World → Prop} {a : Act} {w : World} {l : List Oper} (hm : P.follows .mixedOrders = true) (hB : Region.lexB .any l.toArray = true)
    (h : wpQuiet P l.toArray (fun w' => ∃ g : Grow w, w' = g.world) (fun a' => ∀ w', (∃ g : Grow w, w' = g.world) → Q .normal a' w') l a) : (Code.region id l.toArray true).wp P Q a w :=
  wp_region_quiet (C := fun w' => ∃ g : Grow w, w' = g.world) hm hB ⟨Grow.drawn w, rfl⟩ (by simpa using h)
end Go.Proofs.Ytjjbjecjepalaaa
