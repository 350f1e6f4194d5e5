/- The reference's Push. -/
import Derived.Test.YthoapplkaidaaaaPure19
import Derived.BigRegion
namespace Go.Proofs.Ythoapplkaidaaaa
open Go.RowKit
attribute [local go_sem] Grow.cell Grow.froz Grow.lt

theorem cells_setCell {w : World} {b o : Nat} {cs : Array Value} {u : Value} {t : TypeId} (h : w.heap[b]? = some (.cells cs t (0, 0))) : (w.setCell ⟨b, o, none⟩ u).heap[b]? = some (.cells (cs.set! o u) t (0, 0)) := by
  have hlt := lt_of_block h
  have h' : w.heap[b] = .cells cs t (0, 0) := by simpa [Array.getElem?_eq_getElem hlt] using h
  show (w.heap.modify b _)[b]? = _
  rw [Array.getElem?_eq_getElem (by simpa using hlt), Array.getElem_modify_self, h']
  rfl
theorem pushC_yes {k r ax ay m o px py vx vy x y : Int} (h : clampI (vx + x * m / 65536) 16777216 = vx + x * m / 65536) : pushC ⟨k, r, ax, ay, m, o, px, py, vx, vy⟩ x y = (clampI (vy + y * m / 65536) 16777216 != vy + y * m / 65536) := by
  simp only [pushC, pushV]
  rw [show (clampI (vx + x * m / 65536) 16777216 == vx + x * m / 65536) = true from by simpa using h]; rfl
theorem pushC_no {k r ax ay m o px py vx vy x y : Int} (h : ¬ clampI (vx + x * m / 65536) 16777216 = vx + x * m / 65536) : pushC ⟨k, r, ax, ay, m, o, px, py, vx, vy⟩ x y = true := by
  simp only [pushC, pushV]
  rw [show (clampI (vx + x * m / 65536) 16777216 == vx + x * m / 65536) = false from by simpa using h]; rfl
theorem wp_named {P : Program} {c : Code} {Q : Exit → Act → World → Prop} {a : Act} {w : World} (h : ∀ W, W = w → Code.wp P c Q a W) : Code.wp P c Q a w := h w rfl

set_option maxHeartbeats 4000000 in
theorem refPush_any (k r ax ay m o px py vx vy x y : Int) (w : World) (m0 : 0 ≤ m) (m1 : m ≤ 1048576) (v0 : -16777216 ≤ vx) (v1 : vx ≤ 16777216) (u0 : -16777216 ≤ vy) (u1 : vy ≤ 16777216) (x0 : -2147483648 ≤ x) (x1 : x ≤ 2147483647) (y0 : -2147483648 ≤ y) (y1 : y ≤ 2147483647) :
    Calls Try.prog 18 #[.agg #[.int .u32 k, .int .i32 r, .int .i32 ax, .int .i32 ay, .int .i32 m, .int .i32 o, .int .i32 px, .int .i32 py, .int .i32 vx, .int .i32 vy], .agg #[.int .i32 x, .int .i32 y]] w fun e w' => e = .returned (.tuple #[.agg (pushB ⟨k, r, ax, ay, m, o, px, py, vx, vy⟩ x y).cells, .bool (pushC ⟨k, r, ax, ay, m, o, px, py, vx, vy⟩ x y)]) ∧ Below w.heap.size w w' := by
  have b1 := mul_bd x0 x1 m0 m1
  have b2 := mul_bd y0 y1 m0 m1
  have e1 := mul_in x0 x1 m0 m1
  have e2 := mul_in y0 y1 m0 m1
  obtain ⟨p, hp⟩ : ∃ p, p = x * m := ⟨_, rfl⟩
  obtain ⟨q, hq⟩ : ∃ q, q = y * m := ⟨_, rfl⟩
  go_enter Try.func18, Try.ntmps18
  clear hp hq p q
  go_wp2_with fail
  go_quiet ((go_at_call 29; exact floor_q _ _ _ _ (by omega) (by omega) (by omega) (by omega)))
  go_wp2_with fail
  go_quiet ((go_at_call 29; exact floor_q2 _ _ _ _ _ (by omega) (by omega) (by omega) (by omega)))
  have hX := clampI_le (n := vx + x * m / 65536) (l := 16777216) (by omega)
  have hY := clampI_le (n := vy + y * m / 65536) (l := 16777216) (by omega)
  obtain ⟨d0, d1⟩ := hX
  obtain ⟨d2, d3⟩ := hY
  go_wp2_with (go_at_call 27; refine (refLimit_any _ _ _ (by omega) (by omega)).mono ?_; rintro e w1 ⟨rfl, rfl⟩)
  refine wp_named fun W hW => ?_
  have hc0 : W.heap[w.heap.size]? = some (.cells #[.int .u32 k, .int .i32 r, .int .i32 ax, .int .i32 ay, .int .i32 m, .int .i32 o, .int .i32 px, .int .i32 py, .int .i32 (clampI (vx + x * m / 65536) 16777216), .int .i32 (clampI (vy + y * m / 65536) 16777216)] 37 (0, 0)) := by
    rw [hW]
    refine cells_setCell (cs := #[.int .u32 k, .int .i32 r, .int .i32 ax, .int .i32 ay, .int .i32 m, .int .i32 o, .int .i32 px, .int .i32 py, .int .i32 (clampI (vx + x * m / 65536) 16777216), .int .i32 vy]) ?_
    refine cells_setCell (cs := #[.int .u32 k, .int .i32 r, .int .i32 ax, .int .i32 ay, .int .i32 m, .int .i32 o, .int .i32 px, .int .i32 py, .int .i32 vx, .int .i32 vy]) ?_
    show (((w.alloc _).alloc _).alloc _).heap[w.heap.size]? = _
    rw [Below.heap_alloc _ _ _ (by simp; omega), Below.heap_alloc _ _ _ (by simp)]
    exact heap_alloc_new w _
  have hz0 : W.heap[w.heap.size + 2]? = some (.cells #[.int .u32 0, .int .i32 0, .int .i32 0, .int .i32 0, .int .i32 0, .int .i32 0, .int .i32 0, .int .i32 0, .int .i32 0, .int .i32 0] 37 (0, 0)) := by
    rw [hW, Below.heap_setCell _ _ _ _ (by simp), Below.heap_setCell _ _ _ _ (by simp)]
    show (((w.alloc _).alloc _).alloc _).heap[w.heap.size + 2]? = _
    have h := heap_alloc_two (w.alloc (.cells #[.int .u32 k, .int .i32 r, .int .i32 ax, .int .i32 ay, .int .i32 m, .int .i32 o, .int .i32 px, .int .i32 py, .int .i32 vx, .int .i32 vy] 37)) (.cells #[.int .i32 x, .int .i32 y] 25) (.cells #[.int .u32 0, .int .i32 0, .int .i32 0, .int .i32 0, .int .i32 0, .int .i32 0, .int .i32 0, .int .i32 0, .int .i32 0, .int .i32 0] 37)
    rwa [show (w.alloc (.cells #[.int .u32 k, .int .i32 r, .int .i32 ax, .int .i32 ay, .int .i32 m, .int .i32 o, .int .i32 px, .int .i32 py, .int .i32 vx, .int .i32 vy] 37)).heap.size + 1 = w.heap.size + 2 from by simp] at h
  obtain ⟨c0, c1, c2, c3, c4, c5, c6, c7, c8, c9⟩ := box_of (x := ⟨k, r, ax, ay, m, o, px, py, clampI (vx + x * m / 65536) 16777216, clampI (vy + y * m / 65536) 16777216⟩) hc0
  obtain ⟨z0, z1, z2, z3, z4, z5, z6, z7, z8, z9⟩ := box_of (x := ⟨0, 0, 0, 0, 0, 0, 0, 0, 0, 0⟩) hz0
  have f : ∀ i, W.frozen? ⟨w.heap.size + 2, i, none⟩ = false := fun i => by simp [World.frozen?, hz0]
  clear hc0 hz0
  have hb : Below w.heap.size w W := by rw [hW]; exact Below.setCell (Below.setCell (bel_drewN (bel_alloc (bel_alloc (bel_alloc (Below.refl _ _) _) _) _) _) (Nat.le_refl _) _) (Nat.le_refl _) _
  have HB := Lib.hid hb
  clear hW hb
  by_cases hc : clampI (vx + x * m / 65536) 16777216 = vx + x * m / 65536
  · have HC := Lib.hid hc
    have hc' : (clampI (vx + x * m / 65536) 16777216 != vx + x * m / 65536) = false := by simp [hc]
    clear hc
    go_region
    all_goals
      go_wp2
      have e : pushC ⟨k, r, ax, ay, m, o, px, py, vx, vy⟩ x y = (clampI (vy + y * m / 65536) 16777216 != vy + y * m / 65536) := pushC_yes HC.out
      refine bodyPost_ret (v := .tuple #[.agg (pushB ⟨k, r, ax, ay, m, o, px, py, vx, vy⟩ x y).cells, .bool (pushC ⟨k, r, ax, ay, m, o, px, py, vx, vy⟩ x y)]) (by rw [e]; simp [results, Try.results18, go_sem, pushB, pushV, Body.cells, *]) rfl ⟨rfl, ?_⟩
      repeat (first | with_reducible exact HB.out | with_reducible exact bel_drew HB.out | with_reducible refine Below.setCell ?_ (by simp only; omega) _ | with_reducible refine bel_drewN ?_ _ | with_reducible refine bel_drew ?_)
  · have HC := Lib.hid hc
    have hc' : (clampI (vx + x * m / 65536) 16777216 != vx + x * m / 65536) = true := by simpa using hc
    clear hc
    go_region
    all_goals
      go_wp2
      have e : pushC ⟨k, r, ax, ay, m, o, px, py, vx, vy⟩ x y = true := pushC_no HC.out
      refine bodyPost_ret (v := .tuple #[.agg (pushB ⟨k, r, ax, ay, m, o, px, py, vx, vy⟩ x y).cells, .bool (pushC ⟨k, r, ax, ay, m, o, px, py, vx, vy⟩ x y)]) (by rw [e]; simp [results, Try.results18, go_sem, pushB, pushV, Body.cells, *]) rfl ⟨rfl, ?_⟩
      repeat (first | with_reducible exact HB.out | with_reducible exact bel_drew HB.out | with_reducible refine Below.setCell ?_ (by simp only; omega) _ | with_reducible refine bel_drewN ?_ _ | with_reducible refine bel_drew ?_)
end Go.Proofs.Ythoapplkaidaaaa
