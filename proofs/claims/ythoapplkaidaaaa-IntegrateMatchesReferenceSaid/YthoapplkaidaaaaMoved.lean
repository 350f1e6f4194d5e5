/- The contract of the law's helper moved. -/
import Derived.Test.YthoapplkaidaaaaFit
namespace Go.Proofs.Ythoapplkaidaaaa
open Go.RowKit
attribute [local go_sem] Grow.cell Grow.froz Grow.lt

def okMv (dx dy : Int) (b : Body) : Bool := decide (-1073741824 ≤ b.px + dx) && (decide (b.px + dx ≤ 1073741824) && (decide (-1073741824 ≤ b.py + dy) && decide (b.py + dy ≤ 1073741824)))
def mvB (dx dy : Int) (b : Body) : Body := { b with px := b.px + dx, py := b.py + dy }
def movedL (l : List Body) (dx dy : Int) : List Body × Bool := if l.all (okMv dx dy) = true then (l.map (mvB dx dy), true) else (l, false)
theorem moved_no {l : List Body} {dx dy : Int} {k : Nat} (hk : k < l.length) (h : okMv dx dy l[k] = false) : movedL l dx dy = (l, false) := by
  unfold movedL
  rw [if_neg]
  intro ha
  have := List.all_eq_true.1 ha l[k] (List.getElem_mem hk)
  rw [h] at this
  exact absurd this (by simp)
theorem moved_yes {l : List Body} {dx dy : Int} (h : ∀ j (hj : j < l.length), okMv dx dy l[j] = true) : movedL l dx dy = (l.map (mvB dx dy), true) := by
  unfold movedL
  rw [if_pos]
  rw [List.all_eq_true]
  intro x hx
  obtain ⟨i, hi, rfl⟩ := List.getElem_of_mem hx
  exact h i hi

set_option maxHeartbeats 4000000 in
set_option maxRecDepth 100000 in
theorem moved_any (v : Value) (l : List Body) (dx dy : Int) (w : World) (hl : Reads bodyE w v l) (hn : l.length ≤ 1000000) (hV : ∀ b ∈ l, Small b) (x0 : -2147483648 ≤ dx) (x1 : dx ≤ 2147483647) (y0 : -2147483648 ≤ dy) (y1 : dy ≤ 2147483647) :
    Calls Try.prog 20 #[v, .agg #[.int .i32 dx, .int .i32 dy]] w fun e w' => ∃ v', e = .returned (.tuple #[v', .bool (movedL l dx dy).2]) ∧ Reads bodyE w' v' (movedL l dx dy).1 ∧ Below w.heap.size w w' := by
  have HL0 := Lib.hid hl
  obtain ⟨A, c, b1, o1, rfl, hA, hy⟩ := hl.bodies
  have hA := Lib.hid hA
  have hy := Lib.hid hy
  have HV := Lib.hid hV
  clear hl hV
  go_enter Try.func20, Try.ntmps20
  go_wp2
  go_loopw [6, 7] (fun v i wr => ∃ k : Nat, k ≤ l.length ∧ i = .int .i64 k ∧ (∀ j (_ : j < k) (hj : j < l.length), okMv dx dy l[j] = true) ∧ Own bodyE 37 wr (w.heap.size + 1) v ((l.take k).map (mvB dx dy)) ∧ Below (w.heap.size + 1) (w.alloc (.cells #[.int .i32 dx, .int .i32 dy] 25)) wr) (fun _ i _ => l.length - (intOf i).toNat)
  case atStart => exact ⟨0, by omega, rfl, fun j h => absurd h (by omega), by simpa using Own.nil _ _ _ _, Below.refl _ _⟩
  case round =>
    obtain ⟨k, hk, rfl, hP, hown, hbel⟩ := hrel
    have HP := Lib.hid hP
    clear hP
    have hz := hbel.size
    simp at hz
    have hbox : wr.heap[w.heap.size]? = some (.cells #[.int .i32 dx, .int .i32 dy] 25 (0, 0)) := by
      rw [hbel.block w.heap.size (by omega)]
      exact heap_alloc_new w _
    have d0 : wr.cell? ⟨w.heap.size, 0, none⟩ = some (.int .i32 dx) := by simp [World.cell?, hbox]
    have d1 : wr.cell? ⟨w.heap.size, 1, none⟩ = some (.int .i32 dy) := by simp [World.cell?, hbox]
    clear hbox
    have hlen : ((l.take k).map (mvB dx dy)).length ≤ k := by simp; omega
    by_cases hlt : k < l.length
    · obtain ⟨eA, zA⟩ := hA.out (by omega)
      have ix := fun w => idx_body (c := c) eA hlt w
      clear eA
      obtain ⟨q0, q1, q2, q3, q4, q5, q6, q7, q8, q9⟩ := (hy.out k hlt).below_box hbel
      obtain ⟨s0, s1, s2, s3, s4, s5, s6, s7, s8, s9⟩ := HV.out l[k] (List.getElem_mem hlt)
      have zA' : b1 < wr.heap.size := by omega
      have zB' : w.heap.size < wr.heap.size := by omega
      go_wp2_with fail
      refine wp_region_grow (by kernel_rfl) (by kernel_rfl) ?_
      repeat (first | go_big_quiet_skip | (go_big_quiet_want; go_big_quiet_op; first | go_big_quiet_on))
      refine wpQuiet_nil ?_
      rintro _ ⟨g1, rfl⟩
      have zA1 : b1 < g1.world.heap.size := Nat.lt_of_lt_of_le zA' g1.le
      have zB1 : w.heap.size < g1.world.heap.size := Nat.lt_of_lt_of_le zB' g1.le
      go_wp2_with fail
      refine wp_region_grow (by kernel_rfl) (by kernel_rfl) ?_
      repeat (first | go_big_quiet_skip | (go_big_quiet_want; go_big_quiet_op; first | go_big_quiet_on))
      refine wpQuiet_nil ?_
      rintro _ ⟨g2, rfl⟩
      have zA2 : b1 < g2.world.heap.size := Nat.lt_of_lt_of_le zA1 g2.le
      have zB2 : w.heap.size < g2.world.heap.size := Nat.lt_of_lt_of_le zB1 g2.le
      have hz2 : w.heap.size + 1 ≤ g2.world.heap.size := by omega
      have own2 : Own bodyE 37 g2.world (w.heap.size + 1) u6 ((l.take k).map (mvB dx dy)) := (hown.below g1.below).below g2.below
      have bel2 : Below (w.heap.size + 1) (w.alloc (.cells #[.int .i32 dx, .int .i32 dy] 25)) g2.world := (hbel.trans (g1.below.mono (by omega))).trans (g2.below.mono (by omega))
      have HB2 := Lib.hid bel2
      clear bel2
      go_wp2_with (at_builtin; refine own_append bodyE (w.heap.size + 1) rfl (.tmp 64) (.tmp 66) 22 37 _ 40 rfl Try.underlying22 bodyInfo rfl (by decide) _ ((l.take k).map (mvB dx dy)) (mvB dx dy l[k]) _ (by rfl) rfl (by first | rfl | simp [go_sem]) (own2.alloc _) (Below.alloc HB2.out hz2 _) (by simp; omega) (by omega) ?_; intro v1 w2 own1 bel1 gr1 sz1)
      all_goals first
        | (go_roundw
           case rel => exact ⟨k + 1, by omega, by go_num, fun j hj hj2 => if e : j = k then by subst e; simp [okMv]; omega else HP.out j (by omega) hj2, by rw [map_take (mvB dx dy) hlt]; exact own1, bel1⟩
           case measure => simp [intOf]; omega)
        | (go_ret2
           have hno : movedL l dx dy = (l, false) := moved_no hlt (by simp [okMv]; omega)
           exact ⟨.slice A l.length c, ret_flag (by rw [hno]), by rw [hno]; exact HL0.out.below (bel_box HB2.out), bel_box HB2.out⟩)
    · have hkl : k = l.length := by omega
      have HN := Lib.hid hkl
      clear hkl
      have hyes := Lib.hid (moved_yes (l := l) (dx := dx) (dy := dy) (fun j hj => HP.out j (by omega) hj))
      go_wp2
      go_ret2
      exact ⟨u6, ret_flag (by rw [hyes.out]), by rw [hyes.out]; have := hown.reads (by omega); rw [HN.out, List.take_length] at this; exact this, bel_box hbel⟩
end Go.Proofs.Ythoapplkaidaaaa
