/- The walk of IntegrateFalls. -/
import Derived.Test.YthoapplkaidaaaaPure19
namespace Go.Proofs.Ythoapplkaidaaaa
open Go.RowKit
attribute [local go_sem] Grow.cell Grow.froz Grow.lt

def fallB (b : Body) (k : Nat) : Body := { b with vy := max (b.vy - 1024 * k) (-16777216) }
theorem fall_step {b : Body} {k : Nat} (h : b.inv ≠ 0) (h1 : b.vy ≤ 16777216) : gravB (fallB b k) = fallB b (k + 1) := by
  unfold gravB
  rw [if_neg (by simpa [fallB] using h)]
  simp only [fallB, clampI]
  congr 1
  omega
theorem fall_zero {b : Body} (h : -16777216 ≤ b.vy) : fallB b 0 = b := by
  unfold fallB
  rw [show max (b.vy - 1024 * ((0 : Nat) : Int)) (-16777216) = b.vy from by omega]
theorem fall_small {b : Body} {k : Nat} (h : Small b) : Small (fallB b k) := by
  unfold Small fallB at *
  simp only
  omega

set_option maxHeartbeats 8000000 in
theorem falls_walk (k r ax ay m o px py vx vy : Int) (n : Nat) (hn : n ≤ 255) (w : World) (hE : errOf ⟨k, r, ax, ay, m, o, px, py, vx, vy⟩ = 0) (hm : ¬ m = 0) (hS : Small ⟨k, r, ax, ay, m, o, px, py, vx, vy⟩) :
    Calls Try.prog 7 #[.agg #[.int .u32 k, .int .i32 r, .int .i32 ax, .int .i32 ay, .int .i32 m, .int .i32 o, .int .i32 px, .int .i32 py, .int .i32 vx, .int .i32 vy], .int .u8 (n : Int)] w fun e w' => e = .returned (.bool true) ∧ Below w.heap.size w w' := by
  have HS := Lib.hid hS
  have hm2 : (m == 0) = false := by simpa using hm
  clear hS
  go_enter Try.func7, Try.ntmps7
  go_wp2_with fail
  refine (awake19_any _).mono ?_
  rintro e w1 ⟨rfl, hb⟩
  obtain ⟨g1, rfl⟩ := Grow.of hb
  have l1 : w.heap.size < g1.world.heap.size := Nat.lt_of_lt_of_le (by simp) g1.le
  clear hb
  go_wp2_with fail
  refine (refCheck_fl _ _ _ _ _ _ _ _ _ _ _).mono ?_
  rintro e w1 ⟨rfl, hb⟩
  obtain ⟨g2, rfl⟩ := Grow.of hb
  have l2 : w.heap.size < g2.world.heap.size := Nat.lt_of_lt_of_le l1 g2.le
  have C2 := Lib.hid ((Below.refl (w.heap.size + 1) (w.alloc (.cells #[.int .u32 k, .int .i32 r, .int .i32 ax, .int .i32 ay, .int .i32 m, .int .i32 o, .int .i32 px, .int .i32 py, .int .i32 vx, .int .i32 vy] 37))).trans ((g1.below.mono (by simp)).trans (g2.below.mono (by omega))))
  clear hb
  go_wp2
  go_loopw [5, 6] (fun v i wr => ∃ j : Nat, j ≤ n ∧ i = .int .i64 j ∧ Reads bodyE wr v [fallB ⟨k, r, ax, ay, m, o, px, py, vx, vy⟩ j] ∧ Below (w.heap.size + 1) (w.alloc (.cells #[.int .u32 k, .int .i32 r, .int .i32 ax, .int .i32 ay, .int .i32 m, .int .i32 o, .int .i32 px, .int .i32 py, .int .i32 vx, .int .i32 vy] 37)) wr) (fun _ i _ => n - (intOf i).toNat)
  case atStart =>
    refine ⟨0, by omega, rfl, ?_, ?_⟩
    · rw [fall_zero (by have := HS.out; unfold Small at this; simp only at this ⊢; omega)]
      exact Reads.one (heap_alloc_new _ _) rfl
    · exact Below.alloc C2.out (by omega) _
  case round =>
    obtain ⟨j, hj, rfl, hr, hbel⟩ := hrel
    have hz := hbel.size
    simp at hz
    have hbox : wr.heap[w.heap.size]? = some (.cells #[.int .u32 k, .int .i32 r, .int .i32 ax, .int .i32 ay, .int .i32 m, .int .i32 o, .int .i32 px, .int .i32 py, .int .i32 vx, .int .i32 vy] 37 (0, 0)) := by
      rw [hbel.block w.heap.size (by omega)]
      exact heap_alloc_new w _
    have HB := Lib.hid (box_of (x := ⟨k, r, ax, ay, m, o, px, py, vx, vy⟩) hbox)
    clear hbox
    have R := Lib.hid hr
    obtain ⟨b1, o1, c1, rfl, hz1, ht1⟩ := hr.single
    have HT := Lib.hid ht1
    have HBL := Lib.hid hbel
    clear hr ht1 hbel
    by_cases hlt : j < n
    · go_wp2_with fail
      refine (gravity_any _ [fallB ⟨k, r, ax, ay, m, o, px, py, vx, vy⟩ j] _ (by exact R.out) (by simp) (by intro x hx; simp at hx; subst hx; exact fall_small HS.out)).mono ?_
      rintro e w2 ⟨v2, rfl, hr, hb⟩
      rw [show List.map gravB [fallB ⟨k, r, ax, ay, m, o, px, py, vx, vy⟩ j] = [fallB ⟨k, r, ax, ay, m, o, px, py, vx, vy⟩ (j + 1)] from by rw [List.map_cons, List.map_nil, fall_step hm (by have := HS.out; unfold Small at this; simp only at this ⊢; omega)]] at hr
      have R2 := Lib.hid hr
      have B2 := Lib.hid (HBL.out.trans (hb.mono (by omega)))
      clear hr hb
      go_wp2
      go_roundw
      case rel => exact ⟨j + 1, by omega, by go_num, R2.out, B2.out⟩
      case measure => simp [intOf]; omega
    · have hjn : j = n := by omega
      subst hjn
      obtain ⟨a0, a1, a2, a3, a4, a5, a6, a7, a8, a9⟩ := HT.out
      obtain ⟨q0, q1, q2, q3, q4, q5, q6, q7, q8, q9⟩ := HB.out
      have hvy := HS.out.2.2.2.2
      simp only [fallB] at a0 a1 a2 a3 a4 a5 a6 a7 a8 a9
      go_wp2_with fail
      go_quiet (fail)
      go_wp2_with fail
      all_goals
        go_ret
        exact ⟨ret_bool (by rw [beq_iff_eq]; omega), bel_drewN (bel_box HBL.out) _⟩

set_option maxHeartbeats 8000000 in
theorem falls_not (k r ax ay m o px py vx vy : Int) (n : Int) (w : World) (hE : (errOf ⟨k, r, ax, ay, m, o, px, py, vx, vy⟩ == 0) = false) :
    Calls Try.prog 7 #[.agg #[.int .u32 k, .int .i32 r, .int .i32 ax, .int .i32 ay, .int .i32 m, .int .i32 o, .int .i32 px, .int .i32 py, .int .i32 vx, .int .i32 vy], .int .u8 n] w fun e w' => e = .returned (.bool true) ∧ Below w.heap.size w w' := by
  have hE' : ¬ errOf ⟨k, r, ax, ay, m, o, px, py, vx, vy⟩ = 0 := by simpa using hE
  have hE2 : (errOf ⟨k, r, ax, ay, m, o, px, py, vx, vy⟩ != 0) = true := by simpa using hE
  go_enter Try.func7, Try.ntmps7
  go_wp2_with fail
  refine (awake19_any _).mono ?_
  rintro e w1 ⟨rfl, hb⟩
  obtain ⟨g1, rfl⟩ := Grow.of hb
  have l1 : w.heap.size < g1.world.heap.size := Nat.lt_of_lt_of_le (by simp) g1.le
  clear hb
  go_wp2_with fail
  refine (refCheck_fl _ _ _ _ _ _ _ _ _ _ _).mono ?_
  rintro e w1 ⟨rfl, hb⟩
  obtain ⟨g2, rfl⟩ := Grow.of hb
  clear hb
  go_wp2_with fail
  refine (awake19_any _).mono ?_
  rintro e w1 ⟨rfl, hb⟩
  obtain ⟨g3, rfl⟩ := Grow.of hb
  clear hb
  go_wp2_with fail
  go_ret
  exact ⟨rfl, bel_grow (bel_grow (bel_grow (new_ok _) g1) g2) g3⟩
set_option maxHeartbeats 8000000 in
theorem falls_static (k r ax ay m o px py vx vy : Int) (n : Int) (w : World) (hE : errOf ⟨k, r, ax, ay, m, o, px, py, vx, vy⟩ = 0) (hm : m = 0) :
    Calls Try.prog 7 #[.agg #[.int .u32 k, .int .i32 r, .int .i32 ax, .int .i32 ay, .int .i32 m, .int .i32 o, .int .i32 px, .int .i32 py, .int .i32 vx, .int .i32 vy], .int .u8 n] w fun e w' => e = .returned (.bool true) ∧ Below w.heap.size w w' := by
  subst hm
  go_enter Try.func7, Try.ntmps7
  go_wp2_with fail
  refine (awake19_any _).mono ?_
  rintro e w1 ⟨rfl, hb⟩
  obtain ⟨g1, rfl⟩ := Grow.of hb
  have l1 : w.heap.size < g1.world.heap.size := Nat.lt_of_lt_of_le (by simp) g1.le
  clear hb
  go_wp2_with fail
  refine (refCheck_fl _ _ _ _ _ _ _ _ _ _ _).mono ?_
  rintro e w1 ⟨rfl, hb⟩
  obtain ⟨g2, rfl⟩ := Grow.of hb
  have l2 : w.heap.size < g2.world.heap.size := Nat.lt_of_lt_of_le l1 g2.le
  clear hb
  go_wp2_with fail
  refine (awake19_any _).mono ?_
  rintro e w1 ⟨rfl, hb⟩
  obtain ⟨g3, rfl⟩ := Grow.of hb
  clear hb
  go_wp2_with fail
  go_ret
  exact ⟨rfl, bel_grow (bel_grow (bel_grow (new_ok _) g1) g2) g3⟩

theorem falls_all (b : Body) (_ : b.Fit) (n : Int) (h : (Lit.int IntKind.u8 n).wf = true) (w : World) :
    Calls Try.prog 7 #[.agg b.cells, .int .u8 n] w fun e w' => e = .returned (.bool true) ∧ Below w.heap.size w w' := by
  have h1 : 0 ≤ n ∧ n ≤ 255 := by
    have hmin : IntKind.u8.min = 0 := rfl
    have hmax : IntKind.u8.max = 255 := rfl
    simpa only [Lit.wf, Bool.and_eq_true, decide_eq_true_eq, hmin, hmax] using h
  obtain ⟨m, rfl⟩ := Int.eq_ofNat_of_zero_le h1.1
  by_cases hE : errOf b = 0
  · by_cases hm : b.inv = 0
    · exact falls_static b.key b.radius b.ax b.ay b.inv b.bounce b.px b.py b.vx b.vy m w hE hm
    · exact falls_walk b.key b.radius b.ax b.ay b.inv b.bounce b.px b.py b.vx b.vy m (by omega) w hE hm (small_of hE)
  · exact falls_not b.key b.radius b.ax b.ay b.inv b.bounce b.px b.py b.vx b.vy m w (by simpa using hE)
end Go.Proofs.Ythoapplkaidaaaa
