/- The walk of IntegrateMatchesReference. -/
import Derived.Test.YthoapplkaidaaaaRefPush
import Derived.Deep.DeepCutAuto
namespace Go.Proofs.Ythoapplkaidaaaa
open Go.RowKit
attribute [local go_sem] Grow.cell Grow.froz Grow.lt
attribute [local go_sem high] body_eq

theorem bel_box2 {w W : World} {o : Obj} (h : Below (w.heap.size + 1) (w.alloc o) W) (g : Grow W) : Below (w.heap.size + 1) (w.alloc o) g.world := h.trans (g.below.mono (by have := h.size; simp at this; omega))
theorem lt_drew_alloc (w : World) (o : Obj) : w.heap.size < (w.drew.alloc o).heap.size := by
  show w.heap.size < (w.heap.push o).size
  simp
theorem ten_set {w : World} {b : Nat} {t : TypeId} (h : w.heap[b]? = some (.cells #[.int .u32 0, .int .i32 0, .int .i32 0, .int .i32 0, .int .i32 0, .int .i32 0, .int .i32 0, .int .i32 0, .int .i32 0, .int .i32 0] t (0, 0))) (y0 y1 y2 y3 y4 y5 y6 y7 y8 y9 : Int) : ((((((((((w.setCell ⟨b, 0, none⟩ (.int .u32 y0)).setCell ⟨b, 1, none⟩ (.int .i32 y1)).setCell ⟨b, 2, none⟩ (.int .i32 y2)).setCell ⟨b, 3, none⟩ (.int .i32 y3)).setCell ⟨b, 4, none⟩ (.int .i32 y4)).setCell ⟨b, 5, none⟩ (.int .i32 y5)).setCell ⟨b, 6, none⟩ (.int .i32 y6)).setCell ⟨b, 7, none⟩ (.int .i32 y7)).setCell ⟨b, 8, none⟩ (.int .i32 y8)).setCell ⟨b, 9, none⟩ (.int .i32 y9)).heap[b]? = some (.cells #[.int .u32 y0, .int .i32 y1, .int .i32 y2, .int .i32 y3, .int .i32 y4, .int .i32 y5, .int .i32 y6, .int .i32 y7, .int .i32 y8, .int .i32 y9] t (0, 0)) := by
  refine cells_setCell (cs := #[.int .u32 y0, .int .i32 y1, .int .i32 y2, .int .i32 y3, .int .i32 y4, .int .i32 y5, .int .i32 y6, .int .i32 y7, .int .i32 y8, .int .i32 0]) ?_
  refine cells_setCell (cs := #[.int .u32 y0, .int .i32 y1, .int .i32 y2, .int .i32 y3, .int .i32 y4, .int .i32 y5, .int .i32 y6, .int .i32 y7, .int .i32 0, .int .i32 0]) ?_
  refine cells_setCell (cs := #[.int .u32 y0, .int .i32 y1, .int .i32 y2, .int .i32 y3, .int .i32 y4, .int .i32 y5, .int .i32 y6, .int .i32 0, .int .i32 0, .int .i32 0]) ?_
  refine cells_setCell (cs := #[.int .u32 y0, .int .i32 y1, .int .i32 y2, .int .i32 y3, .int .i32 y4, .int .i32 y5, .int .i32 0, .int .i32 0, .int .i32 0, .int .i32 0]) ?_
  refine cells_setCell (cs := #[.int .u32 y0, .int .i32 y1, .int .i32 y2, .int .i32 y3, .int .i32 y4, .int .i32 0, .int .i32 0, .int .i32 0, .int .i32 0, .int .i32 0]) ?_
  refine cells_setCell (cs := #[.int .u32 y0, .int .i32 y1, .int .i32 y2, .int .i32 y3, .int .i32 0, .int .i32 0, .int .i32 0, .int .i32 0, .int .i32 0, .int .i32 0]) ?_
  refine cells_setCell (cs := #[.int .u32 y0, .int .i32 y1, .int .i32 y2, .int .i32 0, .int .i32 0, .int .i32 0, .int .i32 0, .int .i32 0, .int .i32 0, .int .i32 0]) ?_
  refine cells_setCell (cs := #[.int .u32 y0, .int .i32 y1, .int .i32 0, .int .i32 0, .int .i32 0, .int .i32 0, .int .i32 0, .int .i32 0, .int .i32 0, .int .i32 0]) ?_
  refine cells_setCell (cs := #[.int .u32 y0, .int .i32 0, .int .i32 0, .int .i32 0, .int .i32 0, .int .i32 0, .int .i32 0, .int .i32 0, .int .i32 0, .int .i32 0]) ?_
  refine cells_setCell (cs := #[.int .u32 0, .int .i32 0, .int .i32 0, .int .i32 0, .int .i32 0, .int .i32 0, .int .i32 0, .int .i32 0, .int .i32 0, .int .i32 0]) ?_
  exact h
theorem ten_below {n : Nat} {a w : World} {b : Nat} (h : Below n a w) (hb : n ≤ b) (y0 y1 y2 y3 y4 y5 y6 y7 y8 y9 : Int) : Below n a ((((((((((w.setCell ⟨b, 0, none⟩ (.int .u32 y0)).setCell ⟨b, 1, none⟩ (.int .i32 y1)).setCell ⟨b, 2, none⟩ (.int .i32 y2)).setCell ⟨b, 3, none⟩ (.int .i32 y3)).setCell ⟨b, 4, none⟩ (.int .i32 y4)).setCell ⟨b, 5, none⟩ (.int .i32 y5)).setCell ⟨b, 6, none⟩ (.int .i32 y6)).setCell ⟨b, 7, none⟩ (.int .i32 y7)).setCell ⟨b, 8, none⟩ (.int .i32 y8)).setCell ⟨b, 9, none⟩ (.int .i32 y9)) :=
  ((((((((((h.setCell hb _).setCell hb _).setCell hb _).setCell hb _).setCell hb _).setCell hb _).setCell hb _).setCell hb _).setCell hb _).setCell hb _)
theorem eqB_same (b : Body) : eqB b b = true := by simp [eqB, eqV]
attribute [local go_sem] eqB_same
set_option maxHeartbeats 8000000 in
set_option maxRecDepth 100000 in
theorem matches_walk (v u : Value) (l : List Body) (s : List (Int × Int)) (jx jy : Int) (w : World) (hl : Reads bodyE w v l) (hu : Reads shiftE w u s) (x0 : -2147483648 ≤ jx) (x1 : jx ≤ 2147483647) (y0 : -2147483648 ≤ jy) (y1 : jy ≤ 2147483647) :
    Calls Try.prog 3 #[v, u, .agg #[.int .i32 jx, .int .i32 jy]] w fun e w' => e = .returned (.bool true) ∧ Below w.heap.size w w' := by
  obtain ⟨lv, ok, hv⟩ : ∃ lv ok, viewL l = (lv, ok) := ⟨_, _, rfl⟩
  have HV := Lib.hid hv
  have HL := Lib.hid hl
  have HU := Lib.hid hu
  clear hl hu hv
  go_enter Try.func3, Try.ntmps3
  go_wp2_with fail
  refine (view_any _ l _ (by exact HL.out.alloc _)).mono ?_
  rintro e w1 ⟨v1, he, hr, hb⟩
  rw [HV.out] at he hr
  subst he
  obtain ⟨A1, c1, b1, o1, rfl, _, _⟩ := hr.bodies
  obtain ⟨g1, rfl⟩ := Grow.of hb
  have R1 := Lib.hid hr
  have U1 := Lib.hid ((HU.out.alloc (.cells #[.int .i32 jx, .int .i32 jy] 25)).grow g1)
  have C1 := Lib.hid (g1.below.mono (show w.heap.size + 1 ≤ (w.alloc (.cells #[.int .i32 jx, .int .i32 jy] 25)).heap.size from by simp))
  clear hr hb
  go_wp2_with fail
  refine (awake19_any _).mono ?_
  rintro e w1 ⟨rfl, hb⟩
  obtain ⟨g2, rfl⟩ := Grow.of hb
  have R2 := Lib.hid (R1.out.grow g2)
  have U2 := Lib.hid (U1.out.grow g2)
  have C2 := Lib.hid (bel_box2 C1.out g2)
  clear hb R1 U1 C1
  cases ok
  · go_wp2_with fail
    refine (awake19_any _).mono ?_
    rintro e w1 ⟨rfl, hb⟩
    obtain ⟨g3, rfl⟩ := Grow.of hb
    clear hb
    go_wp2
    go_ret
    exact ⟨rfl, bel_box (bel_box2 C2.out g3)⟩
  · have hview : (viewL l).2 = true := by rw [HV.out]
    have hfa := view_facts hview
    rw [HV.out] at hfa
    have FA := Lib.hid hfa.1
    have LN := Lib.hid hfa.2
    have SM := Lib.hid (fun b (hb : b ∈ lv) => small_of (hfa.1 b hb).1)
    clear hview hfa
    have FO := Lib.hid (fitL_ok s lv.length)
    have FL := Lib.hid (fitL_len s lv.length)
    obtain ⟨t, ht⟩ : ∃ t, t = fitL s lv.length := ⟨_, rfl⟩
    have HT := Lib.hid ht
    rw [← ht] at FO FL
    clear ht
    go_wp2_with fail
    refine (fit_any _ s lv.length _ (by exact U2.out) (by have := LN.out; omega)).mono ?_
    rintro e w1 ⟨v2, he, hr, hb⟩
    rw [← HT.out] at hr
    subst he
    obtain ⟨g3, rfl⟩ := Grow.of hb
    have R3 := Lib.hid (R2.out.grow g3)
    have T3 := Lib.hid hr
    have C3 := Lib.hid (bel_box2 C2.out g3)
    clear hb hr R2 U2 C2
    go_wp2_with fail
    refine (gravity_any _ lv _ (by exact R3.out) (by have := LN.out; omega) SM.out).mono ?_
    rintro e w1 ⟨v3, he, hr, hb⟩
    obtain ⟨ga, hga⟩ : ∃ ga, lv.any gravC = ga := ⟨_, rfl⟩
    rw [hga] at he
    subst he
    have GA := Lib.hid hga
    obtain ⟨g4, rfl⟩ := Grow.of hb
    have R4 := Lib.hid (R3.out.grow g4)
    have T4 := Lib.hid (T3.out.grow g4)
    have M4 := Lib.hid hr
    have C4 := Lib.hid (bel_box2 C3.out g4)
    clear hga hb hr R3 T3 C3
    go_wp2_with fail
    refine (refGravity_any _ lv _ (by exact R4.out) (by have := LN.out; omega) SM.out).mono ?_
    rintro e w1 ⟨v3', he, hr, hb⟩
    rw [GA.out] at he
    subst he
    obtain ⟨g5, rfl⟩ := Grow.of hb
    have R5 := Lib.hid (R4.out.grow g5)
    have T5 := Lib.hid (T4.out.grow g5)
    have M5 := Lib.hid (M4.out.grow g5)
    have N5 := Lib.hid hr
    have C5 := Lib.hid (bel_box2 C4.out g5)
    clear hb hr R4 T4 M4 C4
    go_wp2_with fail
    refine (forward_any _ t _ (by exact T5.out) (by have := LN.out; have := FL.out; omega)).mono ?_
    rintro e w1 ⟨v4, rfl, hr, hb⟩
    obtain ⟨g6, rfl⟩ := Grow.of hb
    have R6 := Lib.hid (R5.out.grow g6)
    have T6 := Lib.hid (T5.out.grow g6)
    have M6 := Lib.hid (M5.out.grow g6)
    have N6 := Lib.hid (N5.out.grow g6)
    have F6 := Lib.hid hr
    have C6 := Lib.hid (bel_box2 C5.out g6)
    clear hb hr R5 T5 M5 N5 C5
    go_wp2_with fail
    refine (move_any _ _ lv t _ (by exact R6.out) (by have := LN.out; omega) SM.out (by exact F6.out) FL.out FO.out).mono ?_
    rintro e w1 ⟨v5, he, hr, hb⟩
    obtain ⟨mc, hmc⟩ : ∃ mc, movC lv t = mc := ⟨_, rfl⟩
    rw [hmc] at he
    subst he
    have MC := Lib.hid hmc
    obtain ⟨g7, rfl⟩ := Grow.of hb
    have R7 := Lib.hid (R6.out.grow g7)
    have T7 := Lib.hid (T6.out.grow g7)
    have M7 := Lib.hid (M6.out.grow g7)
    have N7 := Lib.hid (N6.out.grow g7)
    have P7 := Lib.hid hr
    have C7 := Lib.hid (bel_box2 C6.out g7)
    clear hb hr hmc R6 T6 M6 N6 F6 C6
    go_wp2_with fail
    refine (refMove_any _ _ lv t _ (by exact R7.out) (by have := LN.out; omega) SM.out (by exact T7.out) FL.out FO.out).mono ?_
    rintro e w1 ⟨v6, he, hr, hb⟩
    rw [MC.out] at he
    subst he
    obtain ⟨g8, rfl⟩ := Grow.of hb
    have R8 := Lib.hid (R7.out.grow g8)
    have M8 := Lib.hid (M7.out.grow g8)
    have N8 := Lib.hid (N7.out.grow g8)
    have P8 := Lib.hid (P7.out.grow g8)
    have Q8 := Lib.hid hr
    have C8 := Lib.hid (bel_box2 C7.out g8)
    clear hb hr R7 T7 M7 N7 P7 C7
    go_wp2_with fail
    refine (same_any _ _ _ _ _ (by exact M8.out) (by exact N8.out)).mono ?_
    rintro e w1 ⟨he, hb⟩
    rw [decide_eq_true rfl] at he
    subst he
    obtain ⟨g9, rfl⟩ := Grow.of hb
    have R9 := Lib.hid (R8.out.grow g9)
    have P9 := Lib.hid (P8.out.grow g9)
    have Q9 := Lib.hid (Q8.out.grow g9)
    have C9 := Lib.hid (bel_box2 C8.out g9)
    clear hb R8 M8 N8 P8 Q8 C8
    go_wp2_with fail
    refine (same_any _ _ _ _ _ (by exact P9.out) (by exact Q9.out)).mono ?_
    rintro e w1 ⟨he, hb⟩
    rw [decide_eq_true rfl] at he
    subst he
    obtain ⟨g10, rfl⟩ := Grow.of hb
    obtain ⟨A1', c1', b1', o1', hv1, hS1, hT1⟩ := (R9.out.grow g10).bodies
    simp only [Value.slice.injEq, true_and] at hv1
    obtain ⟨rfl, rfl⟩ := hv1
    have HS1 := Lib.hid hS1
    have HT1 := Lib.hid hT1
    have C10 := Lib.hid (bel_box2 C9.out g10)
    have hbox : g10.world.heap[w.heap.size]? = some (.cells #[.int .i32 jx, .int .i32 jy] 25 (0, 0)) := by
      rw [C10.out.block w.heap.size (by omega)]
      exact heap_alloc_new w _
    have HBX := Lib.hid hbox
    have zb : w.heap.size < g10.world.heap.size := lt_of_block hbox
    clear hb R9 P9 Q9 C9 hS1 hT1 hbox
    go_wp2
    go_loopw [18] (fun i wr => ∃ k : Nat, k ≤ lv.length ∧ i = .int .i64 k ∧ Below g10.world.heap.size g10.world wr) (fun i _ => lv.length - (intOf i).toNat)
    case atStart => exact ⟨0, by omega, rfl, Below.refl _ _⟩
    case round =>
      obtain ⟨k, hk, rfl, hbel⟩ := hrel
      have HBL := Lib.hid hbel
      have hz := hbel.size
      have hbx := heap_below HBX.out hbel zb
      have d0 : wr.cell? ⟨w.heap.size, 0, none⟩ = some (.int .i32 jx) := by simp [World.cell?, hbx]
      have d1 : wr.cell? ⟨w.heap.size, 1, none⟩ = some (.int .i32 jy) := by simp [World.cell?, hbx]
      clear hbel hbx
      by_cases hlt : k < lv.length
      · obtain ⟨e1, z1⟩ := HS1.out (by omega)
        have ix1 := fun w => idx_body (c := c1) e1 hlt w
        clear e1
        have n1 := (HT1.out k hlt).below HBL.out
        obtain ⟨m0, m1, s2, s3, s4, s5, _⟩ := SM.out lv[k] (List.getElem_mem hlt)
        generalize lv[k] = b at *
        obtain ⟨key, r, ax, ay, m, o, px, py, vx, vy⟩ := b
        obtain ⟨q0, q1, q2, q3, q4, q5, q6, q7, q8, q9⟩ := n1
        have z1' : b1' < wr.heap.size := by omega
        have zb' : w.heap.size < wr.heap.size := by omega
        obtain ⟨pv, hpv⟩ : ∃ pv, pv = pushB ⟨key, r, ax, ay, m, o, px, py, vx, vy⟩ jx jy := ⟨_, rfl⟩
        obtain ⟨pf, hpf⟩ : ∃ pf, pf = pushC ⟨key, r, ax, ay, m, o, px, py, vx, vy⟩ jx jy := ⟨_, rfl⟩
        have HPV := Lib.hid hpv
        have HPF := Lib.hid hpf
        clear hpv hpf
        obtain ⟨y0', y1', y2', y3', y4', y5', y6', y7', y8', y9'⟩ := pv
        go_upto_region 14 with fail
        go_cut [19, 20] (fun p f wx => ∃ B, p = .pointer (some ⟨B, 0, none⟩) ∧ f = .bool pf ∧ wr.heap.size ≤ B ∧ wx.heap[B]? = some (.cells #[.int .u32 y0', .int .i32 y1', .int .i32 y2', .int .i32 y3', .int .i32 y4', .int .i32 y5', .int .i32 y6', .int .i32 y7', .int .i32 y8', .int .i32 y9'] 37 (0, 0)) ∧ Below wr.heap.size wr wx)
        case first =>
          go_region_with (go_at_call 17; refine (push_any _ _ _ _ _ _ _ _ _ _ _ _ _ m0 m1 s2 s3 s4 s5 x0 x1 y0 y1).mono ?_; rintro e w1 ⟨he, hb⟩; rw [← HPV.out, ← HPF.out] at he; have he' : e = .returned (.tuple #[.agg #[.int .u32 y0', .int .i32 y1', .int .i32 y2', .int .i32 y3', .int .i32 y4', .int .i32 y5', .int .i32 y6', .int .i32 y7', .int .i32 y8', .int .i32 y9'], .bool pf]) := he; subst he'; obtain ⟨g11, rfl⟩ := Grow.of hb; clear he hb)
          all_goals
            go_wp2
            go_meet
            first
              | exact ⟨_, rfl, rfl, g11.below.size, heap_alloc_new _ _, bel_alloc (bel_grow (bel_drew (Below.refl _ _)) g11) _⟩
              | exact ⟨_, rfl, rfl, Nat.le_refl _, ten_set (heap_below (heap_alloc_new wr.drew _) g11.below (lt_drew_alloc wr _)) _ _ _ _ _ _ _ _ _ _, ten_below (Below.trans (bel_alloc (bel_drew (Below.refl _ _)) _) (g11.below.mono (Nat.le_of_lt (lt_drew_alloc wr _)))) (Nat.le_refl _) _ _ _ _ _ _ _ _ _ _⟩
        case rest =>
        obtain ⟨B, rfl, rfl, hB, hbk, hbl⟩ := hcut
        obtain ⟨g12, rfl⟩ := Grow.of hbl
        have HBK := Lib.hid hbk
        have zB := lt_of_block hbk
        have BW := Lib.hid (bel_grow (Below.refl wr.heap.size wr) g12)
        have z12 : b1' < g12.world.heap.size := Nat.lt_of_lt_of_le z1' g12.le
        have zb12 : w.heap.size < g12.world.heap.size := Nat.lt_of_lt_of_le zb' g12.le
        clear hbk hbl
        go_upto_region 15 with fail
        go_cut [21, 22] (fun p f wx => ∃ C, p = .pointer (some ⟨C, 0, none⟩) ∧ f = .bool pf ∧ g12.world.heap.size ≤ C ∧ wx.heap[C]? = some (.cells #[.int .u32 y0', .int .i32 y1', .int .i32 y2', .int .i32 y3', .int .i32 y4', .int .i32 y5', .int .i32 y6', .int .i32 y7', .int .i32 y8', .int .i32 y9'] 37 (0, 0)) ∧ Below g12.world.heap.size g12.world wx)
        case first =>
          go_region_with (go_at_call 18; refine (refPush_any _ _ _ _ _ _ _ _ _ _ _ _ _ m0 m1 s2 s3 s4 s5 x0 x1 y0 y1).mono ?_; rintro e w1 ⟨he, hb⟩; rw [← HPV.out, ← HPF.out] at he; have he' : e = .returned (.tuple #[.agg #[.int .u32 y0', .int .i32 y1', .int .i32 y2', .int .i32 y3', .int .i32 y4', .int .i32 y5', .int .i32 y6', .int .i32 y7', .int .i32 y8', .int .i32 y9'], .bool pf]) := he; subst he'; obtain ⟨g13, rfl⟩ := Grow.of hb; clear he hb)
          all_goals
            go_wp2
            go_meet
            first
              | exact ⟨_, rfl, rfl, g13.below.size, heap_alloc_new _ _, bel_alloc (bel_grow (bel_drew (Below.refl _ _)) g13) _⟩
              | exact ⟨_, rfl, rfl, Nat.le_refl _, ten_set (heap_below (heap_alloc_new g12.world.drew _) g13.below (lt_drew_alloc g12.world _)) _ _ _ _ _ _ _ _ _ _, ten_below (Below.trans (bel_alloc (bel_drew (Below.refl _ _)) _) (g13.below.mono (Nat.le_of_lt (lt_drew_alloc g12.world _)))) (Nat.le_refl _) _ _ _ _ _ _ _ _ _ _⟩
        case rest =>
        obtain ⟨C, rfl, rfl, hC, hck, hcl⟩ := hcut
        obtain ⟨g14, rfl⟩ := Grow.of hcl
        obtain ⟨c0, c1, c2, c3, c4, c5, c6, c7, c8, c9⟩ := box_of (x := ⟨y0', y1', y2', y3', y4', y5', y6', y7', y8', y9'⟩) HBK.out
        obtain ⟨e0, e1, e2, e3, e4, e5, e6, e7, e8, e9⟩ := box_of (x := ⟨y0', y1', y2', y3', y4', y5', y6', y7', y8', y9'⟩) hck
        have B14 := Lib.hid (HBL.out.trans ((bel_grow BW.out g14).mono hz))
        clear hck hcl q0 q1 q2 q3 q4 q5 q6 q7 q8 q9 d0 d1 ix1 hB hC
        have hln := LN.out
        cases pf
        all_goals
          go_wp2
          go_roundw
          case rel => exact ⟨k + 1, by omega, by go_num, B14.out⟩
          case measure => simp [intOf]; omega
      · have hkl : k = lv.length := by omega
        have HN := Lib.hid hkl
        clear hkl
        go_wp2
        go_ret
        exact ⟨rfl, bel_box (C10.out.trans (HBL.out.mono (by omega)))⟩
theorem integrateMatchesReference_all (w : World) (v0 : Value) (l0 : List Body) (s0 : Reads bodyE w v0 l0) (_ : ∀ b ∈ l0, b.Fit) (_ : l0.length * 40 ≤ 140737488351232) (v1 : Value) (l1 : List (Int × Int)) (s1 : Reads shiftE w v1 l1) (_ : ∀ b ∈ l1, True) (_ : l1.length * 16 ≤ 140737488351232) (x y : Int) (hx : I32 x) (hy : I32 y) :
    Calls Try.prog 3 #[v0, v1, .agg #[.int .i32 x, .int .i32 y]] w fun e w' => e = .returned (.bool true) ∧ Below w.heap.size w w' :=
  matches_walk v0 v1 l0 l1 x y w s0 s1 hx.1 hx.2 hy.1 hy.2
end Go.Proofs.Ythoapplkaidaaaa
