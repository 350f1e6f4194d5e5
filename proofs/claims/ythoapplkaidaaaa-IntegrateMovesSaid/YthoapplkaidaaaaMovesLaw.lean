/- The walk of IntegrateMoves. -/
import Derived.Test.YthoapplkaidaaaaPure19
namespace Go.Proofs.Ythoapplkaidaaaa
open Go.RowKit
attribute [local go_sem] Grow.cell Grow.froz Grow.lt

set_option maxHeartbeats 8000000 in
theorem moves_walk (v u : Value) (l : List Body) (s : List (Int × Int)) (dx dy : Int) (w : World) (hl : Reads bodyE w v l) (hu : Reads shiftE w u s) (x0 : -2147483648 ≤ dx) (x1 : dx ≤ 2147483647) (y0 : -2147483648 ≤ dy) (y1 : dy ≤ 2147483647) :
    Calls Try.prog 5 #[v, u, .agg #[.int .i32 dx, .int .i32 dy]] w fun e w' => e = .returned (.bool true) ∧ Below w.heap.size w w' := by
  obtain ⟨lv, ok, hv⟩ : ∃ lv ok, viewL l = (lv, ok) := ⟨_, _, rfl⟩
  have HV := Lib.hid hv
  have HL := Lib.hid hl
  have HU := Lib.hid hu
  clear hl hu hv
  go_enter Try.func5, Try.ntmps5
  go_wp2_with fail
  refine (view_any _ l _ (by exact HL.out.alloc _)).mono ?_
  rintro e w1 ⟨v1, he, hr, hb⟩
  rw [HV.out] at he hr
  subst he
  obtain ⟨A1, c1, b1, o1, rfl, _, _⟩ := hr.bodies
  have hz1 := hb.size
  simp at hz1
  obtain ⟨g1, rfl⟩ := Grow.of hb
  have R1 := Lib.hid hr
  have U1 := Lib.hid ((HU.out.alloc (.cells #[.int .i32 dx, .int .i32 dy] 25)).grow g1)
  have C1 := Lib.hid (bel_grow (bel_alloc (Below.refl w.heap.size w) _) g1)
  clear hr hb
  have l1 : w.heap.size < g1.world.heap.size := by omega
  clear hz1
  go_wp2_with fail
  refine (awake19_any _).mono ?_
  rintro e w1 ⟨rfl, hb⟩
  obtain ⟨g2, rfl⟩ := Grow.of hb
  have l2 : w.heap.size < g2.world.heap.size := Nat.lt_of_lt_of_le l1 g2.le
  have R2 := Lib.hid (R1.out.grow g2)
  have U2 := Lib.hid (U1.out.grow g2)
  have C2 := Lib.hid (bel_grow C1.out g2)
  clear hb R1 U1 C1
  cases ok
  · go_wp2_with fail
    refine (awake19_any _).mono ?_
    rintro e w1 ⟨rfl, hb⟩
    obtain ⟨g3, rfl⟩ := Grow.of hb
    clear hb
    go_wp2
    go_ret
    exact ⟨rfl, bel_grow C2.out g3⟩
  · have hview : (viewL l).2 = true := by rw [HV.out]
    have hsm0 := view_small hview
    have hln0 := (view_facts hview).2
    rw [HV.out] at hsm0 hln0
    have SM := Lib.hid hsm0
    have LN := Lib.hid hln0
    clear hview hsm0 hln0
    have FO := Lib.hid (fitL_ok s lv.length)
    have FL := Lib.hid (fitL_len s lv.length)
    obtain ⟨t, ht⟩ : ∃ t, t = fitL s lv.length := ⟨_, rfl⟩
    have HT := Lib.hid ht
    rw [← ht] at FO FL
    clear ht
    obtain ⟨ml, mok, hm⟩ : ∃ ml mok, movedL lv dx dy = (ml, mok) := ⟨_, _, rfl⟩
    have HM := Lib.hid hm
    have ml_small : ∀ b ∈ ml, Small b := by
      have := movedL_small (dx := dx) (dy := dy) SM.out
      rwa [hm] at this
    have ml_len : ml.length = lv.length := by
      have := movedL_len (l := lv) (dx := dx) (dy := dy)
      rwa [hm] at this
    have MS := Lib.hid ml_small
    have MN := Lib.hid ml_len
    clear hm ml_small ml_len
    go_wp2_with fail
    refine (fit_any _ s lv.length _ (by exact U2.out) (by have := LN.out; omega)).mono ?_
    rintro e w1 ⟨v2, he, hr, hb⟩
    rw [← HT.out] at hr
    subst he
    obtain ⟨g3, rfl⟩ := Grow.of hb
    have l3 : w.heap.size < g3.world.heap.size := Nat.lt_of_lt_of_le l2 g3.le
    have R3 := Lib.hid (R2.out.grow g3)
    have T3 := Lib.hid hr
    have C3 := Lib.hid (bel_grow C2.out g3)
    clear hb hr R2 U2 C2
    go_wp2_with fail
    refine (moved_any _ lv dx dy _ (by exact R3.out) (by have := LN.out; omega) SM.out x0 x1 y0 y1).mono ?_
    rintro e w1 ⟨v3, he, hr, hb⟩
    rw [HM.out] at he hr
    subst he
    obtain ⟨g4, rfl⟩ := Grow.of hb
    have l4 : w.heap.size < g4.world.heap.size := Nat.lt_of_lt_of_le l3 g4.le
    have R4 := Lib.hid (R3.out.grow g4)
    have T4 := Lib.hid (T3.out.grow g4)
    have M4 := Lib.hid hr
    have C4 := Lib.hid (bel_grow C3.out g4)
    clear hb hr R3 T3 C3
    go_wp2_with fail
    refine (forward_any _ t _ (by exact T4.out) (by have := LN.out; have := FL.out; omega)).mono ?_
    rintro e w1 ⟨v4, rfl, hr, hb⟩
    obtain ⟨g5, rfl⟩ := Grow.of hb
    have l5 : w.heap.size < g5.world.heap.size := Nat.lt_of_lt_of_le l4 g5.le
    have R5 := Lib.hid (R4.out.grow g5)
    have T5 := Lib.hid (T4.out.grow g5)
    have M5 := Lib.hid (M4.out.grow g5)
    have F5 := Lib.hid hr
    have C5 := Lib.hid (bel_grow C4.out g5)
    clear hb hr R4 T4 M4 C4
    go_wp2_with fail
    refine (move_any _ _ lv t _ (by exact R5.out) (by have := LN.out; omega) SM.out (by exact F5.out) FL.out FO.out).mono ?_
    rintro e w1 ⟨v5, he, hr, hb⟩
    obtain ⟨a, ha⟩ : ∃ a, movC lv t = a := ⟨_, rfl⟩
    rw [ha] at he
    subst he
    have HA := Lib.hid ha
    obtain ⟨g6, rfl⟩ := Grow.of hb
    have l6 : w.heap.size < g6.world.heap.size := Nat.lt_of_lt_of_le l5 g6.le
    have T6 := Lib.hid (T5.out.grow g6)
    have M6 := Lib.hid (M5.out.grow g6)
    have D6 := Lib.hid hr
    have C6 := Lib.hid (bel_grow C5.out g6)
    clear ha hb hr R5 T5 M5 F5 C5
    go_wp2_with fail
    refine (forward_any _ t _ (by exact T6.out) (by have := LN.out; have := FL.out; omega)).mono ?_
    rintro e w1 ⟨v6, rfl, hr, hb⟩
    obtain ⟨g7, rfl⟩ := Grow.of hb
    have l7 : w.heap.size < g7.world.heap.size := Nat.lt_of_lt_of_le l6 g7.le
    have M7 := Lib.hid (M6.out.grow g7)
    have D7 := Lib.hid (D6.out.grow g7)
    have F7 := Lib.hid hr
    have C7 := Lib.hid (bel_grow C6.out g7)
    clear hb hr T6 M6 D6 C6
    go_wp2_with fail
    refine (move_any _ _ ml t _ (by exact M7.out) (by have := LN.out; have := MN.out; omega) MS.out (by exact F7.out) (by have := MN.out; have := FL.out; omega) FO.out).mono ?_
    rintro e w1 ⟨v7, he, hr, hb⟩
    obtain ⟨b, hbq⟩ : ∃ b, movC ml t = b := ⟨_, rfl⟩
    rw [hbq] at he
    subst he
    have HB := Lib.hid hbq
    obtain ⟨g8, rfl⟩ := Grow.of hb
    have l8 : w.heap.size < g8.world.heap.size := Nat.lt_of_lt_of_le l7 g8.le
    have D8 := Lib.hid (D7.out.grow g8)
    have E8 := Lib.hid hr
    have C8 := Lib.hid (bel_grow C7.out g8)
    clear hbq hb hr M7 D7 F7 C7
    cases mok <;> cases a <;> cases b
    case true.false.false =>
      go_wp2_with fail
      refine (moved_any _ (movL lv t) dx dy _ (by exact D8.out) (by have := LN.out; rw [movL_len FL.out]; omega) (movL_small SM.out) x0 x1 y0 y1).mono ?_
      rintro e w1 ⟨v8, he, hr, hb⟩
      obtain ⟨q, hq⟩ : ∃ q, q = (movedL (movL lv t) dx dy).2 := ⟨_, rfl⟩
      rw [← hq] at he
      subst he
      obtain ⟨g9, rfl⟩ := Grow.of hb
      have X9 := Lib.hid hr
      have E9 := Lib.hid (E8.out.grow g9)
      have C9 := Lib.hid (bel_grow C8.out g9)
      clear hb hr hq D8 E8 C8
      go_wp2_with fail
      refine (same_any _ _ _ _ _ (by exact X9.out) (by exact E9.out)).mono ?_
      rintro e w1 ⟨he, hb⟩
      have hsame : (movedL (movL lv t) dx dy).1 = movL ml t := by
        have h := moves_same (dx := dx) (dy := dy) FL.out (by rw [HM.out]) HA.out (by rw [HM.out]; exact HB.out)
        rwa [HM.out] at h
      rw [decide_eq_true hsame] at he
      subst he
      obtain ⟨g10, rfl⟩ := Grow.of hb
      clear hb hsame
      go_wp2
      go_ret
      exact ⟨rfl, bel_grow C9.out g10⟩
    all_goals
      go_wp2
      go_ret
      exact ⟨rfl, C8.out⟩

theorem integrateMoves_all (w : World) (v0 : Value) (l0 : List Body) (s0 : Reads bodyE w v0 l0) (_ : ∀ b ∈ l0, b.Fit) (_ : l0.length * 40 ≤ 140737488351232) (v1 : Value) (l1 : List (Int × Int)) (s1 : Reads shiftE w v1 l1) (_ : ∀ b ∈ l1, True) (_ : l1.length * 16 ≤ 140737488351232) (x y : Int) (hx : I32 x) (hy : I32 y) :
    Calls Try.prog 5 #[v0, v1, .agg #[.int .i32 x, .int .i32 y]] w fun e w' => e = .returned (.bool true) ∧ Below w.heap.size w w' :=
  moves_walk v0 v1 l0 l1 x y w s0 s1 hx.1 hx.2 hy.1 hy.2
end Go.Proofs.Ythoapplkaidaaaa
