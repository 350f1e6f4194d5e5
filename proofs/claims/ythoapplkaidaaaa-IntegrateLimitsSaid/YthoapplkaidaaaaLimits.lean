/- The walk of IntegrateLimits. -/
import Derived.Test.YthoapplkaidaaaaPure19
import Derived.Deep.DeepCutAuto
namespace Go.Proofs.Ythoapplkaidaaaa
open Go.RowKit
attribute [local go_sem] Grow.cell Grow.froz Grow.lt
attribute [local go_sem high] body_eq

theorem eqB_self (b : Body) : eqB b b = true := by simp [eqB, eqV]
attribute [local go_sem] eqB_self
theorem grav_facts {b : Body} (h : errOf b = 0) : ∃ gv, gravB b = { b with vy := gv } ∧ errOf { b with vy := gv } = 0 ∧ -16777216 ≤ gv ∧ gv ≤ 16777216 ∧ (b.inv = 0 → gv = b.vy) ∧ (gravC b = false → 0 < b.inv → gv = b.vy - 1024) := by
  have hz := errOf_zero.1 h
  have hc := clampI_le (n := b.vy - 1024) (l := 16777216) (by omega)
  by_cases h0 : b.inv = 0
  · refine ⟨b.vy, by unfold gravB; rw [if_pos (by simpa using h0)], h, by omega, by omega, fun _ => rfl, fun _ h1 => by omega⟩
  · refine ⟨clampI (b.vy - 1024) 16777216, by simp [gravB, h0], errOf_zero.2 (by simp only; omega), by omega, by omega, fun h1 => absurd h1 h0, fun h1 _ => ?_⟩
    simpa [gravC, h0] using h1
theorem move_facts {b : Body} {s : Int × Int} (h : errOf b = 0) : ∃ mx my, moveB b s = { b with px := mx, py := my } ∧ errOf { b with px := mx, py := my } = 0 ∧ -1073741824 ≤ mx ∧ mx ≤ 1073741824 ∧ -1073741824 ≤ my ∧ my ≤ 1073741824 ∧ (moveC b s = false → mx = b.px + s.1 + b.vx / 64 ∧ my = b.py + s.2 + b.vy / 64) := by
  have hz := errOf_zero.1 h
  have h1 := clampI_le (n := moveX b.px s.1 b.vx) (l := 1073741824) (by omega)
  have h2 := clampI_le (n := moveX b.py s.2 b.vy) (l := 1073741824) (by omega)
  refine ⟨clampI (moveX b.px s.1 b.vx) 1073741824, clampI (moveX b.py s.2 b.vy) 1073741824, rfl, errOf_zero.2 (by simp only; omega), by omega, by omega, by omega, by omega, fun hm => ?_⟩
  simp only [moveC, Bool.or_eq_false_iff, Bool.not_eq_false', beq_iff_eq] at hm
  exact hm
theorem ten_eq {w : World} {b o : Nat} {x y : Body} (h : TenAt w b o x) (e : x = y) : TenAt w b o y := e ▸ h

set_option maxHeartbeats 8000000 in
set_option maxRecDepth 100000 in
theorem limits_walk (v u : Value) (l : List Body) (s : List (Int × Int)) (w : World) (hl : Reads bodyE w v l) (hu : Reads shiftE w u s) :
    Calls Try.prog 4 #[v, u] w fun e w' => e = .returned (.bool true) ∧ Below w.heap.size w w' := by
  obtain ⟨lv, ok, hv⟩ : ∃ lv ok, viewL l = (lv, ok) := ⟨_, _, rfl⟩
  have HV := Lib.hid hv
  have HL := Lib.hid hl
  have HU := Lib.hid hu
  clear hl hu hv
  go_enter Try.func4, Try.ntmps4
  go_wp2_with fail
  refine (view_any _ l _ (by exact HL.out)).mono ?_
  rintro e w1 ⟨v1, he, hr, hb⟩
  rw [HV.out] at he hr
  subst he
  obtain ⟨A1, c1, b1, o1, rfl, _, _⟩ := hr.bodies
  obtain ⟨g1, rfl⟩ := Grow.of hb
  have R1 := Lib.hid hr
  have U1 := Lib.hid (HU.out.grow g1)
  have C1 := Lib.hid (bel_grow (Below.refl w.heap.size w) g1)
  clear hr hb
  go_wp2_with fail
  refine (awake19_any _).mono ?_
  rintro e w1 ⟨rfl, hb⟩
  obtain ⟨g2, rfl⟩ := Grow.of hb
  have R2 := Lib.hid (R1.out.grow g2)
  have U2 := Lib.hid (U1.out.grow g2)
  have C2 := Lib.hid (bel_grow C1.out g2)
  clear hb R1 U1 C1
  cases ok
  · go_wp2_with fail
    refine (awake19_any _).mono ?_
    rintro e w1 ⟨rfl, hb⟩
    obtain ⟨g3, rfl⟩ := Grow.of hb
    clear hb
    go_wp2
    go_ret
    exact ⟨rfl, bel_grow C2.out g3⟩
  · have hview : (viewL l).2 = true := by rw [HV.out]
    have hfa := view_facts hview
    rw [HV.out] at hfa
    have FA := Lib.hid hfa.1
    have LN := Lib.hid hfa.2
    have SM := Lib.hid (fun b (hb : b ∈ lv) => small_of (hfa.1 b hb).1)
    clear hview hfa
    have FO := Lib.hid (fitL_ok s lv.length)
    have FL := Lib.hid (fitL_len s lv.length)
    obtain ⟨t, ht⟩ : ∃ t, t = fitL s lv.length := ⟨_, rfl⟩
    have HT := Lib.hid ht
    rw [← ht] at FO FL
    clear ht
    go_wp2_with fail
    refine (fit_any _ s lv.length _ (by exact U2.out) (by have := LN.out; omega)).mono ?_
    rintro e w1 ⟨v2, he, hr, hb⟩
    rw [← HT.out] at hr
    subst he
    obtain ⟨g3, rfl⟩ := Grow.of hb
    have R3 := Lib.hid (R2.out.grow g3)
    have T3 := Lib.hid hr
    have C3 := Lib.hid (bel_grow C2.out g3)
    clear hb hr R2 U2 C2
    go_wp2_with fail
    refine (gravity_any _ lv _ (by exact R3.out) (by have := LN.out; omega) SM.out).mono ?_
    rintro e w1 ⟨v3, he, hr, hb⟩
    obtain ⟨ga, hga⟩ : ∃ ga, lv.any gravC = ga := ⟨_, rfl⟩
    rw [hga] at he
    subst he
    have GA := Lib.hid hga
    obtain ⟨g4, rfl⟩ := Grow.of hb
    have R4 := Lib.hid (R3.out.grow g4)
    have T4 := Lib.hid (T3.out.grow g4)
    have M4 := Lib.hid hr
    have C4 := Lib.hid (bel_grow C3.out g4)
    clear hga hb hr R3 T3 C3
    go_wp2_with fail
    refine (forward_any _ t _ (by exact T4.out) (by have := LN.out; have := FL.out; omega)).mono ?_
    rintro e w1 ⟨v4, rfl, hr, hb⟩
    obtain ⟨g5, rfl⟩ := Grow.of hb
    have R5 := Lib.hid (R4.out.grow g5)
    have T5 := Lib.hid (T4.out.grow g5)
    have M5 := Lib.hid (M4.out.grow g5)
    have F5 := Lib.hid hr
    have C5 := Lib.hid (bel_grow C4.out g5)
    clear hb hr R4 T4 M4 C4
    go_wp2_with fail
    refine (move_any _ _ lv t _ (by exact R5.out) (by have := LN.out; omega) SM.out (by exact F5.out) FL.out FO.out).mono ?_
    rintro e w1 ⟨v5, he, hr, hb⟩
    obtain ⟨mc, hmc⟩ : ∃ mc, movC lv t = mc := ⟨_, rfl⟩
    rw [hmc] at he
    subst he
    have MC := Lib.hid hmc
    obtain ⟨g6, rfl⟩ := Grow.of hb
    have ML := Lib.hid (movL_len FL.out)
    obtain ⟨A2, c2, b2, o2, rfl, hS2, hT2⟩ := (T5.out.grow g6).form
    obtain ⟨A3, c3, b3, o3, hv3, hS3, hT3⟩ := (M5.out.grow g6).bodies
    obtain ⟨A4, c4, b4, o4, hv4, hS4, hT4⟩ := hr.bodies
    rw [List.length_map] at hv3
    rw [ML.out] at hv4
    subst hv3 hv4
    obtain ⟨A1', c1', b1', o1', hv1, hS1, hT1⟩ := (R5.out.grow g6).bodies
    simp only [Value.slice.injEq, true_and] at hv1
    obtain ⟨rfl, rfl⟩ := hv1
    have HS1 := Lib.hid hS1
    have HS2 := Lib.hid hS2
    have HS3 := Lib.hid hS3
    have HS4 := Lib.hid hS4
    have HT1 := Lib.hid hT1
    have HT2 := Lib.hid hT2
    have HT3 := Lib.hid hT3
    have HT4 := Lib.hid hT4
    have C6 := Lib.hid (bel_grow C5.out g6)
    clear hmc hb hr R5 T5 M5 F5 C5 hS1 hS2 hS3 hS4 hT1 hT2 hT3 hT4
    go_wp2
    go_loopw [12] (fun i wr => ∃ k : Nat, k ≤ lv.length ∧ i = .int .i64 k ∧ Below g6.world.heap.size g6.world wr) (fun i _ => lv.length - (intOf i).toNat)
    case atStart => exact ⟨0, by omega, rfl, Below.refl _ _⟩
    case round =>
      obtain ⟨k, hk, rfl, hbel⟩ := hrel
      have HBL := Lib.hid hbel
      have hz := hbel.size
      clear hbel
      by_cases hlt : k < lv.length
      · obtain ⟨e1, z1⟩ := HS1.out (by omega)
        have ix1 := fun w => idx_body (c := c1) e1 hlt w
        obtain ⟨e2, z2⟩ := HS2.out (by have := FL.out; omega)
        have ix2 := fun w => idx_refShift (c := c2) e2 (show k < t.length from by have := FL.out; omega) w
        obtain ⟨e3, z3⟩ := HS3.out (by simp; omega)
        have ix3 := fun w => idx_body (c := c3) e3 hlt w
        obtain ⟨e4, z4⟩ := HS4.out (by have := ML.out; omega)
        have ix4 := fun w => idx_body (c := c4) e4 hlt w
        clear e1 e2 e3 e4
        have hE := (FA.out lv[k] (List.getElem_mem hlt)).1
        have hkt : k < t.length := by have := FL.out; omega
        have n1 := (HT1.out k hlt).below HBL.out
        have n3 := (HT3.out k (by simpa using hlt)).below HBL.out
        have n4 := (HT4.out k (by rw [ML.out]; exact hlt)).below HBL.out
        rw [List.getElem_map] at n3
        rw [movL_get hlt hkt] at n4
        have hso := FO.out t[k] (List.getElem_mem hkt)
        obtain ⟨sx0, sy0⟩ := shift_at (HT2.out k hkt)
        have sx1 := (HBL.out.cell (p := ⟨b2, o2 + k * 2, none⟩) z2).trans sx0
        have sy1 := (HBL.out.cell (p := ⟨b2, o2 + k * 2 + 1, none⟩) z2).trans sy0
        have hgc : ga = false → gravC lv[k] = false := fun h => by
          have := List.any_eq_false.1 (GA.out.trans h) lv[k] (List.getElem_mem hlt)
          simpa using this
        have hmc : mc = false → moveC lv[k] t[k] = false := fun h => movC_get (MC.out.trans h) hlt hkt
        clear sx0 sy0
        generalize lv[k] = b at *
        generalize t[k] = sh at *
        obtain ⟨gv, eg, hE3, gv0, gv1, gvs, gvd⟩ := grav_facts hE
        obtain ⟨mx, my, em, hE4, mx0, mx1, my0, my1, mvd⟩ := move_facts (s := sh) hE
        replace n3 := ten_eq n3 eg
        replace n4 := ten_eq n4 em
        obtain ⟨key, r, ax, ay, m, o, px, py, vx, vy⟩ := b
        obtain ⟨sx, sy⟩ := sh
        obtain ⟨q0, q1, q2, q3, q4, q5, q6, q7, q8, q9⟩ := n1
        obtain ⟨r0, r1, r2, r3, r4, r5, r6, r7, r8, r9⟩ := n3
        obtain ⟨t0, t1, t2, t3, t4, t5, t6, t7, t8, t9⟩ := n4
        have E3 := Lib.hid hE3
        have E4 := Lib.hid hE4
        have z1' : b1' < wr.heap.size := by omega
        have z2' : b2 < wr.heap.size := by omega
        have z3' : b3 < wr.heap.size := by omega
        have z4' : b4 < wr.heap.size := by omega
        have HGC := Lib.hid hgc
        have HMC := Lib.hid hmc
        have HGS := Lib.hid gvs
        have HGD := Lib.hid gvd
        have HMD := Lib.hid mvd
        have HSO := Lib.hid hso
        have hm0 : 0 ≤ m := (errOf_zero.1 hE).2.2.1.1
        have hvx := (errOf_zero.1 hE).2.2.2.2.2
        have hpx := (errOf_zero.1 hE).2.2.2.2.1
        simp only at hvx hpx
        obtain ⟨vx0, vx1, vy0, vy1⟩ := hvx
        obtain ⟨px0, px1, py0, py1⟩ := hpx
        clear hE3 hE4 eg em hgc hmc gvs gvd mvd hso hE z1 z2 z3 z4
        go_wp2_with fail
        refine (refCheck_fl _ _ _ _ _ _ _ _ _ _ _).mono ?_
        rintro e w7 ⟨he, hb⟩
        have he' : e = .returned (.int .i64 0) := he.trans (by rw [E3.out])
        subst he'
        obtain ⟨g7, rfl⟩ := Grow.of hb
        have z1 : b1' < g7.world.heap.size := Nat.lt_of_lt_of_le z1' g7.le
        have z2 : b2 < g7.world.heap.size := Nat.lt_of_lt_of_le z2' g7.le
        have z3 : b3 < g7.world.heap.size := Nat.lt_of_lt_of_le z3' g7.le
        have z4 : b4 < g7.world.heap.size := Nat.lt_of_lt_of_le z4' g7.le
        have B7 := Lib.hid (HBL.out.trans (g7.below.mono hz))
        have hz7 : g6.world.heap.size ≤ g7.world.heap.size := by have := g7.le; omega
        clear he hb
        go_wp2_with fail
        refine (refCheck_fl _ _ _ _ _ _ _ _ _ _ _).mono ?_
        rintro e w8 ⟨he, hb⟩
        have he' : e = .returned (.int .i64 0) := he.trans (by rw [E4.out])
        subst he'
        obtain ⟨g8, rfl⟩ := Grow.of hb
        have y1 : b1' < g8.world.heap.size := Nat.lt_of_lt_of_le z1 g8.le
        have y2 : b2 < g8.world.heap.size := Nat.lt_of_lt_of_le z2 g8.le
        have y3 : b3 < g8.world.heap.size := Nat.lt_of_lt_of_le z3 g8.le
        have y4 : b4 < g8.world.heap.size := Nat.lt_of_lt_of_le z4 g8.le
        have y1' : b1' < g8.world.heap.size + 1 := by omega
        have y3' : b3 < g8.world.heap.size + 1 := by omega
        have y4' : b4 < g8.world.heap.size + 1 := by omega
        have y2' : b2 < g8.world.heap.size + 1 := by omega
        have y2'' : b2 < g8.world.heap.size + 1 + 1 := by omega
        have y3'' : b3 < g8.world.heap.size + 1 + 1 := by omega
        have y4'' : b4 < g8.world.heap.size + 1 + 1 := by omega
        have y1'' : b1' < g8.world.heap.size + 1 + 1 := by omega
        have B8 := Lib.hid (B7.out.trans (g8.below.mono hz7))
        have hz8 : g6.world.heap.size ≤ g8.world.heap.size := by have := g8.le; omega
        clear he hb
        have BW := Lib.hid (bel_alloc (bel_alloc (bel_grow (bel_grow (Below.refl wr.heap.size wr) g7) g8) (.cells #[.int .u32 key, .int .i32 r, .int .i32 ax, .int .i32 ay, .int .i32 m, .int .i32 o, .int .i32 px, .int .i32 py, .int .i32 vx, .int .i32 vy] 37)) (.cells #[.int .u32 key, .int .i32 r, .int .i32 ax, .int .i32 ay, .int .i32 m, .int .i32 o, .int .i32 px, .int .i32 py, .int .i32 vx, .int .i32 vy] 37))
        go_upto_region 18 with fail
        have hmm : (m = 0 ∧ vy = gv) ∨ ((m == 0) = false ∧ 0 < m) := by
          by_cases h : m = 0
          · exact .inl ⟨h, (HGS.out h).symm⟩
          · exact .inr ⟨by simpa using h, by omega⟩
        have HMM := Lib.hid hmm
        clear hmm
        go_cut [131] (fun c wx => c = .bool false ∧ Below wr.heap.size wr wx)
        case first => as_aux_lemma =>
          rcases HMM.out with ⟨rfl, rfl⟩ | ⟨hmf, hmp⟩
          all_goals
            go_upto_region 18 with fail
            refine wp_region_grow (by kernel_rfl) (by kernel_rfl) ?_
            repeat (first | go_big_quiet_skip | (go_big_quiet_want; go_big_quiet_op; first | go_big_quiet_on))
            refine wpQuiet_nil ?_
            rintro _ ⟨g9, rfl⟩
            go_wp2
            go_meet
            exact ⟨rfl, bel_grow BW.out g9⟩
        case rest => as_aux_lemma =>
        obtain ⟨rfl, hbw⟩ := hcut
        obtain ⟨g9, rfl⟩ := Grow.of hbw
        clear hbw BW B8 B7 hz7 hz8 y1 y2 y3 y4 y1' y3' y4' y2' y2'' y3'' y4'' y1'' z1 z2 z3 z4
        have x91 : b1' < g9.world.heap.size := Nat.lt_of_lt_of_le z1' g9.le
        have x92 : b2 < g9.world.heap.size := Nat.lt_of_lt_of_le z2' g9.le
        have x93 : b3 < g9.world.heap.size := Nat.lt_of_lt_of_le z3' g9.le
        have x94 : b4 < g9.world.heap.size := Nat.lt_of_lt_of_le z4' g9.le
        have BW := Lib.hid (bel_grow (Below.refl wr.heap.size wr) g9)
        go_upto_region 20 with fail
        go_cut [157] (fun c wx => c = .bool false ∧ Below wr.heap.size wr wx)
        case first => as_aux_lemma =>
          rcases HMM.out with ⟨rfl, rfl⟩ | ⟨hmf, hmp⟩ <;> cases ga
          case' inr.false => obtain rfl := HGD.out (HGC.out rfl) hmp
          all_goals
            go_upto_region 20 with fail
            refine wp_region_grow (by kernel_rfl) (by kernel_rfl) ?_
            repeat (first | go_big_quiet_skip | (go_big_quiet_want; go_big_quiet_op; first | go_big_quiet_on))
            refine wpQuiet_nil ?_
            rintro _ ⟨g10, rfl⟩
            go_wp2
            go_meet
            exact ⟨rfl, bel_grow BW.out g10⟩
        case rest => as_aux_lemma =>
        obtain ⟨rfl, hbw⟩ := hcut
        obtain ⟨g10, rfl⟩ := Grow.of hbw
        clear hbw BW x91 x92 x93 x94
        have x101 : b1' < g10.world.heap.size := Nat.lt_of_lt_of_le z1' g10.le
        have x102 : b2 < g10.world.heap.size := Nat.lt_of_lt_of_le z2' g10.le
        have x103 : b3 < g10.world.heap.size := Nat.lt_of_lt_of_le z3' g10.le
        have x104 : b4 < g10.world.heap.size := Nat.lt_of_lt_of_le z4' g10.le
        obtain ⟨so0, so1, so2, so3⟩ := HSO.out
        simp only at so0 so1 so2 so3
        go_upto_region 22 with fail
        refine wp_region_grow (by kernel_rfl) (by kernel_rfl) ?_
        repeat (first | go_big_quiet_skip | (go_big_quiet_want; go_big_quiet_op; first | go_big_quiet_on))
        refine wpQuiet_nil ?_
        rintro _ ⟨g11, rfl⟩
        have x111 : b1' < g11.world.heap.size := Nat.lt_of_lt_of_le x101 g11.le
        have x112 : b2 < g11.world.heap.size := Nat.lt_of_lt_of_le x102 g11.le
        have x113 : b3 < g11.world.heap.size := Nat.lt_of_lt_of_le x103 g11.le
        have x114 : b4 < g11.world.heap.size := Nat.lt_of_lt_of_le x104 g11.le
        go_upto_region 23 with fail
        refine wp_region_grow (by kernel_rfl) (by kernel_rfl) ?_
        repeat (first | go_big_quiet_skip | (go_big_quiet_want; go_big_quiet_op; first | go_big_quiet_on))
        refine wpQuiet_nil ?_
        rintro _ ⟨g12, rfl⟩
        have x121 : b1' < g12.world.heap.size := Nat.lt_of_lt_of_le x111 g12.le
        have x122 : b2 < g12.world.heap.size := Nat.lt_of_lt_of_le x112 g12.le
        have x123 : b3 < g12.world.heap.size := Nat.lt_of_lt_of_le x113 g12.le
        have x124 : b4 < g12.world.heap.size := Nat.lt_of_lt_of_le x114 g12.le
        have B12 := Lib.hid (HBL.out.trans ((bel_grow (bel_grow (bel_grow (Below.refl wr.heap.size wr) g10) g11) g12).mono hz))
        have hln := LN.out
        cases mc
        case' false =>
          obtain ⟨rfl, rfl⟩ := HMD.out (HMC.out rfl)
          have dx0 : 64 * (px + sx + vx / 64 - px - sx) ≤ vx := by omega
          have dx1 : vx < 64 * (px + sx + vx / 64 - px - sx) + 64 := by omega
          have dy0 : 64 * (py + sy + vy / 64 - py - sy) ≤ vy := by omega
          have dy1 : vy < 64 * (py + sy + vy / 64 - py - sy) + 64 := by omega
          clear mx0 mx1 my0 my1
          generalize px + sx + vx / 64 - px - sx = dx at *
          generalize py + sy + vy / 64 - py - sy = dy at *
        all_goals as_aux_lemma =>
          clear so0 so1 so2 so3
          go_wp2
          go_roundw
          case rel => exact ⟨k + 1, by omega, by go_num, B12.out⟩
          case measure => simp [intOf]; omega
      · have hkl : k = lv.length := by omega
        have HN := Lib.hid hkl
        clear hkl
        go_wp2
        go_ret
        exact ⟨rfl, C6.out.trans (HBL.out.mono C6.out.size)⟩
theorem integrateLimits_all (w : World) (v0 : Value) (l0 : List Body) (s0 : Reads bodyE w v0 l0) (_ : ∀ b ∈ l0, b.Fit) (_ : l0.length * 40 ≤ 140737488351232) (v1 : Value) (l1 : List (Int × Int)) (s1 : Reads shiftE w v1 l1) (_ : ∀ b ∈ l1, True) (_ : l1.length * 16 ≤ 140737488351232) :
    Calls Try.prog 4 #[v0, v1] w fun e w' => e = .returned (.bool true) ∧ Below w.heap.size w w' :=
  limits_walk v0 v1 l0 l1 w s0 s1
end Go.Proofs.Ythoapplkaidaaaa
