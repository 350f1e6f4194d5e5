/- Contracts of the program's functions, by walks, and plain facts beside them: RefShifts, RefRound, RefStep, Ref22a, Ref22b. -/
import Derived.Test.YtnhaiecbjipodaaGreatDoorE06
import Derived.Test.YtnhaiecbjipodaaGreatDoorB26
import Derived.Test.YtnhaiecbjipodaaGreatDoorB16
import Derived.BigRegion
/- The references' Shifts: nothing panics. The walk. -/
namespace Go.Proofs.YtnhaiecbjipodaaGreatDoor
open Go.RowKit
attribute [local go_sem] Grow.cell Grow.froz Grow.lt lt_s1 lt_s2 lt_s3 lt_s4 lt_s5
theorem bel_set' {n : Nat} {w W : World} {b o : Nat} (h : Below n w W) (hb : n ≤ b) (v : Value) : Below n w (W.setCell ⟨b, o, none⟩ v) := h.setCell (p := ⟨b, o, none⟩) hb v
set_option maxRecDepth 100000 in
set_option maxHeartbeats 8000000 in
theorem refShifts_lax (v : Value) (l : List Body) (vc : Value) (cs : List Con) (w : World) (hl : Reads bodyE w v l) (hr : Reads conE w vc cs) (hn : l.length ≤ 4096) (hL : ∀ b ∈ l, Lax b) (hC : ConsOk l cs) :
    Calls Tryz.prog 102 #[v, vc] w fun e w' => ∃ v' s, e = .returned v' ∧ Own shiftE 209 w' w.heap.size v' s ∧ s.length = l.length ∧ Below w.heap.size w w' := by
  have HLV := Lib.hid hl
  obtain ⟨A, c, b1, o1, rfl, hA, hx⟩ := hl.bodies
  obtain ⟨B, d, b2, o2, rfl, hB, hy⟩ := hr.form
  obtain ⟨M, hM⟩ : ∃ M, M = cs.length := ⟨_, rfl⟩
  have hM1 : M ≤ 100000000000 := by rw [hM]; exact hC.len
  obtain ⟨N, hN⟩ : ∃ N, N = l.length := ⟨_, rfl⟩
  rw [← hM, ← hN]
  have HM := Lib.hid hM
  have HN := Lib.hid hN
  have hN4 : N ≤ 4096 := by omega
  have HX := Lib.hid hx
  have HA := Lib.hid hA
  have HB := Lib.hid hB
  have HY := Lib.hid hy
  have HL := Lib.hid hL
  have HC := Lib.hid hC
  clear hl hr hx hA hB hy hL hC hM hN hn
  go_enter Tryz.func102, Tryz.ntmps102
  go_wp2
  go_loopw [5, 6] (fun u i wr => ∃ (k : Nat) (s : List (Int × Int)), k ≤ N ∧ i = .int .i64 k ∧ s.length = k ∧ Own shiftE 209 wr w.heap.size u s ∧ Below w.heap.size w wr) (fun _ i _ => N - (intOf i).toNat)
  case atStart => exact ⟨0, [], by omega, rfl, rfl, Own.nil _ _ _ _, Below.refl _ _⟩
  case round =>
    obtain ⟨i, s, hi, rfl, hsl, hown, hbel⟩ := hrel
    obtain ⟨wo, hwo⟩ : ∃ wo : World, wo = wr := ⟨_, rfl⟩
    rw [← hwo] at hown hbel ⊢
    clear hwo
    have HO := Lib.hid hown
    have HBEL := Lib.hid hbel
    have HSL := Lib.hid hsl
    have hzo := hbel.size
    clear hown hbel hsl
    by_cases hlt : i < N
    · have hil : i < l.length := by rw [← HN.out]; exact hlt
      obtain ⟨eA, zA⟩ := HA.out (by omega)
      have ixi : ∀ W, (Instr.indexAt 38 (.slice A N c) (.int .i64 (i : Int))).run Tryz.prog W = .ok (.pointer (some ⟨b1, o1 + i * 10, none⟩)) W := fun W => idx_body eA hlt W
      have HIX := Lib.hid ixi
      have EA := Lib.hid eA
      clear ixi eA
      obtain ⟨SB, hSB⟩ : ∃ SB, SB = wo.heap.size := ⟨_, rfl⟩
      have HSB := Lib.hid hSB
      have hbS : SB < (wo.alloc (.cells #[.int .i64 0, .int .i64 0] 209)).heap.size := by simp [hSB]
      have K0 : CellsAt (wo.alloc (.cells #[.int .i64 0, .int .i64 0] 209)) SB #[.int .i64 0, .int .i64 0] 209 := CellsAt.newAt hSB rfl
      have HK0 := Lib.hid K0
      clear K0 hbS hSB
      go_upto_region 6 with fail
      rw [← HSB.out]
      go_wp2
      go_loopw [8] (fun j wr => ∃ (m : Nat) (a b : Int), m ≤ M ∧ j = .int .i64 m ∧ CellsAt wr SB #[.int .i64 a, .int .i64 b] 209 ∧ Below SB wo wr) (fun j _ => M - (intOf j).toNat)
      case atStart => exact ⟨0, 0, 0, by omega, rfl, HK0.out, by rw [HSB.out]; exact new_ok _⟩
      case round =>
        clear HK0
        obtain ⟨m, a, b, hm, rfl, hK, hBI⟩ := hrel
        have HK := Lib.hid hK
        have HBI := Lib.hid hBI
        have lK := hK.lt
        have hzi : SB ≤ wr.heap.size := by omega
        have hSB : SB ≤ SB := Nat.le_refl _
        have hwS : w.heap.size ≤ SB := by rw [HSB.out]; exact hzo
        have hbw : Below w.heap.size w wr := HBEL.out.trans (hBI.mono hwS)
        have HBW := Lib.hid hbw
        have hzw := hbw.size
        clear hK hBI hbw
        by_cases hlt2 : m < M
        · have hmc : m < cs.length := by rw [← HM.out]; exact hlt2
          obtain ⟨eB, zB⟩ := HB.out (by omega)
          have ixk := fun W => idx_con (c := d) eB hmc W
          rw [← HM.out] at ixk
          have hcell := fun j u h => (keepB HBW.out b2 zB _).trans (HY.out m hmc j u h)
          obtain ⟨hcf, ⟨a1, a2, ha1, ha2, hlo, hhi⟩⟩ := HC.out.ok cs[m] (List.getElem_mem hmc)
          obtain ⟨p0, p1, p2, p3, p4, p5, p6, p7, p8, p9⟩ := (HX.out i hil).below HBW.out
          have hLi := HL.out l[i] (List.getElem_mem hil)
          have zA' : b1 < wr.heap.size := Nat.lt_of_lt_of_le zA hzw
          have zB' : b2 < wr.heap.size := Nat.lt_of_lt_of_le zB hzw
          obtain ⟨f1, hf1, hk1, F1⟩ := find_at (l := l) (key := cs[m].lo) ⟨a1, ha1, hlo⟩
          obtain ⟨f2, hf2, hk2, F2⟩ := find_at (l := l) (key := cs[m].hi) ⟨a2, ha2, hhi⟩
          rw [← HN.out] at hf1 hf2
          have ix1 : ∀ W, (Instr.indexAt 38 (.slice A N c) (.int .i64 (f1 : Int))).run Tryz.prog W = .ok (.pointer (some ⟨b1, o1 + f1 * 10, none⟩)) W := fun W => idx_body EA.out hf1 W
          have ix2 : ∀ W, (Instr.indexAt 38 (.slice A N c) (.int .i64 (f2 : Int))).run Tryz.prog W = .ok (.pointer (some ⟨b1, o1 + f2 * 10, none⟩)) W := fun W => idx_body EA.out hf2 W
          have ixi := HIX.out
          have hf1' : f1 < l.length := by rw [← HN.out]; exact hf1
          have hf2' : f2 < l.length := by rw [← HN.out]; exact hf2
          obtain ⟨q0, q1, q2, q3, q4, q5, q6, q7, q8, q9⟩ := (HX.out f1 hf1').below HBW.out
          obtain ⟨r0, r1, r2, r3, r4, r5, r6, r7, r8, r9⟩ := (HX.out f2 hf2').below HBW.out
          have hLf1 := HL.out l[f1] (List.getElem_mem hf1')
          have hLf2 := HL.out l[f2] (List.getElem_mem hf2')
          have c0 : wr.cell? ⟨b2, o2 + m * 5, none⟩ = some (.int .u32 cs[m].lo) := hcell 0 _ rfl
          have c1 : wr.cell? ⟨b2, o2 + m * 5 + 1, none⟩ = some (.int .u32 cs[m].hi) := hcell 1 _ rfl
          have c2 : wr.cell? ⟨b2, o2 + m * 5 + 2, none⟩ = some (.int .i32 cs[m].nx) := hcell 2 _ rfl
          have c3 : wr.cell? ⟨b2, o2 + m * 5 + 3, none⟩ = some (.int .i32 cs[m].ny) := hcell 3 _ rfl
          have c4 : wr.cell? ⟨b2, o2 + m * 5 + 4, none⟩ = some (.int .i32 cs[m].dep) := hcell 4 _ rfl
          have F1 := Lib.hid fun W (hb : Below wr.heap.size wr W) => F1 _ W (HLV.out.below (HBW.out.trans (hb.mono hzw)))
          have F2 := Lib.hid fun W (hb : Below wr.heap.size wr W) => F2 _ W (HLV.out.below (HBW.out.trans (hb.mono hzw)))
          rw [← HN.out] at F1 F2
          clear hcell hlo hhi eB hk1 hk2
          generalize cs[m] = C at *
          generalize l[i] = I at *
          generalize l[f1] = P at *
          generalize l[f2] = Q at *
          clear hf1' hf2' hf1 hf2 ha1 ha2
          have hdep : I32 C.dep := hcf.dep
          have hPi := hLf1.inv
          have hQi := hLf2.inv
          have hIi : I32 I.inv := hLi.fit.inv
          obtain ⟨nx0, nx1⟩ := hcf.nx
          obtain ⟨ny0, ny1⟩ := hcf.ny
          clear hcf hLi hLf1 hLf2
          cases e1 : (C.lo != I.key)
          · have e3 : (C.lo == I.key) = true := by simpa using e1
            go_wp2_with fail
            refine wp_region_grow (by kernel_rfl) (by kernel_rfl) ?_
            repeat (first | go_big_quiet_skip | (go_big_quiet_want; go_big_quiet_op; first | go_big_quiet_on))
            refine wpQuiet_nil ?_
            rintro _ ⟨g1, rfl⟩
            have zz1 : wr.heap.size < g1.world.heap.size := Nat.lt_of_lt_of_le (by first | omega | (simp; done) | (simp; omega)) g1.le
            have zz2 : b1 < g1.world.heap.size := Nat.lt_of_lt_of_le (by first | omega | (simp; done) | (simp; omega)) g1.le
            have zz3 : SB < g1.world.heap.size := Nat.lt_of_lt_of_le (by first | omega | (simp; done) | (simp; omega)) g1.le
            go_wp2_with fail
            refine (F1.out _ (by repeat (first | with_reducible exact Below.refl _ _ | with_reducible refine bel_alloc ?_ _ | with_reducible refine bel_drewN ?_ _ | with_reducible refine bel_drew ?_ | with_reducible refine bel_grow ?_ _ | with_reducible refine bel_set ?_ (by first | omega | (simp; done) | (simp; omega)) _))).mono ?_
            rintro e w' ⟨rfl, rfl⟩
            go_wp2_with fail
            refine (F2.out _ (by repeat (first | with_reducible exact Below.refl _ _ | with_reducible refine bel_alloc ?_ _ | with_reducible refine bel_drewN ?_ _ | with_reducible refine bel_drew ?_ | with_reducible refine bel_grow ?_ _ | with_reducible refine bel_set ?_ (by first | omega | (simp; done) | (simp; omega)) _))).mono ?_
            rintro e w' ⟨rfl, rfl⟩
            go_wp2_with fail
            refine wp_region_grow (by kernel_rfl) (by kernel_rfl) ?_
            repeat (first | go_big_quiet_skip | (go_big_quiet_want; go_big_quiet_op; first | go_big_quiet_on | (go_big_quiet_call (first
                | (go_at_call 145; exact Calls.grow_of (refShare_x _ _ _ _ _ _ _ _ _ _ _ _ _ _ _ _ _ _ _ _ _ _ _ _ _ _ _ hdep hPi hQi hIi))))))
            refine wpQuiet_nil ?_
            rintro _ ⟨g3, rfl⟩
            generalize shareX C.dep P.inv Q.inv I.inv = sh at *
            have zz4 : wr.heap.size < g3.world.heap.size := Nat.lt_of_lt_of_le (by first | omega | (simp; done) | (simp; omega)) g3.le
            have zz5 : b1 < g3.world.heap.size := Nat.lt_of_lt_of_le (by first | omega | (simp; done) | (simp; omega)) g3.le
            have zz6 : SB < g3.world.heap.size := Nat.lt_of_lt_of_le (by first | omega | (simp; done) | (simp; omega)) g3.le
            go_wp2_with fail
            refine (refFloor_x _ _ _ (by decide)).mono ?_
            rintro e w' ⟨rfl, rfl⟩
            go_wp2_with fail
            refine (refFloor_x _ _ _ (by decide)).mono ?_
            rintro e w' ⟨rfl, rfl⟩
            go_wp2_with fail
            refine wp_region_grow (by kernel_rfl) (by kernel_rfl) ?_
            repeat (first | go_big_quiet_skip | (go_big_quiet_want; go_big_quiet_op; first | go_big_quiet_on))
            refine wpQuiet_nil ?_
            rintro _ ⟨g4, rfl⟩
            have hb4 : Below wr.heap.size wr g4.world := (by repeat (first | with_reducible exact Below.refl _ _ | with_reducible refine bel_alloc ?_ _ | with_reducible refine bel_drewN ?_ _ | with_reducible refine bel_drew ?_ | with_reducible refine bel_grow ?_ _ | with_reducible refine bel_set ?_ (by first | omega | (simp; done) | (simp; omega)) _))
            have kS := HK.out.below hb4 HK.out.lt
            have lS := kS.lt
            have fz : ∀ o, g4.world.frozen? ⟨SB, o, none⟩ = false := fun o => kS.froz o
            have kk7 : g4.world.cell? ⟨SB, 0, none⟩ = some (.int .i64 a) := kS.at 0 rfl
            have kk8 : g4.world.cell? ⟨SB, 1, none⟩ = some (.int .i64 b) := kS.at 1 rfl
            have HKS := Lib.hid kS
            have HB4 := Lib.hid (HBI.out.trans (hb4.mono hzi))
            clear kS hb4
            go_wp2_with fail
            go_roundw
            case rel => exact ⟨m + 1, _, _, by omega, by go_num, ((HKS.out.set 0 _).set 1 _).eq (by simp; exact ⟨rfl, rfl⟩), bel_set' (bel_set' HB4.out hSB _) hSB _⟩
            case measure => simp [intOf]; omega
          · cases e2 : (C.hi != I.key)
            · have e3 : (C.lo == I.key) = false := by simpa using e1
              go_wp2_with fail
              refine wp_region_grow (by kernel_rfl) (by kernel_rfl) ?_
              repeat (first | go_big_quiet_skip | (go_big_quiet_want; go_big_quiet_op; first | go_big_quiet_on))
              refine wpQuiet_nil ?_
              rintro _ ⟨g1, rfl⟩
              have zz9 : wr.heap.size < g1.world.heap.size := Nat.lt_of_lt_of_le (by first | omega | (simp; done) | (simp; omega)) g1.le
              have zz10 : b1 < g1.world.heap.size := Nat.lt_of_lt_of_le (by first | omega | (simp; done) | (simp; omega)) g1.le
              have zz11 : SB < g1.world.heap.size := Nat.lt_of_lt_of_le (by first | omega | (simp; done) | (simp; omega)) g1.le
              go_wp2_with fail
              refine (F1.out _ (by repeat (first | with_reducible exact Below.refl _ _ | with_reducible refine bel_alloc ?_ _ | with_reducible refine bel_drewN ?_ _ | with_reducible refine bel_drew ?_ | with_reducible refine bel_grow ?_ _ | with_reducible refine bel_set ?_ (by first | omega | (simp; done) | (simp; omega)) _))).mono ?_
              rintro e w' ⟨rfl, rfl⟩
              go_wp2_with fail
              refine (F2.out _ (by repeat (first | with_reducible exact Below.refl _ _ | with_reducible refine bel_alloc ?_ _ | with_reducible refine bel_drewN ?_ _ | with_reducible refine bel_drew ?_ | with_reducible refine bel_grow ?_ _ | with_reducible refine bel_set ?_ (by first | omega | (simp; done) | (simp; omega)) _))).mono ?_
              rintro e w' ⟨rfl, rfl⟩
              go_wp2_with fail
              refine wp_region_grow (by kernel_rfl) (by kernel_rfl) ?_
              repeat (first | go_big_quiet_skip | (go_big_quiet_want; go_big_quiet_op; first | go_big_quiet_on | (go_big_quiet_call (first
                  | (go_at_call 145; exact Calls.grow_of (refShare_x _ _ _ _ _ _ _ _ _ _ _ _ _ _ _ _ _ _ _ _ _ _ _ _ _ _ _ hdep hPi hQi hIi))))))
              refine wpQuiet_nil ?_
              rintro _ ⟨g3, rfl⟩
              generalize shareX C.dep P.inv Q.inv I.inv = sh at *
              have zz12 : wr.heap.size < g3.world.heap.size := Nat.lt_of_lt_of_le (by first | omega | (simp; done) | (simp; omega)) g3.le
              have zz13 : b1 < g3.world.heap.size := Nat.lt_of_lt_of_le (by first | omega | (simp; done) | (simp; omega)) g3.le
              have zz14 : SB < g3.world.heap.size := Nat.lt_of_lt_of_le (by first | omega | (simp; done) | (simp; omega)) g3.le
              go_wp2_with fail
              refine (refFloor_x _ _ _ (by decide)).mono ?_
              rintro e w' ⟨rfl, rfl⟩
              go_wp2_with fail
              refine (refFloor_x _ _ _ (by decide)).mono ?_
              rintro e w' ⟨rfl, rfl⟩
              go_wp2_with fail
              refine wp_region_grow (by kernel_rfl) (by kernel_rfl) ?_
              repeat (first | go_big_quiet_skip | (go_big_quiet_want; go_big_quiet_op; first | go_big_quiet_on))
              refine wpQuiet_nil ?_
              rintro _ ⟨g4, rfl⟩
              have hb4 : Below wr.heap.size wr g4.world := (by repeat (first | with_reducible exact Below.refl _ _ | with_reducible refine bel_alloc ?_ _ | with_reducible refine bel_drewN ?_ _ | with_reducible refine bel_drew ?_ | with_reducible refine bel_grow ?_ _ | with_reducible refine bel_set ?_ (by first | omega | (simp; done) | (simp; omega)) _))
              have kS := HK.out.below hb4 HK.out.lt
              have lS := kS.lt
              have fz : ∀ o, g4.world.frozen? ⟨SB, o, none⟩ = false := fun o => kS.froz o
              have kk15 : g4.world.cell? ⟨SB, 0, none⟩ = some (.int .i64 a) := kS.at 0 rfl
              have kk16 : g4.world.cell? ⟨SB, 1, none⟩ = some (.int .i64 b) := kS.at 1 rfl
              have HKS := Lib.hid kS
              have HB4 := Lib.hid (HBI.out.trans (hb4.mono hzi))
              clear kS hb4
              go_wp2_with fail
              go_roundw
              case rel => exact ⟨m + 1, _, _, by omega, by go_num, ((HKS.out.set 0 _).set 1 _).eq (by simp; exact ⟨rfl, rfl⟩), bel_set' (bel_set' HB4.out hSB _) hSB _⟩
              case measure => simp [intOf]; omega
            · go_wp2_with fail
              refine wp_region_grow (by kernel_rfl) (by kernel_rfl) ?_
              repeat (first | go_big_quiet_skip | (go_big_quiet_want; go_big_quiet_op; first | go_big_quiet_on))
              refine wpQuiet_nil ?_
              rintro _ ⟨g1, rfl⟩
              have hb4 : Below wr.heap.size wr g1.world := (by repeat (first | with_reducible exact Below.refl _ _ | with_reducible refine bel_alloc ?_ _ | with_reducible refine bel_drewN ?_ _ | with_reducible refine bel_drew ?_ | with_reducible refine bel_grow ?_ _ | with_reducible refine bel_set ?_ (by first | omega | (simp; done) | (simp; omega)) _))
              go_wp2_with fail
              go_roundw
              case rel => exact ⟨m + 1, a, b, by omega, by go_num, HK.out.below hb4 HK.out.lt, HBI.out.trans (hb4.mono hzi)⟩
              case measure => simp [intOf]; omega
        · have kS := HK.out
          have kk17 : wr.cell? ⟨SB, 0, none⟩ = some (.int .i64 a) := kS.at 0 rfl
          have kk18 : wr.cell? ⟨SB, 1, none⟩ = some (.int .i64 b) := kS.at 1 rfl
          clear kS
          have HO2 := Lib.hid (HO.out.below (by have h := HBI.out; rw [HSB.out] at h; exact h))
          have hs4 := HSL.out
          go_wp2_with (at_builtin; refine own_append shiftE w.heap.size rfl (.tmp 113) (.tmp 115) 169 209 _ 16 rfl Tryz.underlying169 rShiftInfo rfl (by decide) _ s (a, b) _ (by rfl) rfl (by first | rfl | simp [go_sem]) HO2.out HBW.out (by omega) (by omega) ?_; intro v1 w2 own1 bel1 gr1 sz1)
          go_roundw
          case rel => exact ⟨i + 1, _, by omega, by go_num, by simp; omega, own1, bel1⟩
          case measure => simp [intOf]; omega
    · go_wp2
      go_ret
      exact ⟨_, s, rfl, HO.out, by rw [HSL.out]; have := HN.out; omega, HBEL.out⟩
end Go.Proofs.YtnhaiecbjipodaaGreatDoor
/- The references' Round and Solve, without their numbers: nothing panics. -/
namespace Go.Proofs.YtnhaiecbjipodaaGreatDoor
open Go.RowKit
attribute [local go_sem] Grow.cell Grow.froz Grow.lt lt_s1 lt_s2 lt_s3 lt_s4 lt_s5
theorem Lax.vel {b : Body} (h : Lax b) {x y : Int} (hx : I32 x) (hy : I32 y) : Lax { b with vx := x, vy := y } :=
  ⟨⟨h.fit.key, h.fit.radius, h.fit.ax, h.fit.ay, h.fit.inv, h.fit.bounce, h.fit.px, h.fit.py, hx, hy⟩, h.inv⟩
theorem keys_snoc {l m : List Body} {k : Nat} (hk : k < l.length) {x : Body} (h : m.map Body.key = (l.take k).map Body.key) (hx : x.key = l[k].key) : (m ++ [x]).map Body.key = (l.take (k + 1)).map Body.key := by
  rw [List.map_append, h, List.take_succ_eq_append_getElem hk, List.map_append]
  simp [hx]
set_option maxRecDepth 100000 in
set_option maxHeartbeats 4000000 in
theorem refRound_lax (v : Value) (l : List Body) (vc : Value) (cs : List Con) (w : World) (hl : Reads bodyE w v l) (hr : Reads conE w vc cs) (hn : l.length ≤ 4096) (hL : ∀ b ∈ l, Lax b) (hC : ConsOk l cs) :
    Calls Tryz.prog 144 #[v, vc] w fun e w' => ∃ v' f l', e = .returned (.tuple #[v', .bool f]) ∧ Reads bodyE w' v' l' ∧ l'.map Body.key = l.map Body.key ∧ (∀ b ∈ l', Lax b) ∧ Below w.heap.size w w' := by
  have HSUM := Lib.hid fun (k : Nat) (s : Bool) W (hk : k < l.length) (hb : Below w.heap.size w W) => refSum_lax v l vc cs k s W (hl.below hb) (hr.below hb) hk hn hL hC
  obtain ⟨A, c, b1, o1, rfl, hA, hx⟩ := hl.bodies
  obtain ⟨B, d, b2, o2, rfl, _, _⟩ := hr.form
  obtain ⟨N, hN⟩ : ∃ N, N = l.length := ⟨_, rfl⟩
  obtain ⟨M, hM⟩ : ∃ M, M = cs.length := ⟨_, rfl⟩
  rw [← hN, ← hM] at HSUM
  rw [← hN, ← hM]
  have hN4 : N ≤ 4096 := by omega
  have HA := Lib.hid hA
  have HX := Lib.hid hx
  have HL := Lib.hid hL
  have HN := Lib.hid hN
  clear hl hr hA hx hL hC hN hM hn
  go_enter Tryz.func144, Tryz.ntmps144
  go_wp2
  go_loopw [6, 7, 8] (fun u f i wr => ∃ (k : Nat) (l' : List Body) (f' : Bool), k ≤ N ∧ i = .int .i64 k ∧ f = .bool f' ∧ l'.length ≤ k ∧ Own bodyE 27 wr w.heap.size u l' ∧ l'.map Body.key = (l.take k).map Body.key ∧ (∀ b ∈ l', Lax b) ∧ Below w.heap.size w wr) (fun _ _ i _ => N - (intOf i).toNat)
  case atStart => exact ⟨0, [], false, by omega, rfl, rfl, by simp, Own.nil _ _ _ _, rfl, (fun b hb => by cases hb), Below.refl _ _⟩
  case round =>
    obtain ⟨k, l', f, hk, rfl, rfl, hll, hown, hkeys, hlax, hbel⟩ := hrel
    have HO := Lib.hid hown
    have HK := Lib.hid hkeys
    have HLX := Lib.hid hlax
    have HB := Lib.hid hbel
    have hzw := hbel.size
    clear hown hkeys hlax hbel
    by_cases hlt : k < N
    · have hkl : k < l.length := by rw [← HN.out]; exact hlt
      obtain ⟨eA, zA⟩ := HA.out (by omega)
      have ix := fun w => idx_body (c := c) eA hkl w
      rw [← HN.out] at ix
      clear eA
      obtain ⟨q0, q1, q2, q3, q4, q5, q6, q7, q8, q9⟩ := (HX.out k hkl).below HB.out
      have hlb := HL.out l[k] (List.getElem_mem hkl)
      have zA' : b1 < wr.heap.size := Nat.lt_of_lt_of_le zA hzw
      have HS1 := Lib.hid fun W (hb : Below wr.heap.size wr W) => HSUM.out k false W hlt (HB.out.trans (hb.mono hzw))
      have HS2 := Lib.hid fun W (hb : Below wr.heap.size wr W) => HSUM.out k true W hlt (HB.out.trans (hb.mono hzw))
      have HKS := Lib.hid fun (x : Body) (h : x.key = l[k].key) => keys_snoc hkl HK.out h
      generalize l[k] = b at *
      clear hkl
      obtain ⟨x0, x1⟩ := hlb.fit.vx
      obtain ⟨y0, y1⟩ := hlb.fit.vy
      have HLB := Lib.hid hlb
      clear hlb
      have hK1 : ∀ W, Below wr.heap.size wr W → W.cell? ⟨b1, o1 + k * 10 + 8, none⟩ = some (.int .i32 b.vx) ∧ Below wr.heap.size wr W := fun W hb => ⟨(keepB hb b1 zA' _).trans q8, hb⟩
      have HK1 := Lib.hid hK1
      go_upto_region 6 with fail
      go_region_held3 (fun w' : World => w'.cell? ⟨b1, o1 + k * 10 + 8, none⟩ = some (.int .i32 b.vx) ∧ Below wr.heap.size wr w') (exact HK1.out _ (by repeat (first | with_reducible exact Below.refl _ _ | with_reducible refine bel_alloc ?_ _ | with_reducible refine bel_drewN ?_ _ | with_reducible refine bel_drew ?_ | with_reducible refine bel_grow ?_ _ | with_reducible refine bel_set ?_ (by first | omega | (simp; done) | (simp; omega)) _)))
        (first
          | (go_at_call 164; refine (HS1.out _ (by repeat (first | with_reducible exact Below.refl _ _ | with_reducible refine bel_alloc ?_ _ | with_reducible refine bel_drewN ?_ _ | with_reducible refine bel_drew ?_ | with_reducible refine bel_grow ?_ _ | with_reducible refine bel_set ?_ (by first | omega | (simp; done) | (simp; omega)) _))).mono ?_; rintro e w2 ⟨s1, rfl, hs1, hb1⟩; obtain ⟨g1, rfl⟩ := Grow.of hb1; clear hb1))
      go_upto_region 7 with fail
      have hK2 : ∀ W, Below wr.heap.size wr W → W.cell? ⟨b1, o1 + k * 10 + 9, none⟩ = some (.int .i32 b.vy) ∧ Below wr.heap.size wr W := fun W hb => ⟨(keepB hb b1 zA' _).trans q9, hb⟩
      have HK2 := Lib.hid hK2
      clear hs1 hK1 hK2
      go_region_held3 (fun w' : World => w'.cell? ⟨b1, o1 + k * 10 + 9, none⟩ = some (.int .i32 b.vy) ∧ Below wr.heap.size wr w') (exact HK2.out _ (by repeat (first | with_reducible exact Below.refl _ _ | with_reducible refine bel_alloc ?_ _ | with_reducible refine bel_drewN ?_ _ | with_reducible refine bel_drew ?_ | with_reducible refine bel_grow ?_ _ | with_reducible refine bel_set ?_ (by first | omega | (simp; done) | (simp; omega)) _)))
        (first
          | (go_at_call 164; refine (HS2.out _ (by repeat (first | with_reducible exact Below.refl _ _ | with_reducible refine bel_alloc ?_ _ | with_reducible refine bel_drewN ?_ _ | with_reducible refine bel_drew ?_ | with_reducible refine bel_grow ?_ _ | with_reducible refine bel_set ?_ (by first | omega | (simp; done) | (simp; omega)) _))).mono ?_; rintro e w2 ⟨s2, rfl, hs2, hb1⟩; obtain ⟨g2, rfl⟩ := Grow.of hb1; clear hb1))
      clear hs2
      have hbw2 : Below wr.heap.size wr g2.world := (by repeat (first | with_reducible exact Below.refl _ _ | with_reducible refine bel_alloc ?_ _ | with_reducible refine bel_drewN ?_ _ | with_reducible refine bel_drew ?_ | with_reducible refine bel_grow ?_ _ | with_reducible refine bel_set ?_ (by first | omega | (simp; done) | (simp; omega)) _))
      obtain ⟨r0, r1, r2, r3, r4, r5, r6, r7, r8, r9⟩ : TenAt g2.world b1 (o1 + k * 10) b := TenAt.below (w := wr) ⟨q0, q1, q2, q3, q4, q5, q6, q7, q8, q9⟩ hbw2
      have HB2 := Lib.hid (HB.out.trans (hbw2.mono hzw))
      have HO2 := Lib.hid (HO.out.below hbw2)
      have hz2 := hbw2.size
      have z2 : b1 < g2.world.heap.size := Nat.lt_of_lt_of_le zA' hz2
      clear q0 q1 q2 q3 q4 q5 q6 q7 q8 q9 hbw2 HK1 HK2 HS1 HS2
      generalize g2.world = W2 at *
      generalize IntKind.i64.wrap (IntKind.i64.wrap b.vx + s1) = X at *
      generalize IntKind.i64.wrap (IntKind.i64.wrap b.vy + s2) = Y at *
      obtain ⟨cx0, cx1⟩ := clampI_le (n := X) (l := 16777216) (by omega)
      obtain ⟨cy0, cy1⟩ := clampI_le (n := Y) (l := 16777216) (by omega)
      go_upto_region 10 with (go_at_call 143; refine (refLimit_any _ _ _ (by omega) (by omega)).mono ?_; rintro e w1 ⟨rfl, rfl⟩)
      cases f
      · cases e1 : (clampI X 16777216 != X)
        · cases e2 : (clampI Y 16777216 != Y)
          all_goals
            go_wp2_with (at_builtin; refine own_append bodyE w.heap.size rfl (.tmp 71) (.tmp 73) 38 27 _ 40 rfl Tryz.underlying38 bodyInfo rfl (by decide) _ l' { b with vx := clampI X 16777216, vy := clampI Y 16777216 } _ (by rfl) rfl (by first | rfl | simp [go_sem]) (HO2.out.alloc _) (bel_alloc HB2.out _) (by simp; omega) (by omega) ?_; intro v1 w2 own1 bel1 gr1 sz1)
            go_roundw
            case rel => exact ⟨k + 1, _, _, by omega, by go_num, rfl, by simp; omega, own1, HKS.out _ rfl, (fun x hx => by rcases List.mem_append.1 hx with h | h; exact HLX.out x h; rw [List.mem_singleton.1 h]; exact HLB.out.vel ⟨by omega, by omega⟩ ⟨by omega, by omega⟩), bel1⟩
            case measure => simp [intOf]; omega
        · skip
          go_wp2_with (at_builtin; refine own_append bodyE w.heap.size rfl (.tmp 71) (.tmp 73) 38 27 _ 40 rfl Tryz.underlying38 bodyInfo rfl (by decide) _ l' { b with vx := clampI X 16777216, vy := clampI Y 16777216 } _ (by rfl) rfl (by first | rfl | simp [go_sem]) (HO2.out.alloc _) (bel_alloc HB2.out _) (by simp; omega) (by omega) ?_; intro v1 w2 own1 bel1 gr1 sz1)
          go_roundw
          case rel => exact ⟨k + 1, _, _, by omega, by go_num, rfl, by simp; omega, own1, HKS.out _ rfl, (fun x hx => by rcases List.mem_append.1 hx with h | h; exact HLX.out x h; rw [List.mem_singleton.1 h]; exact HLB.out.vel ⟨by omega, by omega⟩ ⟨by omega, by omega⟩), bel1⟩
          case measure => simp [intOf]; omega
      · skip
        go_wp2_with (at_builtin; refine own_append bodyE w.heap.size rfl (.tmp 71) (.tmp 73) 38 27 _ 40 rfl Tryz.underlying38 bodyInfo rfl (by decide) _ l' { b with vx := clampI X 16777216, vy := clampI Y 16777216 } _ (by rfl) rfl (by first | rfl | simp [go_sem]) (HO2.out.alloc _) (bel_alloc HB2.out _) (by simp; omega) (by omega) ?_; intro v1 w2 own1 bel1 gr1 sz1)
        go_roundw
        case rel => exact ⟨k + 1, _, _, by omega, by go_num, rfl, by simp; omega, own1, HKS.out _ rfl, (fun x hx => by rcases List.mem_append.1 hx with h | h; exact HLX.out x h; rw [List.mem_singleton.1 h]; exact HLB.out.vel ⟨by omega, by omega⟩ ⟨by omega, by omega⟩), bel1⟩
        case measure => simp [intOf]; omega
    · have hkl : k = l.length := by rw [← HN.out]; omega
      have HKL := Lib.hid hkl
      clear hkl
      go_wp2
      go_ret2
      refine ⟨_, _, l', rfl, HO.out.reads (by omega), ?_, HLX.out, HB.out⟩
      have := HK.out
      rwa [HKL.out, List.take_length] at this
set_option maxRecDepth 100000 in
set_option maxHeartbeats 4000000 in
theorem refSolve_lax (v : Value) (l : List Body) (vc : Value) (cs : List Con) (w : World) (hl : Reads bodyE w v l) (hr : Reads conE w vc cs) (hn : l.length ≤ 4096) (hL : ∀ b ∈ l, Lax b) (hC : ConsOk l cs) :
    Calls Tryz.prog 100 #[v, vc] w fun e w' => ∃ v' f l', e = .returned (.tuple #[v', .bool f]) ∧ Reads bodyE w' v' l' ∧ l'.map Body.key = l.map Body.key ∧ (∀ b ∈ l', Lax b) ∧ Below w.heap.size w w' := by
  have HL := Lib.hid hl
  have HR := Lib.hid hr
  have HV := Lib.hid hL
  have HC := Lib.hid hC
  clear hl hr hL hC
  go_enter Tryz.func100, Tryz.ntmps100
  go_wp2
  go_loopw [0, 6, 7] (fun u f i wr => ∃ (k : Nat) (l' : List Body) (f' : Bool), k ≤ 4 ∧ i = .int .i64 k ∧ f = .bool f' ∧ Reads bodyE wr u l' ∧ l'.map Body.key = l.map Body.key ∧ (∀ b ∈ l', Lax b) ∧ Below w.heap.size w wr) (fun _ _ i _ => 4 - (intOf i).toNat)
  case atStart => exact ⟨0, l, false, by omega, rfl, rfl, HL.out, rfl, HV.out, Below.refl _ _⟩
  case round =>
    obtain ⟨k, l', f, hk, rfl, rfl, hu, hkeys, hlax, hB⟩ := hrel
    have hlen : l'.length = l.length := by have := congrArg List.length hkeys; simpa using this
    have HU := Lib.hid hu
    have HK := Lib.hid hkeys
    have HLX := Lib.hid hlax
    have HB := Lib.hid hB
    by_cases hlt : k < 4
    · have hlt' : (k : Int) < 4 := by omega
      have HRO := Lib.hid (refRound_lax u0 l' vc cs wr hu (HR.out.below hB) (by omega) hlax (HC.out.of_keys hkeys))
      clear hu hkeys hlax hB hlen
      go_wp2_with fail
      refine HRO.out.mono ?_
      rintro e w2 ⟨v2, f2, l2, rfl, h2, hk2, hl2, hb2⟩
      have H2 := Lib.hid (And.intro h2 (And.intro (hk2.trans HK.out) (And.intro hl2 (HB.out.trans (hb2.mono HB.out.size)))))
      clear h2 hk2 hl2 hb2 HRO
      cases f <;> cases f2
      all_goals
        go_wp2_with fail
        go_roundw
        case rel => exact ⟨k + 1, l2, _, by omega, by go_num, rfl, H2.out.1, H2.out.2.1, H2.out.2.2.1, H2.out.2.2.2⟩
        case measure => simp [intOf]; omega
    · clear hu hkeys hlax hB hlen
      go_wp2
      go_ret2
      exact ⟨_, _, l', rfl, HU.out, HK.out, HLX.out, HB.out⟩
end Go.Proofs.YtnhaiecbjipodaaGreatDoor
/- The references' Move and Step, without their numbers: nothing panics. -/
namespace Go.Proofs.YtnhaiecbjipodaaGreatDoor
open Go.RowKit
attribute [local go_sem] Grow.cell Grow.froz Grow.lt lt_s1 lt_s2 lt_s3 lt_s4 lt_s5
theorem refFloor_b (n d : Int) (w : World) (hd : d ≠ 0) :
    Calls Tryz.prog 118 #[.int .i64 n, .int .i64 d] w fun e w' => e = .returned (.int .i64 (floorX n d)) ∧ Below w.heap.size w w' :=
  (refFloor_x n d w hd).mono fun _ _ ⟨h, hw⟩ => ⟨h, by subst hw; exact Below.refl _ _⟩
theorem idx_rsh {A : Option Addr} {b off k len c : Nat} (hA : A = some ⟨b, off, none⟩) (hk : k < len) (w : World) :
    (Instr.indexAt 169 (.slice A len c) (.int .i64 (k : Int))).run Tryz.prog w = .ok (.pointer (some ⟨b, off + k * 2, none⟩)) w := by
  subst hA
  have hk' : (k : Int) < (len : Int) := by omega
  go_simp
set_option maxRecDepth 100000 in
set_option maxHeartbeats 4000000 in
theorem refMove_lax (v : Value) (l : List Body) (u : Value) (s : List (Int × Int)) (w : World) (hl : Reads bodyE w v l) (hu : Reads shiftE w u s) (hs : s.length = l.length) (hn : l.length ≤ 4096) (hL : ∀ b ∈ l, Lax b) :
    Calls Tryz.prog 101 #[v, u] w fun e w' => ∃ A n c f, e = .returned (.tuple #[.slice A n c, .bool f]) ∧ Below w.heap.size w w' := by
  obtain ⟨A, c, b1, o1, rfl, hA, hx⟩ := hl.bodies
  obtain ⟨B, d, b2, o2, rfl, hB, hy⟩ := hu.form
  obtain ⟨N, hN⟩ : ∃ N, N = l.length := ⟨_, rfl⟩
  rw [hs]
  rw [← hN]
  have hN4 : N ≤ 4096 := by omega
  have HA := Lib.hid hA
  have HX := Lib.hid hx
  have HB := Lib.hid hB
  have HY := Lib.hid hy
  have HL := Lib.hid hL
  have HN := Lib.hid hN
  have HS := Lib.hid hs
  clear hl hu hA hx hB hy hL hN hn hs
  go_enter Tryz.func101, Tryz.ntmps101
  go_wp2
  go_loopw [6, 7, 8] (fun u f i wr => ∃ (k : Nat) (l' : List Body) (f' : Bool), k ≤ N ∧ i = .int .i64 k ∧ f = .bool f' ∧ l'.length ≤ k ∧ Own bodyE 27 wr w.heap.size u l' ∧ Below w.heap.size w wr) (fun _ _ i _ => N - (intOf i).toNat)
  case atStart => exact ⟨0, [], false, by omega, rfl, rfl, by simp, Own.nil _ _ _ _, Below.refl _ _⟩
  case round =>
    obtain ⟨k, l', f, hk, rfl, rfl, hll, hown, hbel⟩ := hrel
    have HO := Lib.hid hown
    have HBL := Lib.hid hbel
    have hzw := hbel.size
    clear hown hbel
    by_cases hlt : k < N
    · have hkl : k < l.length := by rw [← HN.out]; exact hlt
      have hks : k < s.length := by rw [HS.out]; exact hkl
      obtain ⟨eA, zA⟩ := HA.out (by omega)
      obtain ⟨eB, zB⟩ := HB.out (by omega)
      have ix := fun w => idx_body (c := c) eA hlt w
      have ix2 := fun w => idx_rsh (c := d) eB hlt w
      clear eA eB
      obtain ⟨q0, q1, q2, q3, q4, q5, q6, q7, q8, q9⟩ := (HX.out k hkl).below HBL.out
      have t0 : wr.cell? ⟨b2, o2 + k * 2, none⟩ = some (.int .i64 s[k].1) := (keepB HBL.out b2 zB _).trans (HY.out k hks 0 _ rfl)
      have t1 : wr.cell? ⟨b2, o2 + k * 2 + 1, none⟩ = some (.int .i64 s[k].2) := (keepB HBL.out b2 zB _).trans (HY.out k hks 1 _ rfl)
      have hlb := HL.out l[k] (List.getElem_mem hkl)
      have zA' : b1 < wr.heap.size := Nat.lt_of_lt_of_le zA hzw
      have zB' : b2 < wr.heap.size := Nat.lt_of_lt_of_le zB hzw
      generalize l[k] = b at *
      generalize s[k] = sh at *
      clear hkl hks
      obtain ⟨px0, px1⟩ := hlb.fit.px
      obtain ⟨py0, py1⟩ := hlb.fit.py
      obtain ⟨x0, x1⟩ := hlb.fit.vx
      obtain ⟨y0, y1⟩ := hlb.fit.vy
      clear hlb
      go_upto_region 7 with fail
      refine wp_region_grow (by kernel_rfl) (by kernel_rfl) ?_
      repeat (first | go_big_quiet_skip | (go_big_quiet_want; go_big_quiet_op; first | go_big_quiet_on | (go_big_quiet_call (first
          | (go_at_call 118; exact Calls.grow_of (refFloor_b _ _ _ (by decide)))))))
      refine wpQuiet_nil ?_
      rintro _ ⟨g1, rfl⟩
      have zz1 : wr.heap.size < g1.world.heap.size := Nat.lt_of_lt_of_le (by first | omega | (simp; done) | (simp; omega)) g1.le
      have zz2 : b2 < g1.world.heap.size := Nat.lt_of_lt_of_le (by first | omega | (simp; done) | (simp; omega)) g1.le
      go_upto_region 8 with fail
      refine wp_region_grow (by kernel_rfl) (by kernel_rfl) ?_
      repeat (first | go_big_quiet_skip | (go_big_quiet_want; go_big_quiet_op; first | go_big_quiet_on | (go_big_quiet_call (first
          | (go_at_call 118; exact Calls.grow_of (refFloor_b _ _ _ (by decide)))))))
      refine wpQuiet_nil ?_
      rintro _ ⟨g2, rfl⟩
      have kT : CellsAt g2.world wr.heap.size b.arr 27 := (by repeat (first | with_reducible exact CellsAt.newAt (by first | rfl | (simp; done) | omega) rfl | with_reducible refine CellsAt.alloc ?_ _ | with_reducible refine CellsAt.drewN ?_ _ | with_reducible refine CellsAt.drew ?_ | with_reducible refine CellsAt.grow ?_ _ | with_reducible refine CellsAt.far ?_ (by first | omega | (simp; done) | (simp; omega)) _))
      have lT := kT.lt
      have fz : ∀ o, g2.world.frozen? ⟨wr.heap.size, o, none⟩ = false := fun o => kT.froz o
      have kk3 : g2.world.cell? ⟨wr.heap.size, 0, none⟩ = some (.int .u32 b.key) := kT.at 0 rfl
      have kk4 : g2.world.cell? ⟨wr.heap.size, 1, none⟩ = some (.int .i32 b.radius) := kT.at 1 rfl
      have kk5 : g2.world.cell? ⟨wr.heap.size, 2, none⟩ = some (.int .i32 b.ax) := kT.at 2 rfl
      have kk6 : g2.world.cell? ⟨wr.heap.size, 3, none⟩ = some (.int .i32 b.ay) := kT.at 3 rfl
      have kk7 : g2.world.cell? ⟨wr.heap.size, 4, none⟩ = some (.int .i32 b.inv) := kT.at 4 rfl
      have kk8 : g2.world.cell? ⟨wr.heap.size, 5, none⟩ = some (.int .i32 b.bounce) := kT.at 5 rfl
      have kk9 : g2.world.cell? ⟨wr.heap.size, 6, none⟩ = some (.int .i32 b.px) := kT.at 6 rfl
      have kk10 : g2.world.cell? ⟨wr.heap.size, 7, none⟩ = some (.int .i32 b.py) := kT.at 7 rfl
      have kk11 : g2.world.cell? ⟨wr.heap.size, 8, none⟩ = some (.int .i32 b.vx) := kT.at 8 rfl
      have kk12 : g2.world.cell? ⟨wr.heap.size, 9, none⟩ = some (.int .i32 b.vy) := kT.at 9 rfl
      generalize wrap64 (wrap64 (b.px + sh.fst) + floorX b.vx 64) = X at *
      generalize wrap64 (wrap64 (b.py + sh.snd) + floorX b.vy 64) = Y at *
      obtain ⟨cx0, cx1⟩ := clampI_le (n := X) (l := 1073741824) (by omega)
      obtain ⟨cy0, cy1⟩ := clampI_le (n := Y) (l := 1073741824) (by omega)
      have HKT := Lib.hid kT
      clear kT
      go_upto_region 10 with (go_at_call 143; refine (refLimit_any _ _ _ (by omega) (by omega)).mono ?_; rintro e w1 ⟨rfl, rfl⟩)
      have hbw : Below wr.heap.size wr ((g2.world.setCell ⟨wr.heap.size, 6, none⟩ (.int .i32 (clampI X 1073741824))).setCell ⟨wr.heap.size, 7, none⟩ (.int .i32 (clampI Y 1073741824))) := (by repeat (first | with_reducible exact Below.refl _ _ | with_reducible refine bel_alloc ?_ _ | with_reducible refine bel_drewN ?_ _ | with_reducible refine bel_drew ?_ | with_reducible refine bel_grow ?_ _ | with_reducible refine bel_set ?_ (by first | omega | (simp; done) | (simp; omega)) _))
      have kN : CellsAt ((g2.world.setCell ⟨wr.heap.size, 6, none⟩ (.int .i32 (clampI X 1073741824))).setCell ⟨wr.heap.size, 7, none⟩ (.int .i32 (clampI Y 1073741824))) wr.heap.size #[.int .u32 b.key, .int .i32 b.radius, .int .i32 b.ax, .int .i32 b.ay, .int .i32 b.inv, .int .i32 b.bounce, .int .i32 (clampI X 1073741824), .int .i32 (clampI Y 1073741824), .int .i32 b.vx, .int .i32 b.vy] 27 := ((HKT.out.set 6 _).set 7 _).eq (by simp)
      generalize (g2.world.setCell ⟨wr.heap.size, 6, none⟩ (.int .i32 (clampI X 1073741824))).setCell ⟨wr.heap.size, 7, none⟩ (.int .i32 (clampI Y 1073741824)) = W3 at *
      have HO3 := Lib.hid (HO.out.below hbw)
      have HB3 := Lib.hid (HBL.out.trans (hbw.mono hzw))
      have lN := kN.lt
      have kk13 : W3.cell? ⟨wr.heap.size, 0, none⟩ = some (.int .u32 b.key) := kN.at 0 rfl
      have kk14 : W3.cell? ⟨wr.heap.size, 1, none⟩ = some (.int .i32 b.radius) := kN.at 1 rfl
      have kk15 : W3.cell? ⟨wr.heap.size, 2, none⟩ = some (.int .i32 b.ax) := kN.at 2 rfl
      have kk16 : W3.cell? ⟨wr.heap.size, 3, none⟩ = some (.int .i32 b.ay) := kN.at 3 rfl
      have kk17 : W3.cell? ⟨wr.heap.size, 4, none⟩ = some (.int .i32 b.inv) := kN.at 4 rfl
      have kk18 : W3.cell? ⟨wr.heap.size, 5, none⟩ = some (.int .i32 b.bounce) := kN.at 5 rfl
      have kk19 : W3.cell? ⟨wr.heap.size, 6, none⟩ = some (.int .i32 (clampI X 1073741824)) := kN.at 6 rfl
      have kk20 : W3.cell? ⟨wr.heap.size, 7, none⟩ = some (.int .i32 (clampI Y 1073741824)) := kN.at 7 rfl
      have kk21 : W3.cell? ⟨wr.heap.size, 8, none⟩ = some (.int .i32 b.vx) := kN.at 8 rfl
      have kk22 : W3.cell? ⟨wr.heap.size, 9, none⟩ = some (.int .i32 b.vy) := kN.at 9 rfl
      clear kN hbw HKT
      cases f
      · cases e1 : (clampI X 1073741824 != X)
        · cases e2 : (clampI Y 1073741824 != Y)
          all_goals
            go_wp2_with (at_builtin; refine own_append bodyE w.heap.size rfl (.tmp 79) (.tmp 81) 38 27 _ 40 rfl Tryz.underlying38 bodyInfo rfl (by decide) _ l' { b with px := clampI X 1073741824, py := clampI Y 1073741824 } _ (by rfl) rfl (by first | rfl | simp [go_sem]) HO3.out HB3.out (by have := HB3.out.size; omega) (by omega) ?_; intro v1 w2 own1 bel1 gr1 sz1)
            go_roundw
            case rel => exact ⟨k + 1, _, _, by omega, by go_num, rfl, by simp; omega, own1, bel1⟩
            case measure => simp [intOf]; omega
        · skip
          go_wp2_with (at_builtin; refine own_append bodyE w.heap.size rfl (.tmp 79) (.tmp 81) 38 27 _ 40 rfl Tryz.underlying38 bodyInfo rfl (by decide) _ l' { b with px := clampI X 1073741824, py := clampI Y 1073741824 } _ (by rfl) rfl (by first | rfl | simp [go_sem]) HO3.out HB3.out (by have := HB3.out.size; omega) (by omega) ?_; intro v1 w2 own1 bel1 gr1 sz1)
          go_roundw
          case rel => exact ⟨k + 1, _, _, by omega, by go_num, rfl, by simp; omega, own1, bel1⟩
          case measure => simp [intOf]; omega
      · skip
        go_wp2_with (at_builtin; refine own_append bodyE w.heap.size rfl (.tmp 79) (.tmp 81) 38 27 _ 40 rfl Tryz.underlying38 bodyInfo rfl (by decide) _ l' { b with px := clampI X 1073741824, py := clampI Y 1073741824 } _ (by rfl) rfl (by first | rfl | simp [go_sem]) HO3.out HB3.out (by have := HB3.out.size; omega) (by omega) ?_; intro v1 w2 own1 bel1 gr1 sz1)
        go_roundw
        case rel => exact ⟨k + 1, _, _, by omega, by go_num, rfl, by simp; omega, own1, bel1⟩
        case measure => simp [intOf]; omega
    · obtain ⟨A9, c9, e9⟩ := HO.out.form
      subst e9
      go_wp2
      go_ret2
      exact ⟨_, _, _, _, rfl, HBL.out⟩
theorem refUnitI_bd (x y : Int) : I32 (refUnitI x y).1 ∧ I32 (refUnitI x y).2 := by
  unfold refUnitI I32
  split
  · simp
  · exact ⟨wrap32_bd _, wrap32_bd _⟩
theorem conR_fit (a b : Body) : (conR a b).Fit := by
  unfold conR
  split
  · exact ⟨(refUnitI_bd _ _).1, (refUnitI_bd _ _).2, wrap32_bd _⟩
  · exact ⟨by simp, by simp, by simp⟩
theorem mem_rowR {a : Body} {r : List Body} {c : Con} (h : c ∈ rowR a r) : ∃ b ∈ r, touchI a b = true ∧ c = conR a b := by
  unfold rowR at h
  obtain ⟨b, hb, rfl⟩ := List.mem_map.1 h
  obtain ⟨h1, h2⟩ := List.mem_filter.1 hb
  exact ⟨b, h1, h2, rfl⟩
theorem mem_allR : ∀ {l : List Body} {c : Con}, c ∈ allR l → ∃ a ∈ l, ∃ b ∈ l, touchI a b = true ∧ c = conR a b
  | [], c, h => by cases h
  | a :: r, c, h => by
    rcases List.mem_append.1 h with h | h
    · obtain ⟨b, hb, ht, rfl⟩ := mem_rowR h
      exact ⟨a, by simp, b, by simp [hb], ht, rfl⟩
    · obtain ⟨x, hx, b, hb, ht, rfl⟩ := mem_allR h
      exact ⟨x, by simp [hx], b, by simp [hb], ht, rfl⟩
theorem allR_ok {l : List Body} (hn : l.length ≤ 4096) : ConsOk l (allR l) := by
  refine ⟨fun c hc => ?_, ?_⟩
  · obtain ⟨a, ha, b, hb, ht, rfl⟩ := mem_allR hc
    obtain ⟨i, hi, e1⟩ := List.getElem_of_mem ha
    obtain ⟨j, hj, e2⟩ := List.getElem_of_mem hb
    refine ⟨conR_fit a b, i, j, hi, hj, ?_, ?_⟩
    · rw [e1]; unfold conR; rw [if_pos ht]
    · rw [e2]; unfold conR; rw [if_pos ht]
  · have := Nat.mul_le_mul hn hn
    have := allR_len l
    omega
theorem lax_of {b : Body} (hf : b.Fit) (h : errOf b = 0) : Lax b := by
  have := errOf_zero.1 h
  exact ⟨hf, by omega⟩
theorem lax_grav {b : Body} (h : Lax b) : Lax (gravB b) := by
  have := clampI_le (n := b.vy - 1024) (l := 16777216) (by omega)
  unfold gravB
  split
  · exact h
  · exact ⟨⟨h.fit.key, h.fit.radius, h.fit.ax, h.fit.ay, h.fit.inv, h.fit.bounce, h.fit.px, h.fit.py, h.fit.vx, (show I32 (clampI (b.vy - 1024) 16777216) from ⟨by omega, by omega⟩)⟩, h.inv⟩
theorem formB {w : World} {v : Value} {l : List Body} (h : Reads bodyE w v l) : ∃ A n c, v = .slice A n c := by
  obtain ⟨_, A, c, e, _⟩ := h
  exact ⟨A, _, c, e⟩
set_option maxRecDepth 100000 in
set_option maxHeartbeats 4000000 in
/-- The reference's step does not panic. -/
theorem refStep_lax (v : Value) (l : List Body) (w : World) (hl : Reads bodyE w v l) (hG : Good l) (hS : ∀ b ∈ l, b.Fit) :
    Calls Tryz.prog 67 #[v] w fun e w' => ∃ A n c m f, e = .returned (.tuple #[.slice A n c, .int .i64 m, .bool f]) ∧ Below w.heap.size w w' := by
  have hLx : ∀ b ∈ l, Lax b := fun b hb => lax_of (hS b hb) (hG.ok b hb)
  have hok := allR_ok hG.len
  have hAl := Nat.le_trans (allR_len l) (Nat.mul_le_mul hG.len hG.len)
  have HL := Lib.hid hl
  have HLX := Lib.hid hLx
  have HOK := Lib.hid hok
  have HA := Lib.hid fun W (hb : Below w.heap.size w W) => refAll_any v l W (hl.below hb) hG.len hG.asc fun b hb => placed_of (hG.ok b hb)
  have HGV := Lib.hid fun W (hb : Below w.heap.size w W) => refGravity_any v l W (hl.below hb) (by have := hG.len; omega) fun b hb => small_of (hG.ok b hb)
  have hkg : (l.map gravB).map Body.key = l.map Body.key := gravL_keys l
  have HKG := Lib.hid hkg
  have HLG := Lib.hid (show ∀ b ∈ l.map gravB, Lax b from fun b hb => by obtain ⟨x, hx, rfl⟩ := List.mem_map.1 hb; exact lax_grav (hLx x hx))
  have hn := hG.len
  obtain ⟨A, n0, c, rfl⟩ := formB hl
  clear hl hG hS hLx hok hkg
  go_enter Tryz.func67, Tryz.ntmps67
  go_wp2_with fail
  refine (HA.out _ (by repeat (first | with_reducible exact Below.refl _ _ | with_reducible refine bel_alloc ?_ _ | with_reducible refine bel_drewN ?_ _ | with_reducible refine bel_drew ?_ | with_reducible refine bel_grow ?_ _ | with_reducible refine bel_set ?_ (by first | omega | (simp; done) | (simp; omega)) _))).mono ?_
  rintro e w1 ⟨vc, rfl, h1, hb1⟩
  have hr1 := h1.reads (by omega)
  obtain ⟨A1, c1, eV⟩ := h1.form
  subst eV
  have HC := Lib.hid hr1
  have HB1 := Lib.hid hb1
  clear h1 hb1 hr1
  go_wp2_with fail
  refine (HGV.out _ HB1.out).mono ?_
  rintro e w2 ⟨vg, rfl, h2, hb2⟩
  have HC2 := Lib.hid (HC.out.below hb2)
  have HB2 := Lib.hid (HB1.out.trans (hb2.mono HB1.out.size))
  have HS := Lib.hid (refSolve_lax vg (l.map gravB) _ (allR l) w2 h2 HC2.out (by simpa using hn) HLG.out (HOK.out.of_keys HKG.out))
  obtain ⟨A2, n2, c2, rfl⟩ := formB h2
  clear h2 hb2
  go_wp2_with fail
  refine HS.out.mono ?_
  rintro e w3 ⟨vs, fs, ls, rfl, h3, hk3, hl3, hb3⟩
  have HC3 := Lib.hid (HC2.out.below hb3)
  have HB3 := Lib.hid (HB2.out.trans (hb3.mono HB2.out.size))
  have H3 := Lib.hid (And.intro h3 (And.intro (hk3.trans HKG.out) hl3))
  obtain ⟨A3, n3, c3, rfl⟩ := formB h3
  clear h3 hk3 hl3 hb3 HS
  go_wp2_with fail
  refine (refShifts_lax _ l _ (allR l) w3 (HL.out.below HB3.out) HC3.out hn HLX.out HOK.out).mono ?_
  rintro e w4 ⟨vh, sh, rfl, h4, hs4, hb4⟩
  have hlen3 : ls.length = l.length := by have := congrArg List.length H3.out.2.1; simpa using this
  have HB4 := Lib.hid (HB3.out.trans (hb4.mono HB3.out.size))
  have HM := Lib.hid (refMove_lax _ ls vh sh w4 (H3.out.1.below hb4) (h4.reads (by omega)) (by omega) (by omega) H3.out.2.2)
  obtain ⟨A4, c4, rfl⟩ := h4.form
  clear h4 hs4 hb4 hlen3
  go_wp2_with fail
  refine HM.out.mono ?_
  rintro e w5 ⟨A5, n5, c5, fm, rfl, hb5⟩
  have HB5 := Lib.hid (HB4.out.trans (hb5.mono HB4.out.size))
  clear hb5 HM
  generalize List.any l gravC = fg at *
  cases fg
  · cases fs
    · go_wp2_with fail
      exact bodyPost_ret (v := .tuple #[.slice A5 n5 c5, .int .i64 (((allR l).length : Nat) : Int), .bool fm]) (by simp [results, Tryz.results67, go_sem]) rfl ⟨_, _, _, _, _, rfl, HB5.out⟩
    · go_wp2_with fail
      exact bodyPost_ret (v := .tuple #[.slice A5 n5 c5, .int .i64 (((allR l).length : Nat) : Int), .bool true]) (by simp [results, Tryz.results67, go_sem]) rfl ⟨_, _, _, _, _, rfl, HB5.out⟩
  · go_wp2_with fail
    exact bodyPost_ret (v := .tuple #[.slice A5 n5 c5, .int .i64 (((allR l).length : Nat) : Int), .bool true]) (by simp [results, Tryz.results67, go_sem]) rfl ⟨_, _, _, _, _, rfl, HB5.out⟩
end Go.Proofs.YtnhaiecbjipodaaGreatDoor
/- The references' Remove, Push, impulse: their errors; nothing panics. -/
namespace Go.Proofs.YtnhaiecbjipodaaGreatDoor
open Go.RowKit
attribute [local go_sem] Grow.cell Grow.froz Grow.lt lt_s1 lt_s2 lt_s3 lt_s4 lt_s5
def errK (l : List Body) (k : Int) : Int := if findK l k 0 < 0 then 11 else 0
set_option maxHeartbeats 1000000 in
theorem refRemove_lax (v : Value) (l : List Body) (k : Int) (w : World) (hl : Reads bodyE w v l) (hn : l.length ≤ 1000000) :
    Calls Tryz.prog 65 #[v, .int .u32 k] w fun e w' => ∃ A n c, e = .returned (.tuple #[.slice A n c, .int .i64 (errK l k)]) ∧ Below w.heap.size w w' := by
  have HF := Lib.hid fun W (h : Reads bodyE W v l) => find_any v l k W h
  have HL := Lib.hid hl
  obtain ⟨A, n, c, rfl⟩ := formB hl
  have HP := Lib.hid (put_any (.slice A n c) l ⟨k, 0, 0, 0, 0, 0, 0, 0, 0, 0⟩ true w hl hn)
  unfold errK
  generalize findK l k 0 = x at *
  clear hl
  by_cases hx : x < 0
  · rw [if_pos hx]
    go_enter Tryz.func65, Tryz.ntmps65
    go_wp2_with fail
    refine (HF.out _ HL.out).mono ?_
    rintro e w' ⟨rfl, rfl⟩
    go_wp2_with fail
    go_ret2
    exact ⟨_, _, _, rfl, Below.refl _ _⟩
  · rw [if_neg hx]
    go_enter Tryz.func65, Tryz.ntmps65
    go_wp2_with fail
    refine (HF.out _ HL.out).mono ?_
    rintro e w' ⟨rfl, rfl⟩
    go_wp2_with fail
    refine HP.out.mono ?_
    rintro e w1 ⟨v1, rfl, h1, hb1⟩
    obtain ⟨A1, n1, c1, rfl⟩ := formB h1
    have HB1 := Lib.hid hb1
    clear h1 hb1
    go_wp2_with fail
    go_ret2
    exact ⟨_, _, _, rfl, HB1.out⟩
set_option maxHeartbeats 4000000 in
theorem refPush_lax (k r ax ay m o px py vx vy x y : Int) (w : World) (m0 : 0 ≤ m) (m1 : m ≤ 1048576) (v0 : -16777216 ≤ vx) (v1 : vx ≤ 16777216) (u0 : -16777216 ≤ vy) (u1 : vy ≤ 16777216) (x0 : -2147483648 ≤ x) (x1 : x ≤ 2147483647) (y0 : -2147483648 ≤ y) (y1 : y ≤ 2147483647) :
    Calls Tryz.prog 98 #[.agg #[.int .u32 k, .int .i32 r, .int .i32 ax, .int .i32 ay, .int .i32 m, .int .i32 o, .int .i32 px, .int .i32 py, .int .i32 vx, .int .i32 vy], .agg #[.int .i32 x, .int .i32 y]] w fun e w' => ∃ X Y f, e = .returned (.tuple #[.agg #[.int .u32 k, .int .i32 r, .int .i32 ax, .int .i32 ay, .int .i32 m, .int .i32 o, .int .i32 px, .int .i32 py, .int .i32 X, .int .i32 Y], .bool f]) ∧ Below w.heap.size w w' := by
  go_enter Tryz.func98, Tryz.ntmps98
  go_upto_region 1 with fail
  refine wp_region_grow (by kernel_rfl) (by kernel_rfl) ?_
  repeat (first | go_big_quiet_skip | (go_big_quiet_want; go_big_quiet_op; first | go_big_quiet_on | (go_big_quiet_call (first
      | (go_at_call 118; exact Calls.grow_of (refFloor_b _ _ _ (by decide)))))))
  refine wpQuiet_nil ?_
  rintro _ ⟨g1, rfl⟩
  have zz1 : w.heap.size < g1.world.heap.size := Nat.lt_of_lt_of_le (by first | omega | (simp; done) | (simp; omega)) g1.le
  have zz2 : w.heap.size + 1 < g1.world.heap.size := Nat.lt_of_lt_of_le (by first | omega | (simp; done) | (simp; omega)) g1.le
  go_upto_region 2 with fail
  refine wp_region_grow (by kernel_rfl) (by kernel_rfl) ?_
  repeat (first | go_big_quiet_skip | (go_big_quiet_want; go_big_quiet_op; first | go_big_quiet_on | (go_big_quiet_call (first
      | (go_at_call 118; exact Calls.grow_of (refFloor_b _ _ _ (by decide)))))))
  refine wpQuiet_nil ?_
  rintro _ ⟨g2, rfl⟩
  have zz3 : w.heap.size < g2.world.heap.size := Nat.lt_of_lt_of_le (by first | omega | (simp; done) | (simp; omega)) g2.le
  have zz4 : w.heap.size + 1 < g2.world.heap.size := Nat.lt_of_lt_of_le (by first | omega | (simp; done) | (simp; omega)) g2.le
  have kT : CellsAt g2.world w.heap.size #[.int .u32 k, .int .i32 r, .int .i32 ax, .int .i32 ay, .int .i32 m, .int .i32 o, .int .i32 px, .int .i32 py, .int .i32 vx, .int .i32 vy] 27 := (by repeat (first | with_reducible exact CellsAt.newAt (by first | rfl | (simp; done) | omega) rfl | with_reducible refine CellsAt.alloc ?_ _ | with_reducible refine CellsAt.drewN ?_ _ | with_reducible refine CellsAt.drew ?_ | with_reducible refine CellsAt.grow ?_ _ | with_reducible refine CellsAt.far ?_ (by first | omega | (simp; done) | (simp; omega)) _))
  have kR : CellsAt g2.world (w.heap.size + 1 + 1) #[.int .u32 0, .int .i32 0, .int .i32 0, .int .i32 0, .int .i32 0, .int .i32 0, .int .i32 0, .int .i32 0, .int .i32 0, .int .i32 0] 27 := (by repeat (first | with_reducible exact CellsAt.newAt (by first | rfl | (simp; done) | omega) rfl | with_reducible refine CellsAt.alloc ?_ _ | with_reducible refine CellsAt.drewN ?_ _ | with_reducible refine CellsAt.drew ?_ | with_reducible refine CellsAt.grow ?_ _ | with_reducible refine CellsAt.far ?_ (by first | omega | (simp; done) | (simp; omega)) _))
  have hb2 : Below w.heap.size w g2.world := (by repeat (first | with_reducible exact Below.refl _ _ | with_reducible refine bel_alloc ?_ _ | with_reducible refine bel_drewN ?_ _ | with_reducible refine bel_drew ?_ | with_reducible refine bel_grow ?_ _ | with_reducible refine bel_set ?_ (by first | omega | (simp; done) | (simp; omega)) _))
  have fz : ∀ o, g2.world.frozen? ⟨w.heap.size, o, none⟩ = false := fun o => kT.froz o
  have kk5 : g2.world.cell? ⟨w.heap.size, 0, none⟩ = some (.int .u32 k) := kT.at 0 rfl
  have kk6 : g2.world.cell? ⟨w.heap.size, 1, none⟩ = some (.int .i32 r) := kT.at 1 rfl
  have kk7 : g2.world.cell? ⟨w.heap.size, 2, none⟩ = some (.int .i32 ax) := kT.at 2 rfl
  have kk8 : g2.world.cell? ⟨w.heap.size, 3, none⟩ = some (.int .i32 ay) := kT.at 3 rfl
  have kk9 : g2.world.cell? ⟨w.heap.size, 4, none⟩ = some (.int .i32 m) := kT.at 4 rfl
  have kk10 : g2.world.cell? ⟨w.heap.size, 5, none⟩ = some (.int .i32 o) := kT.at 5 rfl
  have kk11 : g2.world.cell? ⟨w.heap.size, 6, none⟩ = some (.int .i32 px) := kT.at 6 rfl
  have kk12 : g2.world.cell? ⟨w.heap.size, 7, none⟩ = some (.int .i32 py) := kT.at 7 rfl
  have kk13 : g2.world.cell? ⟨w.heap.size, 8, none⟩ = some (.int .i32 vx) := kT.at 8 rfl
  have kk14 : g2.world.cell? ⟨w.heap.size, 9, none⟩ = some (.int .i32 vy) := kT.at 9 rfl
  generalize wrap64 (vx + floorX (wrap64 (x * m)) 65536) = X at *
  generalize wrap64 (vy + floorX (wrap64 (y * m)) 65536) = Y at *
  obtain ⟨cx0, cx1⟩ := clampI_le (n := X) (l := 16777216) (by omega)
  obtain ⟨cy0, cy1⟩ := clampI_le (n := Y) (l := 16777216) (by omega)
  have HKT := Lib.hid kT
  have HKR := Lib.hid kR
  clear kT kR
  go_upto_region 4 with (go_at_call 143; refine (refLimit_any _ _ _ (by omega) (by omega)).mono ?_; rintro e w1 ⟨rfl, rfl⟩)
  have kN : CellsAt ((g2.world.setCell ⟨w.heap.size, 8, none⟩ (.int .i32 (clampI X 16777216))).setCell ⟨w.heap.size, 9, none⟩ (.int .i32 (clampI Y 16777216))) w.heap.size #[.int .u32 k, .int .i32 r, .int .i32 ax, .int .i32 ay, .int .i32 m, .int .i32 o, .int .i32 px, .int .i32 py, .int .i32 (clampI X 16777216), .int .i32 (clampI Y 16777216)] 27 := ((HKT.out.set 8 _).set 9 _).eq (by simp)
  have kR3 : CellsAt ((g2.world.setCell ⟨w.heap.size, 8, none⟩ (.int .i32 (clampI X 16777216))).setCell ⟨w.heap.size, 9, none⟩ (.int .i32 (clampI Y 16777216))) (w.heap.size + 1 + 1) #[.int .u32 0, .int .i32 0, .int .i32 0, .int .i32 0, .int .i32 0, .int .i32 0, .int .i32 0, .int .i32 0, .int .i32 0, .int .i32 0] 27 := (HKR.out.far (by omega) _).far (by omega) _
  have hb3 : Below w.heap.size w ((g2.world.setCell ⟨w.heap.size, 8, none⟩ (.int .i32 (clampI X 16777216))).setCell ⟨w.heap.size, 9, none⟩ (.int .i32 (clampI Y 16777216))) := bel_set (bel_set hb2 (Nat.le_refl _) _) (Nat.le_refl _) _
  generalize (g2.world.setCell ⟨w.heap.size, 8, none⟩ (.int .i32 (clampI X 16777216))).setCell ⟨w.heap.size, 9, none⟩ (.int .i32 (clampI Y 16777216)) = W3 at *
  have lN := kN.lt
  have lR := kR3.lt
  have fr : ∀ o, W3.frozen? ⟨w.heap.size + 1 + 1, o, none⟩ = false := fun o => kR3.froz o
  have kk15 : W3.cell? ⟨(w.heap.size + 1 + 1), 0, none⟩ = some (.int .u32 0) := kR3.at 0 rfl
  have kk16 : W3.cell? ⟨(w.heap.size + 1 + 1), 1, none⟩ = some (.int .i32 0) := kR3.at 1 rfl
  have kk17 : W3.cell? ⟨(w.heap.size + 1 + 1), 2, none⟩ = some (.int .i32 0) := kR3.at 2 rfl
  have kk18 : W3.cell? ⟨(w.heap.size + 1 + 1), 3, none⟩ = some (.int .i32 0) := kR3.at 3 rfl
  have kk19 : W3.cell? ⟨(w.heap.size + 1 + 1), 4, none⟩ = some (.int .i32 0) := kR3.at 4 rfl
  have kk20 : W3.cell? ⟨(w.heap.size + 1 + 1), 5, none⟩ = some (.int .i32 0) := kR3.at 5 rfl
  have kk21 : W3.cell? ⟨(w.heap.size + 1 + 1), 6, none⟩ = some (.int .i32 0) := kR3.at 6 rfl
  have kk22 : W3.cell? ⟨(w.heap.size + 1 + 1), 7, none⟩ = some (.int .i32 0) := kR3.at 7 rfl
  have kk23 : W3.cell? ⟨(w.heap.size + 1 + 1), 8, none⟩ = some (.int .i32 0) := kR3.at 8 rfl
  have kk24 : W3.cell? ⟨(w.heap.size + 1 + 1), 9, none⟩ = some (.int .i32 0) := kR3.at 9 rfl
  have kk25 : W3.cell? ⟨w.heap.size, 0, none⟩ = some (.int .u32 k) := kN.at 0 rfl
  have kk26 : W3.cell? ⟨w.heap.size, 1, none⟩ = some (.int .i32 (r)) := kN.at 1 rfl
  have kk27 : W3.cell? ⟨w.heap.size, 2, none⟩ = some (.int .i32 (ax)) := kN.at 2 rfl
  have kk28 : W3.cell? ⟨w.heap.size, 3, none⟩ = some (.int .i32 (ay)) := kN.at 3 rfl
  have kk29 : W3.cell? ⟨w.heap.size, 4, none⟩ = some (.int .i32 (m)) := kN.at 4 rfl
  have kk30 : W3.cell? ⟨w.heap.size, 5, none⟩ = some (.int .i32 (o)) := kN.at 5 rfl
  have kk31 : W3.cell? ⟨w.heap.size, 6, none⟩ = some (.int .i32 (px)) := kN.at 6 rfl
  have kk32 : W3.cell? ⟨w.heap.size, 7, none⟩ = some (.int .i32 (py)) := kN.at 7 rfl
  have kk33 : W3.cell? ⟨w.heap.size, 8, none⟩ = some (.int .i32 (clampI X 16777216)) := kN.at 8 rfl
  have kk34 : W3.cell? ⟨w.heap.size, 9, none⟩ = some (.int .i32 (clampI Y 16777216)) := kN.at 9 rfl
  have HKN := Lib.hid kN
  have HKR3 := Lib.hid kR3
  have HB3 := Lib.hid hb3
  clear kN kR3 hb3 hb2 HKT HKR fz
  cases e1 : (clampI X 16777216 != X)
  · go_region
    all_goals
      go_wp2
      refine bodyPost_ret (v := .tuple #[.agg #[.int .u32 k, .int .i32 r, .int .i32 ax, .int .i32 ay, .int .i32 m, .int .i32 o, .int .i32 px, .int .i32 py, .int .i32 (clampI X 16777216), .int .i32 (clampI Y 16777216)], .bool (clampI Y 16777216 != Y)]) (ret_cells (w.heap.size + 1 + 1) #[.int .u32 k, .int .i32 r, .int .i32 ax, .int .i32 ay, .int .i32 m, .int .i32 o, .int .i32 px, .int .i32 py, .int .i32 (clampI X 16777216), .int .i32 (clampI Y 16777216)] 27 ?_ ?_) rfl ⟨_, _, _, rfl, ?_⟩
      · exact CellsAt.drew (((((((((((HKR3.out.set 0 _).set 1 _).set 2 _).set 3 _).set 4 _).set 5 _).set 6 _).set 7 _).set 8 _).set 9 _).eq (by simp))
      · intro W K
        have kk35 : W.cell? ⟨(w.heap.size + 1 + 1), 0, none⟩ = some (.int .u32 k) := K.at 0 rfl
        have kk36 : W.cell? ⟨(w.heap.size + 1 + 1), 1, none⟩ = some (.int .i32 (r)) := K.at 1 rfl
        have kk37 : W.cell? ⟨(w.heap.size + 1 + 1), 2, none⟩ = some (.int .i32 (ax)) := K.at 2 rfl
        have kk38 : W.cell? ⟨(w.heap.size + 1 + 1), 3, none⟩ = some (.int .i32 (ay)) := K.at 3 rfl
        have kk39 : W.cell? ⟨(w.heap.size + 1 + 1), 4, none⟩ = some (.int .i32 (m)) := K.at 4 rfl
        have kk40 : W.cell? ⟨(w.heap.size + 1 + 1), 5, none⟩ = some (.int .i32 (o)) := K.at 5 rfl
        have kk41 : W.cell? ⟨(w.heap.size + 1 + 1), 6, none⟩ = some (.int .i32 (px)) := K.at 6 rfl
        have kk42 : W.cell? ⟨(w.heap.size + 1 + 1), 7, none⟩ = some (.int .i32 (py)) := K.at 7 rfl
        have kk43 : W.cell? ⟨(w.heap.size + 1 + 1), 8, none⟩ = some (.int .i32 (clampI X 16777216)) := K.at 8 rfl
        have kk44 : W.cell? ⟨(w.heap.size + 1 + 1), 9, none⟩ = some (.int .i32 (clampI Y 16777216)) := K.at 9 rfl
        simp [results, Tryz.results98, go_sem, *]
      · repeat (first | with_reducible exact HB3.out | with_reducible refine bel_set ?_ (by omega) _ | with_reducible refine bel_drew ?_)
  · go_region
    all_goals
      go_wp2
      refine bodyPost_ret (v := .tuple #[.agg #[.int .u32 k, .int .i32 r, .int .i32 ax, .int .i32 ay, .int .i32 m, .int .i32 o, .int .i32 px, .int .i32 py, .int .i32 (clampI X 16777216), .int .i32 (clampI Y 16777216)], .bool (true)]) (ret_cells (w.heap.size + 1 + 1) #[.int .u32 k, .int .i32 r, .int .i32 ax, .int .i32 ay, .int .i32 m, .int .i32 o, .int .i32 px, .int .i32 py, .int .i32 (clampI X 16777216), .int .i32 (clampI Y 16777216)] 27 ?_ ?_) rfl ⟨_, _, _, rfl, ?_⟩
      · exact CellsAt.drew (((((((((((HKR3.out.set 0 _).set 1 _).set 2 _).set 3 _).set 4 _).set 5 _).set 6 _).set 7 _).set 8 _).set 9 _).eq (by simp))
      · intro W K
        have kk45 : W.cell? ⟨(w.heap.size + 1 + 1), 0, none⟩ = some (.int .u32 k) := K.at 0 rfl
        have kk46 : W.cell? ⟨(w.heap.size + 1 + 1), 1, none⟩ = some (.int .i32 (r)) := K.at 1 rfl
        have kk47 : W.cell? ⟨(w.heap.size + 1 + 1), 2, none⟩ = some (.int .i32 (ax)) := K.at 2 rfl
        have kk48 : W.cell? ⟨(w.heap.size + 1 + 1), 3, none⟩ = some (.int .i32 (ay)) := K.at 3 rfl
        have kk49 : W.cell? ⟨(w.heap.size + 1 + 1), 4, none⟩ = some (.int .i32 (m)) := K.at 4 rfl
        have kk50 : W.cell? ⟨(w.heap.size + 1 + 1), 5, none⟩ = some (.int .i32 (o)) := K.at 5 rfl
        have kk51 : W.cell? ⟨(w.heap.size + 1 + 1), 6, none⟩ = some (.int .i32 (px)) := K.at 6 rfl
        have kk52 : W.cell? ⟨(w.heap.size + 1 + 1), 7, none⟩ = some (.int .i32 (py)) := K.at 7 rfl
        have kk53 : W.cell? ⟨(w.heap.size + 1 + 1), 8, none⟩ = some (.int .i32 (clampI X 16777216)) := K.at 8 rfl
        have kk54 : W.cell? ⟨(w.heap.size + 1 + 1), 9, none⟩ = some (.int .i32 (clampI Y 16777216)) := K.at 9 rfl
        simp [results, Tryz.results98, go_sem, *]
      · repeat (first | with_reducible exact HB3.out | with_reducible refine bel_set ?_ (by omega) _ | with_reducible refine bel_drew ?_)
end Go.Proofs.YtnhaiecbjipodaaGreatDoor
/- The references' impulse: its error; nothing panics. -/
namespace Go.Proofs.YtnhaiecbjipodaaGreatDoor
open Go.RowKit
attribute [local go_sem] Grow.cell Grow.froz Grow.lt lt_s1 lt_s2 lt_s3 lt_s4 lt_s5
abbrev velB (b : Body) (X Y : Int) : Body := { b with vx := X, vy := Y }
theorem refPush_arr (b : Body) (x y : Int) (w : World) (hb : errOf b = 0) (hx : I32 x) (hy : I32 y) : Calls Tryz.prog 98 #[.agg b.arr, .agg #[.int .i32 x, .int .i32 y]] w fun e w' => ∃ X Y f, e = .returned (.tuple #[.agg (velB b X Y).arr, .bool f]) ∧ Below w.heap.size w w' := by
  obtain ⟨e1, e2, e3, e4, e5, e6⟩ := errOf_zero.1 hb
  exact refPush_lax b.key b.radius b.ax b.ay b.inv b.bounce b.px b.py b.vx b.vy x y w e3.1 e3.2 e6.1 e6.2.1 e6.2.2.1 e6.2.2.2 hx.1 hx.2 hy.1 hy.2
set_option maxRecDepth 100000 in
set_option maxHeartbeats 4000000 in
theorem refImp_lax (v : Value) (l : List Body) (k x y : Int) (w : World) (hl : Reads bodyE w v l) (hn : l.length ≤ 1000000) (hG : ∀ b ∈ l, errOf b = 0) (hx : I32 x) (hy : I32 y) :
    Calls Tryz.prog 66 #[v, .int .u32 k, .agg #[.int .i32 x, .int .i32 y]] w fun e w' => ∃ A n c, e = .returned (.tuple #[.slice A n c, .int .i64 (errK l k)]) ∧ Below w.heap.size w w' := by
  have HF := Lib.hid fun W (h : Reads bodyE W v l) => find_any v l k W h
  have HL := Lib.hid hl
  have HP := Lib.hid fun (b : Body) W (h : Reads bodyE W v l) => put_any v l b false W h hn
  obtain ⟨A, c, b1, o1, rfl, hA, hxx⟩ := hl.bodies
  have hr := findK_range l k 0
  unfold errK
  by_cases hlt : findK l k 0 < 0
  · rw [if_pos hlt]
    generalize findK l k 0 = r at *
    clear hl hA hxx hr
    go_enter Tryz.func66, Tryz.ntmps66
    go_wp2_with fail
    refine (HF.out _ (HL.out.alloc _)).mono ?_
    rintro e w' ⟨rfl, rfl⟩
    go_wp2_with fail
    go_ret2
    exact ⟨_, _, _, rfl, (by repeat (first | with_reducible exact Below.refl _ _ | with_reducible refine bel_alloc ?_ _ | with_reducible refine bel_drewN ?_ _ | with_reducible refine bel_drew ?_ | with_reducible refine bel_grow ?_ _ | with_reducible refine bel_set ?_ (by first | omega | (simp; done) | (simp; omega)) _))⟩
  · rw [if_neg hlt]
    obtain ⟨i, hi⟩ : ∃ i : Nat, findK l k 0 = (i : Int) := ⟨(findK l k 0).toNat, by omega⟩
    rw [hi] at HF
    have hil : i < l.length := by omega
    obtain ⟨eA, zA⟩ := hA (by omega)
    have ix : ∀ W, (Instr.indexAt 38 (.slice A l.length c) (.int .i64 (i : Int))).run Tryz.prog W = .ok (.pointer (some ⟨b1, o1 + i * 10, none⟩)) W := fun W => idx_body eA hil W
    obtain ⟨q0, q1, q2, q3, q4, q5, q6, q7, q8, q9⟩ := hxx i hil
    have HPU := Lib.hid fun W => refPush_arr l[i] x y W (hG l[i] (List.getElem_mem hil)) hx hy
    obtain ⟨N, hN⟩ : ∃ N, N = l.length := ⟨_, rfl⟩
    rw [← hN] at ix HF HL HP ⊢
    have hN2 : N ≤ 1000000 := by omega
    generalize l[i] = b at *
    obtain ⟨x0, x1⟩ := hx
    obtain ⟨y0, y1⟩ := hy
    have hiN : i < N := by omega
    clear hl hA hxx hr hlt hi eA hG hN hil hn
    have hK : ∀ W, Below (w.heap.size + 1) (w.alloc (.cells #[.int .i32 x, .int .i32 y] 25)) W → W.cell? ⟨b1, o1 + i * 10, none⟩ = some (.int .u32 b.key) ∧ W.cell? ⟨b1, o1 + i * 10 + 1, none⟩ = some (.int .i32 b.radius) ∧ W.cell? ⟨b1, o1 + i * 10 + 2, none⟩ = some (.int .i32 b.ax) ∧ W.cell? ⟨b1, o1 + i * 10 + 3, none⟩ = some (.int .i32 b.ay) ∧ W.cell? ⟨b1, o1 + i * 10 + 4, none⟩ = some (.int .i32 b.inv) ∧ W.cell? ⟨b1, o1 + i * 10 + 5, none⟩ = some (.int .i32 b.bounce) ∧ W.cell? ⟨b1, o1 + i * 10 + 6, none⟩ = some (.int .i32 b.px) ∧ W.cell? ⟨b1, o1 + i * 10 + 7, none⟩ = some (.int .i32 b.py) ∧ W.cell? ⟨b1, o1 + i * 10 + 8, none⟩ = some (.int .i32 b.vx) ∧ W.cell? ⟨b1, o1 + i * 10 + 9, none⟩ = some (.int .i32 b.vy) ∧ W.cell? ⟨w.heap.size, 0, none⟩ = some (.int .i32 x) ∧ W.cell? ⟨w.heap.size, 1, none⟩ = some (.int .i32 y) ∧ Below (w.heap.size + 1) (w.alloc (.cells #[.int .i32 x, .int .i32 y] 25)) W := fun W hb => by
      have h1 : Below w.heap.size w W := (new_ok _).trans (hb.mono (Nat.le_succ _))
      have h2 : CellsAt W w.heap.size #[.int .i32 x, .int .i32 y] 25 := CellsAt.below (CellsAt.newAt rfl rfl) hb (Nat.lt_succ_self _)
      exact ⟨(keepB h1 b1 zA _).trans q0, (keepB h1 b1 zA _).trans q1, (keepB h1 b1 zA _).trans q2, (keepB h1 b1 zA _).trans q3, (keepB h1 b1 zA _).trans q4, (keepB h1 b1 zA _).trans q5, (keepB h1 b1 zA _).trans q6, (keepB h1 b1 zA _).trans q7, (keepB h1 b1 zA _).trans q8, (keepB h1 b1 zA _).trans q9, h2.at 0 rfl, h2.at 1 rfl, hb⟩
    have HK := Lib.hid hK
    clear hK q0 q1 q2 q3 q4 q5 q6 q7 q8 q9
    go_enter Tryz.func66, Tryz.ntmps66
    go_wp2_with fail
    refine (HF.out _ (HL.out.alloc _)).mono ?_
    rintro e w' ⟨rfl, rfl⟩
    go_upto_region 4 with fail
    have hz1 : (w.alloc (.cells #[.int .i32 x, .int .i32 y] 25)).heap.size = w.heap.size + 1 := by simp
    obtain ⟨W1, hW1⟩ : ∃ W1, W1 = w.alloc (.cells #[.int .i32 x, .int .i32 y] 25) := ⟨_, rfl⟩
    have hb0 : Below w.heap.size w W1 := by rw [hW1]; exact new_ok _
    have HB0 := Lib.hid hb0
    rw [← hW1] at HK hz1 ⊢
    rw [← hz1] at HK
    clear hW1 hb0 hz1
    go_cut [9, 10] (fun p f wx => ∃ (P : Nat) (bb : Body) (g : Bool), p = .pointer (some ⟨P, 0, none⟩) ∧ f = .bool g ∧ CellsAt wx P bb.arr 27 ∧ Below W1.heap.size W1 wx)
    case first =>
      go_region_held3 (fun w' : World => w'.cell? ⟨b1, o1 + i * 10, none⟩ = some (.int .u32 b.key) ∧ w'.cell? ⟨b1, o1 + i * 10 + 1, none⟩ = some (.int .i32 b.radius) ∧ w'.cell? ⟨b1, o1 + i * 10 + 2, none⟩ = some (.int .i32 b.ax) ∧ w'.cell? ⟨b1, o1 + i * 10 + 3, none⟩ = some (.int .i32 b.ay) ∧ w'.cell? ⟨b1, o1 + i * 10 + 4, none⟩ = some (.int .i32 b.inv) ∧ w'.cell? ⟨b1, o1 + i * 10 + 5, none⟩ = some (.int .i32 b.bounce) ∧ w'.cell? ⟨b1, o1 + i * 10 + 6, none⟩ = some (.int .i32 b.px) ∧ w'.cell? ⟨b1, o1 + i * 10 + 7, none⟩ = some (.int .i32 b.py) ∧ w'.cell? ⟨b1, o1 + i * 10 + 8, none⟩ = some (.int .i32 b.vx) ∧ w'.cell? ⟨b1, o1 + i * 10 + 9, none⟩ = some (.int .i32 b.vy) ∧ w'.cell? ⟨w.heap.size, 0, none⟩ = some (.int .i32 x) ∧ w'.cell? ⟨w.heap.size, 1, none⟩ = some (.int .i32 y) ∧ Below W1.heap.size W1 w') (exact HK.out _ (by repeat (first | with_reducible exact Below.refl _ _ | with_reducible refine bel_alloc ?_ _ | with_reducible refine bel_drewN ?_ _ | with_reducible refine bel_drew ?_ | with_reducible refine bel_grow ?_ _ | with_reducible refine bel_set ?_ (by first | omega | (simp; done) | (simp; omega)) _)))
        (first
          | (go_at_call 98; refine (HPU.out _).mono ?_; rintro e w1 ⟨X, Y, f, rfl, hb1⟩; obtain ⟨g1, rfl⟩ := Grow.of hb1; clear hb1))
      all_goals
        go_wp2
        go_meet
        refine ⟨_, velB b X Y, f, rfl, rfl, ?_, (by repeat (first | with_reducible exact Below.refl _ _ | with_reducible refine bel_alloc ?_ _ | with_reducible refine bel_drewN ?_ _ | with_reducible refine bel_drew ?_ | with_reducible refine bel_grow ?_ _ | with_reducible refine bel_set ?_ (by first | omega | (simp; done) | (simp; omega)) _))⟩
        show CellsAt _ _ #[.int .u32 b.key, .int .i32 b.radius, .int .i32 b.ax, .int .i32 b.ay, .int .i32 b.inv, .int .i32 b.bounce, .int .i32 b.px, .int .i32 b.py, .int .i32 X, .int .i32 Y] _
        first
          | with_reducible exact CellsAt.new _ _ _
          | exact ((((((((((((by repeat (first | with_reducible exact CellsAt.newAt (by first | rfl | (simp; done) | omega) rfl | with_reducible refine CellsAt.alloc ?_ _ | with_reducible refine CellsAt.drewN ?_ _ | with_reducible refine CellsAt.drew ?_ | with_reducible refine CellsAt.grow ?_ _ | with_reducible refine CellsAt.far ?_ (by first | omega | (simp; done) | (simp; omega)) _)) : CellsAt g1.world W1.heap.size #[.int .u32 0, .int .i32 0, .int .i32 0, .int .i32 0, .int .i32 0, .int .i32 0, .int .i32 0, .int .i32 0, .int .i32 0, .int .i32 0] 27).set 0 _).set 1 _).set 2 _).set 3 _).set 4 _).set 5 _).set 6 _).set 7 _).set 8 _).set 9 _).eq (by simp)
    case rest =>
    obtain ⟨P, bb, g, rfl, rfl, hXc, hbx⟩ := hcut
    have lP := hXc.lt
    have kk1 : wc.cell? ⟨P, 0, none⟩ = some (.int .u32 bb.key) := hXc.at 0 rfl
    have kk2 : wc.cell? ⟨P, 1, none⟩ = some (.int .i32 bb.radius) := hXc.at 1 rfl
    have kk3 : wc.cell? ⟨P, 2, none⟩ = some (.int .i32 bb.ax) := hXc.at 2 rfl
    have kk4 : wc.cell? ⟨P, 3, none⟩ = some (.int .i32 bb.ay) := hXc.at 3 rfl
    have kk5 : wc.cell? ⟨P, 4, none⟩ = some (.int .i32 bb.inv) := hXc.at 4 rfl
    have kk6 : wc.cell? ⟨P, 5, none⟩ = some (.int .i32 bb.bounce) := hXc.at 5 rfl
    have kk7 : wc.cell? ⟨P, 6, none⟩ = some (.int .i32 bb.px) := hXc.at 6 rfl
    have kk8 : wc.cell? ⟨P, 7, none⟩ = some (.int .i32 bb.py) := hXc.at 7 rfl
    have kk9 : wc.cell? ⟨P, 8, none⟩ = some (.int .i32 bb.vx) := hXc.at 8 rfl
    have kk10 : wc.cell? ⟨P, 9, none⟩ = some (.int .i32 bb.vy) := hXc.at 9 rfl
    have hbw : Below w.heap.size w wc := HB0.out.trans (hbx.mono HB0.out.size)
    have HBW := Lib.hid hbw
    have HPT := Lib.hid (HP.out bb wc (HL.out.below hbw))
    clear hXc hbx hbw HK HPU
    go_wp2_with fail
    refine HPT.out.mono ?_
    rintro e w1 ⟨v1, rfl, h1, hb1⟩
    obtain ⟨A1, n1, c1, rfl⟩ := formB h1
    have HB1 := Lib.hid (HBW.out.trans (hb1.mono HBW.out.size))
    clear h1 hb1
    go_wp2_with fail
    go_ret2
    exact ⟨_, _, _, rfl, HB1.out⟩
end Go.Proofs.YtnhaiecbjipodaaGreatDoor
