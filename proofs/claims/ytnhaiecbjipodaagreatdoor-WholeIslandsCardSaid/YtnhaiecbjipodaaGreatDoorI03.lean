/- WholeIslands: the walk. -/
import Derived.Test.YtnhaiecbjipodaaGreatDoorI01
import Derived.Test.YtnhaiecbjipodaaGreatDoorI02
import Derived.Test.YtnhaiecbjipodaaGreatDoorB33
namespace Go.Proofs.YtnhaiecbjipodaaGreatDoor
open Go.RowKit Go.Shelf Go.Proofs Go.MapKept
attribute [local go_sem] Grow.cell Grow.froz Grow.lt lt_s1 lt_s2 lt_s3 lt_s4 lt_s5
attribute [local go_sem high] body_eq
def keptB (ks : List Int) (b : Body) : Bool := decide (b.inv = 0) || decide (b.key ∈ ks)
theorem eqB_same (b : Body) : eqB b b = true := by simp [eqB, eqV]
theorem idx_sls {A : Option Addr} {b off k len c : Nat} (hA : A = some ⟨b, off, none⟩) (hk : k < len) (w : World) :
    (Instr.indexAt 57 (.slice A len c) (.int .i64 (k : Int))).run Tryz.prog w = .ok (.pointer (some ⟨b, off + k, none⟩)) w := by
  subst hA
  have hk' : (k : Int) < (len : Int) := by omega
  go_simp
/-- What the law needs of the islands: any of them is closed. -/
theorem IslsAt.pick {w : World} {base : Nat} {l : List Body} {f : Nat → Bool} {u : Value} {ss : List SlD} (h : IslsAt w base l f u ss) {j : Nat} (hj : j < ss.length) (hs : ss.length ≤ 4096) :
    ∃ A c b off, u = .slice A ss.length c ∧ A = some ⟨b, off, none⟩ ∧ b < w.heap.size ∧ ∃ (S : Option Addr) (n d : Nat) (ks : List Int), w.cell? ⟨b, off + j, none⟩ = some (.slice S n d) ∧ Reads u32E w (.slice S n d) ks ∧ RowK l f ks := by
  obtain ⟨A, c, b, off, e, hA, hx⟩ := (h.1.reads (by omega)).form
  obtain ⟨e1, l1⟩ := hA (by omega)
  obtain ⟨ks, h1, h2, h3⟩ := h.2 ss[j] (List.getElem_mem hj)
  have h0 := hx j hj 0 (.slice ss[j].A ss[j].n ss[j].c) rfl
  rw [show slE.sz = 1 from rfl, Nat.mul_one, Nat.add_zero] at h0
  exact ⟨A, c, b, off, e, e1, l1, _, _, _, ks, h0, h1.reads (by omega), h3⟩
theorem keep_kp {l : List Body} (hs : Asc l) (ks : List Int) : l.filter (keptB ks) = subL (kpI l ks) l := by
  unfold subL
  exact List.filter_congr fun b hb => (kpI_body hs hb ks).symm
/-- What the two steps have in common. -/
theorem isl_step {l : List Body} {f : Nat → Bool} {ks : List Int} (hG : Good l) (hc : ClosW f l.length l.length) (he : EdgeW l f (allR l)) (hr : RowK l f ks) :
    stepL (l.filter (keptB ks)) = (stepL l).filter fun b => kpI l ks b.key := by
  obtain ⟨a, ha, hks⟩ := hr
  rw [keep_kp hG.asc]
  refine (step_sub (isl_shut hG.asc (fun b hb => ?_) ha hc he hks)).symm
  exact ((errOf_zero.1 (hG.ok b hb)).2.2.1).1
theorem keep_at {l : List Body} (hs : Asc l) (ks : List Int) {i : Nat} (hi : i < l.length) (hi' : i < (stepL l).length) : kpI l ks (stepL l)[i].key = keptB ks l[i] := by
  have e : (stepL l)[i].key = l[i].key := by
    have h := stepL_keys l
    have h1 : ((stepL l).map Body.key)[i]? = (l.map Body.key)[i]? := by rw [h]
    rw [List.getElem?_map, List.getElem?_map, List.getElem?_eq_getElem hi, List.getElem?_eq_getElem hi'] at h1
    simpa using h1
  rw [e, kpI_body hs (List.getElem_mem hi)]
  rfl
theorem remN {q n : Nat} : Int.tmod (q : Int) (n : Int) = ((q % n : Nat) : Int) := by
  rw [Int.tmod_eq_emod_of_nonneg (by omega)]
  omega
set_option maxRecDepth 100000 in
set_option maxHeartbeats 8000000 in
theorem wholeIsl_any (v0 : Value) (l0 : List Body) (q : Nat) (w : World) (hg : Glob w) (hl : Reads bodyE w v0 l0) (hq : q ≤ 255) :
    Calls Tryz.prog 5 #[v0, .int .u8 (q : Int)] w fun e w' => e = .returned (.bool true) ∧ Below w.heap.size w w' := by
  obtain ⟨lv, ok, hv⟩ : ∃ lv ok, viewL l0 = (lv, ok) := ⟨_, _, rfl⟩
  have HV := Lib.hid hv
  have HL := Lib.hid hl
  have HG := Lib.hid hg
  clear hl hv hg
  go_enter Tryz.func5, Tryz.ntmps5
  go_wp2_with fail
  refine (view_any _ l0 _ HL.out).mono ?_
  rintro e w1 ⟨v1, he, hr, hb⟩
  rw [HV.out] at he hr
  subst he
  obtain ⟨A, c, b1, o1, rfl, hA, hx⟩ := hr.bodies
  have HR1 := Lib.hid hr
  have HB1 := Lib.hid hb
  have HA := Lib.hid hA
  have HX := Lib.hid hx
  clear hr hb hA hx
  have hz1 := HB1.out.size
  go_wp2_with fail
  refine (awake28_any _ (HG.out.below HB1.out)).mono ?_
  rintro e w2 ⟨rfl, hb⟩
  have HB2 := Lib.hid (HB1.out.trans (hb.mono hz1))
  have HB12 := Lib.hid hb
  clear hb
  have hz2 := HB2.out.size
  have hz12 := HB12.out.size
  cases ok
  · go_wp2_with fail
    refine (awake28_any _ (HG.out.below HB2.out)).mono ?_
    rintro e w3 ⟨rfl, hb⟩
    have HB3 := Lib.hid (HB2.out.trans (hb.mono hz2))
    clear hb
    go_wp2
    go_ret
    exact ⟨rfl, HB3.out⟩
  · have hview : (viewL l0).2 = true := by rw [HV.out]
    have hGD := view_good hview
    have hln := (view_facts hview).2
    rw [HV.out] at hGD hln
    have hln : lv.length ≤ 40 := hln
    have HGD := Lib.hid hGD
    obtain ⟨N, hN⟩ : ∃ N, N = lv.length := ⟨_, rfl⟩
    have HN := Lib.hid hN
    have hN40 : N ≤ 40 := by omega
    have HALL := Lib.hid (refAll_any _ lv w2 (HR1.out.below HB12.out) (by omega) hGD.asc (fun b hb => placed_of (hGD.ok b hb)))
    have HALN := Lib.hid (show (allR lv).length ≤ 1600 from Nat.le_trans (allR_len lv) (Nat.mul_le_mul hln hln))
    rw [← hN] at HALL HR1 ⊢
    clear hview hGD hln hN
    go_wp2_with fail
    refine HALL.out.mono ?_
    rintro e w3 ⟨vc, rfl, ho, hb⟩
    have hvr := ho.reads (by have := HALN.out; omega)
    obtain ⟨A2, n2, c2, rfl⟩ := shape3 hvr
    have HB3 := Lib.hid (HB2.out.trans (hb.mono hz2))
    have HB13 := Lib.hid (HB12.out.trans (hb.mono hz12))
    have hz3 := HB3.out.size
    have hz13 := HB13.out.size
    have HISL := Lib.hid (isls_any _ lv _ (allR lv) w3 (by have := HR1.out.below HB13.out; rw [HN.out] at this; exact this) hvr (by have := HN.out; omega) HGD.out.asc (fun c hc => allR_keys hc) (by have := HALN.out; omega))
    rw [← HN.out] at HISL
    clear ho hb hvr HALL
    go_wp2_with fail
    refine HISL.out.mono ?_
    rintro e w4 ⟨u, f, ss, rfl, hI, hsl, hE, hCL, hb⟩
    have HB4 := Lib.hid (HB3.out.trans (hb.mono hz3))
    have HB14 := Lib.hid (HB13.out.trans (hb.mono hz13))
    have hz4 := HB4.out.size
    have hz14 := HB14.out.size
    clear hb HISL
    by_cases h0 : ss.length = 0
    · obtain ⟨A3, c3, rfl⟩ := hI.1.form
      have h1 : ((ss.length : Int) == 0) = true := by simp [h0]
      clear hI hE hCL hsl h0
      go_wp2
      go_ret
      exact ⟨rfl, HB4.out⟩
    · obtain ⟨A3, c3, b3, o3, rfl, e3, l3, S, n, d, ks, hcell, hks, hrow⟩ := hI.pick (j := q % ss.length) (Nat.mod_lt _ (by omega)) hsl
      have hst := isl_step HGD.out (by have := hCL; rwa [HN.out] at this) hE hrow
      have hnz : ((ss.length : Int) == 0) = false := by simp [h0]
      have hqn := remN (q := q) (n := ss.length)
      have hlt : q % ss.length < ss.length := Nat.mod_lt _ (by omega)
      subst e3
      have ix3 := fun w => idx_sls (A := some ⟨b3, o3, none⟩) (c := c3) rfl hlt w
      have HST := Lib.hid hst
      have HKS := Lib.hid hks
      clear hI hE hCL hrow hst hks
      obtain ⟨T, hT⟩ : ∃ T, T = ss.length := ⟨_, rfl⟩
      rw [← hT] at hlt hqn hnz ix3 h0 hsl ⊢
      obtain ⟨j, hj⟩ : ∃ j, j = q % T := ⟨_, rfl⟩
      rw [← hT, ← hj] at hcell
      rw [← hj] at hlt hqn ix3
      clear hT hj
      have wq : wrap64 (q : Int) = (q : Int) := IntWalk.wrap64_in _ (by omega)
      have hT0 : (T : Int) ≠ 0 := by omega
      go_upto_region 10 with fail
      have HRV := Lib.hid (HR1.out.below HB14.out)
      have HG4 := Lib.hid (HG.out.below HB4.out)
      clear hcell hqn ix3 wq hnz hT0 hlt
      go_loopw [9, 10] (fun u i wr => ∃ (k : Nat), k ≤ N ∧ i = .int .i64 k ∧ Own bodyE 27 wr w4.heap.size u ((lv.take k).filter (keptB ks)) ∧ Below w4.heap.size w4 wr) (fun _ i _ => N - (intOf i).toNat)
      case atStart => exact ⟨0, by omega, rfl, by rw [List.take_zero]; exact Own.nil _ _ _ _, Below.refl _ _⟩
      case round =>
        obtain ⟨k, hk, rfl, hO, hbel⟩ := hrel
        have HO := Lib.hid hO
        have HBEL := Lib.hid hbel
        have hzw := hbel.size
        clear hO hbel
        by_cases hlt : k < N
        · have hkl : k < lv.length := by rw [← HN.out]; exact hlt
          obtain ⟨eA, zA⟩ := HA.out (by omega)
          have ix : ∀ W, (Instr.indexAt 38 (.slice A N c) (.int .i64 (k : Int))).run Tryz.prog W = .ok (.pointer (some ⟨b1, o1 + k * 10, none⟩)) W := fun W => idx_body eA hlt W
          obtain ⟨q0, q1, q2, q3, q4, q5, q6, q7, q8, q9⟩ := ((HX.out k hkl).below HB14.out).below HBEL.out
          have HFT := Lib.hid (filter_take (p := keptB ks) hkl)
          have hlen : ((lv.take k).filter (keptB ks)).length ≤ 40 := Nat.le_trans (List.length_filter_le _ _) (by simp; omega)
          have HHAS := Lib.hid (has_any (.slice S n d) ks lv[k].key wr (HKS.out.below HBEL.out))
          clear eA
          generalize lv[k] = b at *
          obtain ⟨y0, y1, y2, y3, y4, y5, y6, y7, y8, y9⟩ := b
          by_cases hinv : y4 = 0
          · have hinv' : (y4 == 0) = true := by simpa using hinv
            have HKP := Lib.hid (show keptB ks ⟨y0, y1, y2, y3, y4, y5, y6, y7, y8, y9⟩ = true by simp [keptB, hinv])
            clear HHAS hinv
            go_wp2_with (at_builtin; refine own_append bodyE w4.heap.size rfl (.tmp 65) (.tmp 70) 38 27 _ 40 rfl Tryz.underlying38 bodyInfo rfl (by decide) _ ((lv.take k).filter (keptB ks)) ⟨y0, y1, y2, y3, y4, y5, y6, y7, y8, y9⟩ _ (by rfl) rfl (by first | rfl | simp [go_sem]) HO.out HBEL.out (by omega) (by omega) ?_; intro v1 w2 own1 bel1 gr1 sz1)
            have HO1 := Lib.hid own1
            have HB1' := Lib.hid bel1
            clear own1 bel1 gr1 sz1
            go_wp2
            go_roundw
            case rel => exact ⟨k + 1, by omega, by go_num, by rw [HFT.out, if_pos HKP.out]; exact HO1.out, HB1'.out⟩
            case measure => simp [intOf]; omega
          · have hinv' : (y4 == 0) = false := by simpa using hinv
            by_cases hmem : y0 ∈ ks
            · have HKP := Lib.hid (show keptB ks ⟨y0, y1, y2, y3, y4, y5, y6, y7, y8, y9⟩ = true by simp [keptB, hmem])
              rw [decide_eq_true hmem] at HHAS
              clear hinv hmem
              go_wp2_with fail
              refine HHAS.out.mono ?_
              rintro e w' ⟨rfl, rfl⟩
              go_wp2_with (at_builtin; refine own_append bodyE w4.heap.size rfl (.tmp 65) (.tmp 70) 38 27 _ 40 rfl Tryz.underlying38 bodyInfo rfl (by decide) _ ((lv.take k).filter (keptB ks)) ⟨y0, y1, y2, y3, y4, y5, y6, y7, y8, y9⟩ _ (by rfl) rfl (by first | rfl | simp [go_sem]) HO.out HBEL.out (by omega) (by omega) ?_; intro v1 w2 own1 bel1 gr1 sz1)
              have HO1 := Lib.hid own1
              have HB1' := Lib.hid bel1
              clear own1 bel1 gr1 sz1
              go_wp2
              go_roundw
              case rel => exact ⟨k + 1, by omega, by go_num, by rw [HFT.out, if_pos HKP.out]; exact HO1.out, HB1'.out⟩
              case measure => simp [intOf]; omega
            · have HKP := Lib.hid (show keptB ks ⟨y0, y1, y2, y3, y4, y5, y6, y7, y8, y9⟩ = false by simp [keptB, hmem, hinv])
              rw [decide_eq_false hmem] at HHAS
              clear hinv hmem
              go_wp2_with fail
              refine HHAS.out.mono ?_
              rintro e w' ⟨rfl, rfl⟩
              go_wp2
              go_roundw
              case rel => exact ⟨k + 1, by omega, by go_num, by rw [HFT.out, if_neg (by rw [HKP.out]; exact Bool.false_ne_true), List.append_nil]; exact HO.out, HBEL.out⟩
              case measure => simp [intOf]; omega
        · have hP : (lv.take k).filter (keptB ks) = lv.filter (keptB ks) := by rw [List.take_of_length_le (by have := HN.out; omega)]
          rw [hP] at HO
          obtain ⟨P, hPP⟩ : ∃ P, P = lv.filter (keptB ks) := ⟨_, rfl⟩
          have HGP := Lib.hid (good_sub HGD.out (keptB ks))
          rw [← hPP] at HO HST HGP
          have hPl : P.length ≤ N := by rw [hPP, HN.out]; exact List.length_filter_le _ _
          clear hP hPP
          have HSA := Lib.hid (step_any (.slice A N c) lv wr (HRV.out.below HBEL.out) HGD.out (HG4.out.below HBEL.out))
          have HRP := Lib.hid (HO.out.reads (by omega))
          obtain ⟨A6, c6, rfl⟩ := HO.out.form
          go_wp2_with fail
          refine HSA.out.mono ?_
          rintro e w5 ⟨va, rfl, hra, hb5, _⟩
          have HB5 := Lib.hid hb5
          have hz5 := hb5.size
          obtain ⟨A7, c7, b7, o7, rfl, hA7, hx7⟩ := hra.bodies
          have hal := stepL_len lv
          rw [hal, ← HN.out]
          have HA7 := Lib.hid hA7
          have HX7 := Lib.hid hx7
          clear hb5 hra hA7 hx7 HSA
          have HSB := Lib.hid (fun W (hb : Below w5.heap.size w5 W) => step_any (.slice A6 P.length c6) P W ((HRP.out.below HB5.out).below hb) HGP.out (((HG4.out.below HBEL.out).below HB5.out).below hb))
          go_wp2_with fail
          refine (HSB.out _ (by repeat (first | with_reducible exact Below.refl _ _ | with_reducible refine bel_alloc ?_ _ | with_reducible refine bel_drewN ?_ _ | with_reducible refine bel_drew ?_ | with_reducible refine bel_grow ?_ _ | with_reducible refine bel_set ?_ (by first | omega | (simp; done) | (simp; omega)) _))).mono ?_
          rintro e w6 ⟨vb, rfl, hrb, hb6, _⟩
          rw [HST.out] at hrb
          have hPL : ((stepL lv).filter fun b => kpI lv ks b.key).length = P.length := by rw [← HST.out, stepL_len]
          obtain ⟨A8, c8, b8, o8, rfl, hA8, hx8⟩ := hrb.bodies
          rw [hPL]
          have HPL := Lib.hid hPL
          have HA8 := Lib.hid hA8
          have HX8 := Lib.hid hx8
          have HB6 := Lib.hid ((show Below w5.heap.size w5 (w5.alloc (.cells #[.int .i64 (((candL lv).length : Nat) : Int), .int .i64 (((contactsL lv).length : Nat) : Int), .bool (flag3 lv)] 64)) from (by repeat (first | with_reducible exact Below.refl _ _ | with_reducible refine bel_alloc ?_ _ | with_reducible refine bel_drewN ?_ _ | with_reducible refine bel_drew ?_ | with_reducible refine bel_grow ?_ _ | with_reducible refine bel_set ?_ (by first | omega | (simp; done) | (simp; omega)) _))).trans (hb6.mono (by simp)))
          have hz6 := HB6.out.size
          have HB46 := Lib.hid (HBEL.out.trans ((HB5.out.trans (HB6.out.mono hz5)).mono hzw))
          have HB16 := Lib.hid (HB14.out.trans (HB46.out.mono hz14))
          have HBW6 := Lib.hid (HB4.out.trans (HB46.out.mono hz4))
          have hz46 := HB46.out.size
          have hz16 := HB16.out.size
          have hzw6 := HBW6.out.size
          clear hrb hA8 hx8 hPL hb6 HSB HRP HO HGP HRV HG4 hal
          go_wp2
          go_loopw [15, 16] (fun kk i wx => ∃ (m : Nat), m ≤ N ∧ i = .int .i64 m ∧ kk = .int .i64 (((((stepL lv).take m).filter fun b => kpI lv ks b.key).length : Nat) : Int) ∧ Below w6.heap.size w6 wx) (fun _ i _ => N - (intOf i).toNat)
          case atStart => exact ⟨0, by omega, rfl, by simp, (by repeat (first | with_reducible exact Below.refl _ _ | with_reducible refine bel_alloc ?_ _ | with_reducible refine bel_drewN ?_ _ | with_reducible refine bel_drew ?_ | with_reducible refine bel_grow ?_ _ | with_reducible refine bel_set ?_ (by first | omega | (simp; done) | (simp; omega)) _))⟩
          case round =>
            obtain ⟨m, hm, rfl, rfl, hbel2⟩ := hrel
            have HBEL2 := Lib.hid hbel2
            have hzm := hbel2.size
            clear hbel2
            by_cases hlt : m < N
            · have hml : m < lv.length := by rw [← HN.out]; exact hlt
              have hma : m < (stepL lv).length := by rw [stepL_len]; exact hml
              obtain ⟨eA, zA⟩ := HA.out (by omega)
              subst eA
              have ix : ∀ W, (Instr.indexAt 38 (.slice (some ⟨b1, o1, none⟩) N c) (.int .i64 (m : Int))).run Tryz.prog W = .ok (.pointer (some ⟨b1, o1 + m * 10, none⟩)) W := fun W => idx_body rfl hlt W
              obtain ⟨q0, _, _, _, q4, _, _, _, _, _⟩ := ((HX.out m hml).below HB16.out).below (HBEL2.out.mono (Nat.le_refl _))
              have HHAS := Lib.hid (has_any (.slice S n d) ks lv[m].key wr ((HKS.out.below HB46.out).below (HBEL2.out.mono (Nat.le_refl _))))
              have hkeep := keep_at HGD.out.asc ks hml hma
              have hft := filter_take (p := fun b => kpI lv ks b.key) hma
              obtain ⟨r, hr⟩ : ∃ r, r = (((stepL lv).take m).filter fun b => kpI lv ks b.key).length := ⟨_, rfl⟩
              by_cases hkp : keptB ks lv[m] = true
              · have hfa := filter_at (p := fun b => kpI lv ks b.key) hma (by show kpI lv ks (stepL lv)[m].key = true; rw [hkeep]; exact hkp)
                rw [← hr] at hfa
                obtain ⟨hr8, hre⟩ := List.getElem?_eq_some_iff.1 hfa
                have hrP : r < P.length := by rw [← HPL.out]; exact hr8
                rw [if_pos (by show kpI lv ks (stepL lv)[m].key = true; rw [hkeep]; exact hkp)] at hft
                have HFT := Lib.hid hft
                obtain ⟨e7, z7⟩ := HA7.out (by omega)
                subst e7
                obtain ⟨e8, z8⟩ := HA8.out (by omega)
                subst e8
                have ix7 : ∀ W, (Instr.indexAt 38 (.slice (some ⟨b7, o7, none⟩) N c7) (.int .i64 (m : Int))).run Tryz.prog W = .ok (.pointer (some ⟨b7, o7 + m * 10, none⟩)) W := fun W => idx_body rfl hlt W
                have ix8 : ∀ W, (Instr.indexAt 38 (.slice (some ⟨b8, o8, none⟩) P.length c8) (.int .i64 (r : Int))).run Tryz.prog W = .ok (.pointer (some ⟨b8, o8 + r * 10, none⟩)) W := fun W => idx_body rfl hrP W
                have t7 := ((HX7.out m hma).below HB6.out).below HBEL2.out
                have t8 := (HX8.out r hr8).below HBEL2.out
                rw [hre] at t8
                have z7' : b7 < wr.heap.size := by omega
                have z8' : b8 < wr.heap.size := by omega
                rw [← hr]
                clear hfa hre hft hkeep hr8
                generalize (stepL lv)[m] = Y at *
                obtain ⟨y0, y1, y2, y3, y4, y5, y6, y7, y8, y9⟩ := Y
                obtain ⟨s0, s1, s2, s3, s4, s5, s6, s7, s8, s9⟩ := t7
                obtain ⟨r0, r1, r2, r3, r4, r5, r6, r7, r8, r9⟩ := t8
                have hq : eqB ⟨y0, y1, y2, y3, y4, y5, y6, y7, y8, y9⟩ ⟨y0, y1, y2, y3, y4, y5, y6, y7, y8, y9⟩ = true := eqB_same _
                have HFT := Lib.hid (show (((stepL lv).take (m + 1)).filter fun b => kpI lv ks b.key).length = r + 1 by rw [HFT.out, List.length_append, List.length_singleton, hr])
                clear hr
                generalize lv[m] = X at *
                by_cases hinv : X.inv = 0
                · have hinv' : (X.inv == 0) = true := by simpa using hinv
                  clear hinv hkp HHAS
                  go_wp2_with fail
                  refine wp_region_grow (by kernel_rfl) (by kernel_rfl) ?_
                  repeat (first | go_big_quiet_skip | (go_big_quiet_want; go_big_quiet_op; first | go_big_quiet_on))
                  refine wpQuiet_nil ?_
                  rintro _ ⟨g, rfl⟩
                  go_wp2
                  go_roundw
                  case rel => exact ⟨m + 1, by omega, by go_num, by rw [HFT.out]; go_num, HBEL2.out.trans (Below.mono (by repeat (first | with_reducible exact Below.refl _ _ | with_reducible refine bel_alloc ?_ _ | with_reducible refine bel_drewN ?_ _ | with_reducible refine bel_drew ?_ | with_reducible refine bel_grow ?_ _ | with_reducible refine bel_set ?_ (by first | omega | (simp; done) | (simp; omega)) _)) hzm)⟩
                  case measure => simp [intOf]; omega
                · have hinv' : (X.inv == 0) = false := by simpa using hinv
                  have hmem : X.key ∈ ks := by simpa [keptB, hinv] using hkp
                  rw [decide_eq_true hmem] at HHAS
                  clear hinv hkp hmem
                  go_wp2_with fail
                  refine HHAS.out.mono ?_
                  rintro e w' ⟨rfl, rfl⟩
                  go_wp2_with fail
                  refine wp_region_grow (by kernel_rfl) (by kernel_rfl) ?_
                  repeat (first | go_big_quiet_skip | (go_big_quiet_want; go_big_quiet_op; first | go_big_quiet_on))
                  refine wpQuiet_nil ?_
                  rintro _ ⟨g, rfl⟩
                  go_wp2
                  go_roundw
                  case rel => exact ⟨m + 1, by omega, by go_num, by rw [HFT.out]; go_num, HBEL2.out.trans (Below.mono (by repeat (first | with_reducible exact Below.refl _ _ | with_reducible refine bel_alloc ?_ _ | with_reducible refine bel_drewN ?_ _ | with_reducible refine bel_drew ?_ | with_reducible refine bel_grow ?_ _ | with_reducible refine bel_set ?_ (by first | omega | (simp; done) | (simp; omega)) _)) hzm)⟩
                  case measure => simp [intOf]; omega
              · rw [if_neg (by show ¬ kpI lv ks (stepL lv)[m].key = true; rw [hkeep]; exact hkp), List.append_nil] at hft
                have HFT := Lib.hid (congrArg List.length hft)
                rw [← hr] at HFT ⊢
                clear hft hkeep hr
                generalize lv[m] = X at *
                have hinv : ¬ X.inv = 0 := fun h => hkp (by simp [keptB, h])
                have hmem : ¬ X.key ∈ ks := fun h => hkp (by simp [keptB, h])
                have hinv' : (X.inv == 0) = false := by simpa using hinv
                rw [decide_eq_false hmem] at HHAS
                clear hinv hkp hmem
                go_wp2_with fail
                refine HHAS.out.mono ?_
                rintro e w' ⟨rfl, rfl⟩
                go_wp2
                go_roundw
                case rel => exact ⟨m + 1, by omega, by go_num, by rw [HFT.out], HBEL2.out⟩
                case measure => simp [intOf]; omega
            · go_wp2
              go_ret
              exact ⟨rfl, HBW6.out.trans (HBEL2.out.mono hzw6)⟩
theorem wholeIsl_all (w : World) (hg : Glob w) (v0 : Value) (l0 : List Body) (hl : Reads bodyE w v0 l0) (_hf : ∀ a ∈ l0, a.Fit) (_hn : l0.length * 40 ≤ 140737488351232) (a : Int) (ha : (Lit.int .u8 a).wf = true) :
    Calls Tryz.prog 5 #[v0, .int .u8 a] w fun e w' => e = .returned (.bool true) ∧ Below w.heap.size w w' := by
  have h0 : (IntKind.u8.min ≤ a) ∧ (a ≤ IntKind.u8.max) := by simpa [Lit.wf] using ha
  have h1 : 0 ≤ a ∧ a ≤ 255 := h0
  obtain ⟨q, rfl⟩ := Int.eq_ofNat_of_zero_le h1.1
  exact wholeIsl_any v0 l0 q w hg hl (by omega)
end Go.Proofs.YtnhaiecbjipodaaGreatDoor
