/- Contracts of the program's functions, by walks, and plain facts beside them: Shifts, State, Parts, Step. -/
import Derived.Test.YtnhaiecbjipodaaGreatDoorB26
/- correct.Shifts. -/
namespace Go.Proofs.YtnhaiecbjipodaaGreatDoor
open Go.RowKit Go.Shelf Go.Proofs
attribute [local go_sem] Grow.cell Grow.froz Grow.lt lt_s1 lt_s2 lt_s3 lt_s4 lt_s5
def stepSh (l : List Body) (S : Int → Int × Int) (c : Con) : Int → Int × Int :=
  shS c (shareI c (bdOf l c.lo) (bdOf l c.hi) (bdOf l c.hi).inv) 1 (shS c (shareI c (bdOf l c.lo) (bdOf l c.hi) (bdOf l c.lo).inv) (-1) S c.lo) c.hi
def shiftF (l : List Body) (cs : List Con) : Int → Int × Int := cs.foldl (stepSh l) (fun _ => (0, 0))
def shiftsL (l : List Body) (cs : List Con) : List (Int × Int) := l.map fun b => shiftF l cs b.key
theorem run_makeSh (N : Nat) (hN : N ≤ 4096) (W : World) : (Instr.makeSlice 155 (.int .i64 (N : Int)) (.int .i64 (N : Int))).run Tryz.prog W = .ok (.slice (some ⟨W.heap.size, 0, none⟩) N N) (W.alloc (.cells (madeCells #[.int .i64 0, .int .i64 0] (N * 2)) 196)) := by
  obtain ⟨i0, hi, hz0, hz1, hz2⟩ := info_parts shiftInfo
  have := run_makeSlice (P := Tryz.prog) (w := W) 155 196 i0 (.agg #[.int .i64 0, .int .i64 0]) Tryz.underlying155 hi hz0 .i64 .i64 (N : Int) (N : Int) (by omega) (Int.le_refl _) (by rw [hz1]; simp; omega) (by rw [hz2]; omega) (by omega)
  rw [hz1] at this
  simp only [Int.toNat_natCast] at this
  exact this
theorem made_get (z : Array Value) (n p : Nat) (h : p < n) : (madeCells z n)[p]? = some z[p % z.size]! := by
  unfold madeCells
  rw [Array.getElem?_map, Array.getElem?_range, if_pos h]
  rfl
theorem zerosSh_own (W : World) (base N : Nat) (hb : base ≤ W.heap.size) (hN : N ≤ 4096) : Own shiftE 196 (W.alloc (.cells (madeCells #[.int .i64 0, .int .i64 0] (N * 2)) 196)) base (.slice (some ⟨W.heap.size, 0, none⟩) N N) (List.replicate N (0, 0)) := by
  have hg := heap_alloc_new W (.cells (madeCells #[.int .i64 0, .int .i64 0] (N * 2)) 196)
  have := own_of_at (E := shiftE) (t := 196) (l := List.replicate N (0, 0)) (cap := N) hg (by simp) (by simp [maxLen]; omega) (by rw [size_madeCells, show shiftE.sz = 2 from rfl]) (fun i hi j u hu => by
    have hj : j < 2 := by
      have := (List.getElem?_eq_some_iff.1 hu).1
      rwa [shiftE.len] at this
    simp at hi
    have hlt : i * 2 + j < N * 2 := by omega
    rw [show shiftE.sz = 2 from rfl]
    rw [made_get _ _ _ hlt]
    obtain rfl | rfl : j = 0 ∨ j = 1 := by omega
    all_goals
      simp [shiftE] at hu
      subst hu
      simp) base hb
  rw [List.length_replicate] at this
  exact this
set_option maxRecDepth 100000 in
set_option maxHeartbeats 4000000 in
theorem shifts_any (v : Value) (l : List Body) (vc : Value) (cs : List Con) (w : World) (hl : Reads bodyE w v l) (hr : Reads conE w vc cs) (hn : l.length ≤ 4096) (hs : Asc l) (hV : ∀ b ∈ l, Sound b) (hc : ConsOk l cs) :
    Calls Tryz.prog 83 #[v, vc] w fun e w' => ∃ v', e = .returned v' ∧ Own shiftE 196 w' w.heap.size v' (shiftsL l cs) ∧ Below w.heap.size w w' := by
  have HLv := Lib.hid hl
  obtain ⟨Av, cv, b1, o1, rfl, hA, hx⟩ := hl.bodies
  obtain ⟨A, c, b2, o2, rfl, hA2, hx2⟩ := hr.form
  obtain ⟨M, hM⟩ : ∃ M, M = cs.length := ⟨_, rfl⟩
  obtain ⟨N, hN⟩ : ∃ N, N = l.length := ⟨_, rfl⟩
  have hlM : M ≤ 100000000000 := by have := hc.len; omega
  have hlN : N ≤ 4096 := by omega
  have mk := fun W => run_makeSh N hlN W
  have HA := Lib.hid hA
  have HX := Lib.hid hx
  have HA2 := Lib.hid hA2
  have HX2 := Lib.hid hx2
  have HS := Lib.hid hs
  have HV := Lib.hid hV
  have HC := Lib.hid hc
  have HM := Lib.hid hM
  have HN := Lib.hid hN
  have HNL := Lib.hid hn
  rw [← hM, ← hN]
  clear hl hr hA hx hA2 hx2 hs hV hc hM hN hn
  go_enter Tryz.func83, Tryz.ntmps83
  go_wp2
  go_loopw [18] (fun i wr => ∃ (k : Nat), k ≤ M ∧ i = .int .i64 k ∧ OutAt wr (w.heap.size + 1) w.heap.size l ((cs.take k).foldl (stepSh l) (fun _ => (0, 0))) (.slice (some ⟨w.heap.size, 0, none⟩) N N) ∧ Below w.heap.size w wr) (fun i _ => M - (intOf i).toNat)
  case atStart =>
    refine ⟨0, by omega, rfl, ⟨?_, ?_⟩, (by repeat (first | with_reducible exact Below.refl _ _ | with_reducible refine bel_alloc ?_ _ | with_reducible refine bel_drewN ?_ _ | with_reducible refine bel_drew ?_ | with_reducible refine bel_grow ?_ _ | with_reducible refine bel_set ?_ (by first | omega | (simp; done) | (simp; omega)) _))⟩
    · have := CellsAt.new (w.alloc (.cells (madeCells #[.int .i64 0, .int .i64 0] (N * 2)) 196)) #[.slice (some ⟨w.heap.size, 0, none⟩) N N] 155
      simpa using this
    · have h1 := (zerosSh_own w w.heap.size N (Nat.le_refl _) hlN).alloc (.cells #[.slice (some ⟨w.heap.size, 0, none⟩) N N] 155)
      have h2 : (l.map fun b => ((fun _ : Int => ((0 : Int), (0 : Int))) b.key)) = List.replicate N (0, 0) := by rw [HN.out]; exact List.map_const'
      simp only [List.take_zero, List.foldl_nil]
      rw [h2]
      exact h1
  case round =>
    obtain ⟨k, hk, rfl, hO, hB⟩ := hrel
    have HO := Lib.hid hO
    have HB := Lib.hid hB
    have hor := hO.blk.lt
    clear hO hB mk
    by_cases hlt : k < M
    · have hkl : k < cs.length := by rw [← HM.out]; exact hlt
      obtain ⟨eA, zA⟩ := HA2.out (by omega)
      have ix : ∀ W, (Instr.indexAt 59 (.slice A M c) (.int .i64 (k : Int))).run Tryz.prog W = .ok (.pointer (some ⟨b2, o2 + k * 5, none⟩)) W := fun W => idx_con eA hlt W
      have hq : ∀ o u, (conE.cells cs[k])[o]? = some u → wr.cell? ⟨b2, o2 + k * 5 + o, none⟩ = some u := fun o u hu => (HB.out.cell (p := ⟨b2, o2 + k * 5 + o, none⟩) zA).trans (HX2.out k hkl o u hu)
      obtain ⟨hfit, i, j, hi, hj, hlo, hhi⟩ := HC.out.ok cs[k] (List.getElem_mem hkl)
      have hfold : (cs.take (k + 1)).foldl (stepSh l) (fun _ => (0, 0)) = stepSh l ((cs.take k).foldl (stepSh l) (fun _ => (0, 0))) cs[k] := by
        rw [List.take_succ_eq_append_getElem hkl, List.foldl_append]; rfl
      generalize cs[k] = x at hq hfit hlo hhi hfold
      have q0 : wr.cell? ⟨b2, o2 + k * 5, none⟩ = some (.int .u32 x.lo) := hq 0 _ rfl
      have q1 : wr.cell? ⟨b2, o2 + k * 5 + 1, none⟩ = some (.int .u32 x.hi) := hq 1 _ rfl
      have q2 : wr.cell? ⟨b2, o2 + k * 5 + 2, none⟩ = some (.int .i32 x.nx) := hq 2 _ rfl
      have q3 : wr.cell? ⟨b2, o2 + k * 5 + 3, none⟩ = some (.int .i32 x.ny) := hq 3 _ rfl
      have q4 : wr.cell? ⟨b2, o2 + k * 5 + 4, none⟩ = some (.int .i32 x.dep) := hq 4 _ rfl
      generalize (cs.take k).foldl (stepSh l) (fun _ => (0, 0)) = S at *
      have hbi : bdOf l x.lo = l[i] := by rw [hlo]; exact bdOf_mem HS.out.nodup (List.getElem_mem hi)
      have hbj : bdOf l x.hi = l[j] := by rw [hhi]; exact bdOf_mem HS.out.nodup (List.getElem_mem hj)
      have hstep : stepSh l S x = shS x (shareI x l[i] l[j] l[j].inv) 1 (shS x (shareI x l[i] l[j] l[i].inv) (-1) S l[i].key) l[j].key := by
        unfold stepSh
        rw [hbi, hbj, hlo, hhi]
      have sa := HV.out l[i] (List.getElem_mem hi)
      have sb := HV.out l[j] (List.getElem_mem hj)
      have hb1 := share_bd2 (a := l[i]) (b := l[j]) (inv := l[i].inv) hfit sa.inv.1 sb.inv.1 (.inl rfl)
      have hb2 := share_bd2 (a := l[i]) (b := l[j]) (inv := l[j].inv) hfit sa.inv.1 sb.inv.1 (.inr rfl)
      have HSL := fun W => share_any x l[i] l[j] false l[i].inv rfl W hfit sa sb
      have HSH := fun W => share_any x l[i] l[j] true l[j].inv rfl W hfit sa sb
      obtain ⟨s1, hs1⟩ : ∃ s, s = shareI x l[i] l[j] l[i].inv := ⟨_, rfl⟩
      obtain ⟨s2, hs2⟩ : ∃ s, s = shareI x l[i] l[j] l[j].inv := ⟨_, rfl⟩
      rw [← hs1] at HSL hb1 hstep
      rw [← hs2] at HSH hb2 hstep
      have HVF := fun W (hW : Reads bodyE W (.slice Av l.length cv) l) => viewFind_any (.slice Av l.length cv) l i W hW HNL.out HS.out hi x.lo hlo
      have HVG := fun W (hW : Reads bodyE W (.slice Av l.length cv) l) => viewFind_any (.slice Av l.length cv) l j W hW HNL.out HS.out hj x.hi hhi
      rw [← HN.out] at HVF HVG
      obtain ⟨eV, zV⟩ := HA.out (by omega)
      have hxi := ((HX.out i hi).below HB.out)
      have hxj := ((HX.out j hj).below HB.out)
      obtain ⟨a, ha⟩ : ∃ a, a = l[i] := ⟨_, rfl⟩
      obtain ⟨b, hb⟩ : ∃ b, b = l[j] := ⟨_, rfl⟩
      have ixi := fun W => idx_body (c := cv) eV hi W
      have ixj := fun W => idx_body (c := cv) eV hj W
      rw [← HN.out] at ixi ixj
      rw [← ha] at hxi HSL HSH
      rw [← hb] at hxj HSL HSH
      obtain ⟨r0, r1, r2, r3, r4, r5, r6, r7, r8, r9⟩ := hxi
      obtain ⟨t0, t1, t2, t3, t4, t5, t6, t7, t8, t9⟩ := hxj
      have zVr : b1 < wr.heap.size := Nat.lt_of_lt_of_le zV HB.out.size
      have HST := Lib.hid hstep
      have HF := Lib.hid hfold
      have HFI := Lib.hid hfit
      have HB1 := Lib.hid hb1
      have HB2 := Lib.hid hb2
      clear eA hq hfit hlo hhi hfold hbi hbj hstep sa sb hs1 hs2 eV ha hb hb1 hb2
      have HRD : ∀ W, Below wr.heap.size wr W → Reads bodyE W (.slice Av N cv) l := fun W hb => by rw [HN.out]; exact (HLv.out.below HB.out).below hb
      go_upto_region 6 with (go_at_call 129; refine (HVF _ (HRD _ (by repeat (first | with_reducible exact Below.refl _ _ | with_reducible refine bel_alloc ?_ _ | with_reducible refine bel_drewN ?_ _ | with_reducible refine bel_drew ?_ | with_reducible refine bel_grow ?_ _ | with_reducible refine bel_set ?_ (by first | omega | (simp; done) | (simp; omega)) _)))).mono ?_; rintro e w1 ⟨rfl, hb⟩; obtain ⟨g1, rfl⟩ := Grow.of hb; clear hb)
      have zz1 : wr.heap.size < g1.world.heap.size := Nat.lt_of_lt_of_le (by first | omega | (simp; done) | (simp; omega)) g1.le
      have zz2 : w.heap.size + 1 < g1.world.heap.size := Nat.lt_of_lt_of_le (by first | omega | (simp; done) | (simp; omega)) g1.le
      have zz3 : b1 < g1.world.heap.size := Nat.lt_of_lt_of_le (by first | omega | (simp; done) | (simp; omega)) g1.le
      go_upto_region 8 with (go_at_call 129; refine (HVG _ (HRD _ (by repeat (first | with_reducible exact Below.refl _ _ | with_reducible refine bel_alloc ?_ _ | with_reducible refine bel_drewN ?_ _ | with_reducible refine bel_drew ?_ | with_reducible refine bel_grow ?_ _ | with_reducible refine bel_set ?_ (by first | omega | (simp; done) | (simp; omega)) _)))).mono ?_; rintro e w1 ⟨rfl, hb⟩; obtain ⟨g2, rfl⟩ := Grow.of hb; clear hb)
      have zz4 : wr.heap.size < g2.world.heap.size := Nat.lt_of_lt_of_le (by first | omega | (simp; done) | (simp; omega)) g2.le
      have zz5 : w.heap.size + 1 < g2.world.heap.size := Nat.lt_of_lt_of_le (by first | omega | (simp; done) | (simp; omega)) g2.le
      have zz6 : b1 < g2.world.heap.size := Nat.lt_of_lt_of_le (by first | omega | (simp; done) | (simp; omega)) g2.le
      refine wp_region_grow_tail 12 (by kernel_rfl) (by kernel_rfl) ?_
      simp only [List.take_succ_cons, List.take_zero]
      repeat (first | go_big_quiet_skip | (go_big_quiet_want; go_big_quiet_op; first | go_big_quiet_on | (go_big_quiet_call (first
          | (go_at_call 131; exact Calls.grow_of (HSL _))))))
      refine wpQuiet_nil ?_
      rintro _ ⟨g3, rfl⟩
      simp only [List.drop_succ_cons, List.drop_zero]
      have zz7 : wr.heap.size < g3.world.heap.size := Nat.lt_of_lt_of_le (by first | omega | (simp; done) | (simp; omega)) g3.le
      have zz8 : w.heap.size + 1 < g3.world.heap.size := Nat.lt_of_lt_of_le (by first | omega | (simp; done) | (simp; omega)) g3.le
      have zz9 : b1 < g3.world.heap.size := Nat.lt_of_lt_of_le (by first | omega | (simp; done) | (simp; omega)) g3.le
      have hC3 : CellsAt g3.world wr.heap.size x.arr 100 := (by repeat (first | with_reducible exact CellsAt.newAt (by first | rfl | (simp; done) | omega) rfl | with_reducible refine CellsAt.alloc ?_ _ | with_reducible refine CellsAt.drewN ?_ _ | with_reducible refine CellsAt.drew ?_ | with_reducible refine CellsAt.grow ?_ _ | with_reducible refine CellsAt.far ?_ (by first | omega | (simp; done) | (simp; omega)) _))
      have hb3 : Below wr.heap.size wr g3.world := (by repeat (first | with_reducible exact Below.refl _ _ | with_reducible refine bel_alloc ?_ _ | with_reducible refine bel_drewN ?_ _ | with_reducible refine bel_drew ?_ | with_reducible refine bel_grow ?_ _ | with_reducible refine bel_set ?_ (by first | omega | (simp; done) | (simp; omega)) _))
      have HB3 := Lib.hid hb3
      have HC3 := Lib.hid hC3
      have HM1 := Lib.hid (shMove_any (w.heap.size + 1) wr.heap.size w.heap.size i l S (.slice (some ⟨w.heap.size, 0, none⟩) N N) x s1 (-1) g3.world (HO.out.below hb3) hC3 HS.out.nodup hi HFI.out HB1.out.1 HB1.out.2 (by omega) (by omega))
      have HRI : TenAt g3.world b1 (o1 + i * 10) a := TenAt.below ⟨r0, r1, r2, r3, r4, r5, r6, r7, r8, r9⟩ hb3
      have HRJ : TenAt g3.world b1 (o1 + j * 10) b := TenAt.below ⟨t0, t1, t2, t3, t4, t5, t6, t7, t8, t9⟩ hb3
      have HRI := Lib.hid HRI
      have HRJ := Lib.hid HRJ
      clear hb3 hC3 r0 r1 r2 r3 r4 r5 r6 r7 r8 r9 t0 t1 t2 t3 t4 t5 t6 t7 t8 t9 q0 q1 q2 q3 q4 HRD HVF HVG HSL
      go_wp2_with fail
      refine HM1.out.mono ?_
      rintro e w4 ⟨rfl, hO4, hA4⟩
      have hz4 := hA4.size
      have hb1w : ¬ Value.ownBlock (.slice (some ⟨w.heap.size, 0, none⟩) N N) = some b1 := fun e => by simp [Value.ownBlock] at e; omega
      have hcw : ¬ Value.ownBlock (.slice (some ⟨w.heap.size, 0, none⟩) N N) = some wr.heap.size := fun e => by simp [Value.ownBlock] at e; omega
      have hC4 : CellsAt w4 wr.heap.size x.arr 100 := HC3.out.of_block (hA4.block _ zz7 hcw)
      have kk10 : w4.cell? ⟨wr.heap.size, 0, none⟩ = some (.int .u32 x.lo) := hC4.at 0 rfl
      have kk11 : w4.cell? ⟨wr.heap.size, 1, none⟩ = some (.int .u32 x.hi) := hC4.at 1 rfl
      have kk12 : w4.cell? ⟨wr.heap.size, 2, none⟩ = some (.int .i32 x.nx) := hC4.at 2 rfl
      have kk13 : w4.cell? ⟨wr.heap.size, 3, none⟩ = some (.int .i32 x.ny) := hC4.at 3 rfl
      have kk14 : w4.cell? ⟨wr.heap.size, 4, none⟩ = some (.int .i32 x.dep) := hC4.at 4 rfl
      have y7 := Nat.lt_of_lt_of_le zz7 hz4
      have y8 := Nat.lt_of_lt_of_le zz8 hz4
      have y9 := Nat.lt_of_lt_of_le zz9 hz4
      have ten : ∀ o u, g3.world.cell? ⟨b1, o, none⟩ = some u → w4.cell? ⟨b1, o, none⟩ = some u := fun o u h => (hA4.cell zz9 hb1w).trans h
      obtain ⟨r0, r1, r2, r3, r4, r5, r6, r7, r8, r9⟩ := HRI.out
      obtain ⟨t0, t1, t2, t3, t4, t5, t6, t7, t8, t9⟩ := HRJ.out
      replace r0 := ten _ _ r0
      replace r1 := ten _ _ r1
      replace r2 := ten _ _ r2
      replace r3 := ten _ _ r3
      replace r4 := ten _ _ r4
      replace r5 := ten _ _ r5
      replace r6 := ten _ _ r6
      replace r7 := ten _ _ r7
      replace r8 := ten _ _ r8
      replace r9 := ten _ _ r9
      replace t0 := ten _ _ t0
      replace t1 := ten _ _ t1
      replace t2 := ten _ _ t2
      replace t3 := ten _ _ t3
      replace t4 := ten _ _ t4
      replace t5 := ten _ _ t5
      replace t6 := ten _ _ t6
      replace t7 := ten _ _ t7
      replace t8 := ten _ _ t8
      replace t9 := ten _ _ t9
      have HO4 := Lib.hid hO4
      have HA4 := Lib.hid hA4
      have HC4 := Lib.hid hC4
      clear hO4 hA4 hC4 ten zz1 zz2 zz3 zz4 zz5 zz6 zz7 zz8 zz9 hor zVr
      go_upto_region 9 with fail
      refine wp_region_grow_tail 12 (by kernel_rfl) (by kernel_rfl) ?_
      simp only [List.take_succ_cons, List.take_zero]
      repeat (first | go_big_quiet_skip | (go_big_quiet_want; go_big_quiet_op; first | go_big_quiet_on | (go_big_quiet_call (first
          | (go_at_call 131; exact Calls.grow_of (HSH _))))))
      refine wpQuiet_nil ?_
      rintro _ ⟨g5, rfl⟩
      simp only [List.drop_succ_cons, List.drop_zero]
      have hb5 : Below w4.heap.size w4 g5.world := (by repeat (first | with_reducible exact Below.refl _ _ | with_reducible refine bel_alloc ?_ _ | with_reducible refine bel_drewN ?_ _ | with_reducible refine bel_drew ?_ | with_reducible refine bel_grow ?_ _ | with_reducible refine bel_set ?_ (by first | omega | (simp; done) | (simp; omega)) _))
      have HB5 := Lib.hid hb5
      have HM2 := Lib.hid (shMove_any (w.heap.size + 1) wr.heap.size w.heap.size j l _ (.slice (some ⟨w.heap.size, 0, none⟩) N N) x s2 1 g5.world (HO4.out.below hb5) (HC4.out.below hb5 y7) HS.out.nodup hj HFI.out HB2.out.1 HB2.out.2 (by omega) (by omega))
      clear hb5
      go_wp2_with fail
      refine HM2.out.mono ?_
      rintro e w6 ⟨rfl, h6⟩
      have H6 := Lib.hid h6
      clear h6 r0 r1 r2 r3 r4 r5 r6 r7 r8 r9 t0 t1 t2 t3 t4 t5 t6 t7 t8 t9
      go_wp2
      go_roundw
      case rel =>
        obtain ⟨h6a, h6b⟩ := H6.out
        have nb : ∀ k, k < w.heap.size → ¬ Value.ownBlock (.slice (some ⟨w.heap.size, 0, none⟩) N N) = some k := fun k hk e => by simp [Value.ownBlock] at e; omega
        have k0 := HB.out.size
        have k3 := HB3.out.size
        have k4 := HA4.out.size
        have k5 := HB5.out.size
        exact ⟨k + 1, by omega, by go_num, by rw [HF.out, HST.out]; exact h6a, HB.out.trans ((HB3.out.mono (by omega)).trans ((HA4.out.below (by omega) nb).trans ((HB5.out.mono (by omega)).trans (h6b.below (by omega) nb))))⟩
      case measure => simp [intOf]; omega
    · have hkl : k = cs.length := by rw [← HM.out]; omega
      have HK := Lib.hid hkl
      have o1 : wr.cell? ⟨w.heap.size + 1, 0, none⟩ = some (.slice (some ⟨w.heap.size, 0, none⟩) N N) := HO.out.blk.at 0 rfl
      clear hkl
      go_wp2
      go_ret
      have := HO.out.own
      rw [HK.out, List.take_length] at this
      exact ⟨_, rfl, this, HB.out⟩
end Go.Proofs.YtnhaiecbjipodaaGreatDoor
/- The state of a step in memory; its method use. -/
namespace Go.Proofs.YtnhaiecbjipodaaGreatDoor
open Go.RowKit Go.Shelf Go.Proofs
attribute [local go_sem] Grow.cell Grow.froz Grow.lt lt_s1 lt_s2 lt_s3 lt_s4 lt_s5
/-- Rows of structs whose first cell is a key do not lie in a block without keys. -/
theorem Reads.past {α : Type} {E : Enc α} {w w' : World} {v : Value} {l : List α} {p : Nat} {cs : Array Value} {t : TypeId} (h : Reads E w v l) (hE : ∀ a, ∃ k, (E.cells a)[0]? = some (.int .u32 k)) (hp : CellsAt w p cs t) (hcs : ∀ u ∈ cs.toList, ∀ k, u ≠ .int .u32 k) (ha : Alter (fun k => k = p) w w') : Reads E w' v l := by
  by_cases hl : 0 < l.length
  · refine ha.reads h fun b hb e => ?_
    subst e
    obtain ⟨h1, A, c, rfl, h3⟩ := h
    obtain ⟨b', off, rfl, hc⟩ := h3 0 l[0] (List.getElem?_eq_getElem hl)
    simp [Value.ownBlock] at hb
    subst hb
    obtain ⟨k, hk⟩ := hE l[0]
    have := hc 0 _ hk
    unfold CellsAt at hp
    simp only [World.cell?, hp] at this
    have hm := Array.mem_of_getElem? this
    exact hcs _ (by simpa using hm) k rfl
  · obtain rfl : l = [] := List.eq_nil_of_length_eq_zero (by omega)
    obtain ⟨h1, A, c, rfl, _⟩ := h
    exact ⟨h1, A, c, rfl, fun i a ha => by simp at ha⟩
theorem bodyE_key (b : Body) : ∃ k, (bodyE.cells b)[0]? = some (.int .u32 k) := ⟨b.key, rfl⟩
theorem conE_key (c : Con) : ∃ k, (conE.cells c)[0]? = some (.int .u32 k) := ⟨c.lo, rfl⟩
theorem shape_reads {α : Type} {E : Enc α} {w : World} {v : Value} {l : List α} (h : Reads E w v l) : ∃ A c, v = .slice A l.length c := by
  obtain ⟨_, A, c, rfl, _⟩ := h
  exact ⟨A, c, rfl⟩
abbrev stateC (vb v lv : Value) (t n : Int) (f : Bool) : Array Value := #[vb, v, lv, .int .i64 t, .int .i64 n, .bool f]
theorem state_no {A1 A2 A3 : Option Addr} {n1 n2 n3 c1 c2 c3 : Nat} {t n : Int} {f : Bool} : ∀ u ∈ (stateC (.slice A1 n1 c1) (.slice A2 n2 c2) (.slice A3 n3 c3) t n f).toList, ∀ k, u ≠ .int .u32 k := by
  intro u hu k
  simp at hu
  rcases hu with rfl | rfl | rfl | rfl | rfl | rfl <;> simp
set_option maxHeartbeats 1000000 in
theorem use_any (p : Nat) (A1 A2 A3 A4 : Option Addr) (n1 n2 n3 n4 c1 c2 c3 c4 : Nat) (t n : Int) (f c : Bool) (w : World) (h : CellsAt w p (stateC (.slice A1 n1 c1) (.slice A2 n2 c2) (.slice A3 n3 c3) t n f) 105) :
    Calls Tryz.prog 79 #[.pointer (some ⟨p, 0, none⟩), .slice A4 n4 c4, .bool c] w fun e w' => e = .returned (.tuple #[]) ∧ CellsAt w' p (stateC (.slice A1 n1 c1) (.slice A4 n4 c4) (.slice A3 n3 c3) t n (f || c)) 105 ∧ Alter (fun k => k = p) w w' := by
  have kk1 : w.cell? ⟨p, 0, none⟩ = some (.slice A1 n1 c1) := h.at 0 rfl
  have kk2 : w.cell? ⟨p, 1, none⟩ = some (.slice A2 n2 c2) := h.at 1 rfl
  have kk3 : w.cell? ⟨p, 2, none⟩ = some (.slice A3 n3 c3) := h.at 2 rfl
  have kk4 : w.cell? ⟨p, 3, none⟩ = some (.int .i64 t) := h.at 3 rfl
  have kk5 : w.cell? ⟨p, 4, none⟩ = some (.int .i64 n) := h.at 4 rfl
  have kk6 : w.cell? ⟨p, 5, none⟩ = some (.bool f) := h.at 5 rfl
  have fz : ∀ o, w.frozen? ⟨p, o, none⟩ = false := fun o => h.froz o
  have lp := h.lt
  have fin : CellsAt ((w.setCell ⟨p, 1, none⟩ (.slice A4 n4 c4)).setCell ⟨p, 5, none⟩ (.bool (f || c))) p (stateC (.slice A1 n1 c1) (.slice A4 n4 c4) (.slice A3 n3 c3) t n (f || c)) 105 ∧ Alter (fun k => k = p) w ((w.setCell ⟨p, 1, none⟩ (.slice A4 n4 c4)).setCell ⟨p, 5, none⟩ (.bool (f || c))) :=
    ⟨((h.set 1 _).set 5 _).eq (by simp [stateC]), alter_set (S := fun k => k = p) (alter_set (S := fun k => k = p) (Alter.refl _ _) (.inl rfl) _) (.inl rfl) _⟩
  have FIN := Lib.hid fin
  clear h fin
  cases f <;> cases c
  all_goals
    go_enter Tryz.func79, Tryz.ntmps79
    go_wp2
    go_end0
    exact ⟨rfl, FIN.out⟩
end Go.Proofs.YtnhaiecbjipodaaGreatDoor
/- The four parts of a step. -/
namespace Go.Proofs.YtnhaiecbjipodaaGreatDoor
open Go.RowKit Go.Shelf Go.Proofs
attribute [local go_sem] Grow.cell Grow.froz Grow.lt lt_s1 lt_s2 lt_s3 lt_s4 lt_s5
theorem shape3 {α : Type} {E : Enc α} {w : World} {v : Value} {l : List α} (h : Reads E w v l) : ∃ A n c, v = .slice A n c := by
  obtain ⟨A, c, h⟩ := shape_reads h
  exact ⟨A, _, c, h⟩
theorem con_len (l : List Body) : (contactsL l).length ≤ l.length * l.length := by
  unfold contactsL touchL foundL
  rw [List.length_map]
  exact Nat.le_trans (List.length_filter_le _ _) (Nat.le_trans (List.length_filter_le _ _) cand_len)
set_option maxRecDepth 100000 in
set_option maxHeartbeats 2000000 in
theorem findP_any (p : Nat) (l : List Body) (vb : Value) (w : World) (h : CellsAt w p (stateC vb (.slice none 0 0) (.slice none 0 0) 0 0 false) 105) (hl : Reads bodyE w vb l) (hn : l.length ≤ 4096) (hV : ∀ b ∈ l, Placed b) (hs : Asc l) (hG : Glob w) :
    Calls Tryz.prog 37 #[.pointer (some ⟨p, 0, none⟩)] w fun e w' => e = .returned (.tuple #[]) ∧ ∃ lv, CellsAt w' p (stateC vb (.slice none 0 0) lv (((candL l).length : Nat) : Int) (((contactsL l).length : Nat) : Int) false) 105 ∧ Reads conE w' lv (contactsL l) ∧ Alter (fun k => k = p) w w' := by
  have HC := Lib.hid (contacts_any vb l w hl hn hV hs hG)
  obtain ⟨A, c, rfl⟩ := shape_reads hl
  have c0 : w.cell? ⟨p, 0, none⟩ = some (.slice A l.length c) := h.at 0 rfl
  have lp := h.lt
  have HH := Lib.hid h
  have hlen := con_len l
  have h3 := Nat.mul_le_mul hn hn
  clear h hl hV hs hG
  go_enter Tryz.func37, Tryz.ntmps37
  go_wp2_with fail
  refine HC.out.mono ?_
  rintro e w1 ⟨v1, rfl, hO, hb⟩
  obtain ⟨g1, rfl⟩ := Grow.of hb
  obtain ⟨A3, c3, rfl⟩ := hO.form
  have lg := Nat.lt_of_lt_of_le lp g1.le
  have h1 := HH.out.grow g1
  have fz : ∀ o, g1.world.frozen? ⟨p, o, none⟩ = false := fun o => h1.froz o
  have hrd := hO.reads (by omega)
  have H1 := Lib.hid h1
  have HRD := Lib.hid hrd
  have d0 : g1.world.cell? ⟨p, 0, none⟩ = some (.slice A l.length c) := h1.at 0 rfl
  have d1 : g1.world.cell? ⟨p, 1, none⟩ = some (.slice none 0 0) := h1.at 1 rfl
  have d2 : g1.world.cell? ⟨p, 2, none⟩ = some (.slice none 0 0) := h1.at 2 rfl
  have d3 : g1.world.cell? ⟨p, 3, none⟩ = some (.int .i64 0) := h1.at 3 rfl
  have d4 : g1.world.cell? ⟨p, 4, none⟩ = some (.int .i64 0) := h1.at 4 rfl
  have d5 : g1.world.cell? ⟨p, 5, none⟩ = some (.bool false) := h1.at 5 rfl
  clear hO hb h1 hrd
  go_wp2
  go_end0
  have hA : Alter (fun k => k = p) g1.world (((g1.world.setCell ⟨p, 2, none⟩ (.slice A3 (contactsL l).length c3)).setCell ⟨p, 3, none⟩ (.int .i64 (((candL l).length : Nat) : Int))).setCell ⟨p, 4, none⟩ (.int .i64 (((contactsL l).length : Nat) : Int))) := alter_set (S := fun k => k = p) (alter_set (S := fun k => k = p) (alter_set (S := fun k => k = p) (Alter.refl _ _) (.inl rfl) _) (.inl rfl) _) (.inl rfl) _
  exact ⟨rfl, .slice A3 (contactsL l).length c3, (((H1.out.set 2 _).set 3 _).set 4 _).eq (by simp [stateC]), HRD.out.past conE_key H1.out state_no hA, (Alter.of_below g1.below _).trans hA (fun _ _ h => h)⟩
set_option maxRecDepth 100000 in
set_option maxHeartbeats 2000000 in
theorem fallP_any (p : Nat) (l : List Body) (vb v lv : Value) (A2 A3 : Option Addr) (n2 n3 c2 c3 : Nat) (e2 : v = .slice A2 n2 c2) (e3 : lv = .slice A3 n3 c3) (t n : Int) (f : Bool) (w : World) (h : CellsAt w p (stateC vb v lv t n f) 105) (hl : Reads bodyE w vb l) (hn : l.length ≤ 4096) (hV : ∀ b ∈ l, Small b) :
    Calls Tryz.prog 38 #[.pointer (some ⟨p, 0, none⟩)] w fun e w' => e = .returned (.tuple #[]) ∧ ∃ v', CellsAt w' p (stateC vb v' lv t n (f || l.any gravC)) 105 ∧ Reads bodyE w' v' (l.map gravB) ∧ Alter (fun k => k = p) w w' := by
  have HC := Lib.hid (gravity_any vb l w hl (by omega) hV)
  subst e2 e3
  obtain ⟨gf, hgf⟩ : ∃ gf, gf = l.any gravC := ⟨_, rfl⟩
  rw [← hgf] at HC ⊢
  clear hgf
  obtain ⟨A, n1, c, rfl⟩ := shape3 hl
  have c0 : w.cell? ⟨p, 0, none⟩ = some (.slice A n1 c) := h.at 0 rfl
  have lp := h.lt
  have HH := Lib.hid h
  clear h hl hV
  go_enter Tryz.func38, Tryz.ntmps38
  go_wp2_with fail
  refine HC.out.mono ?_
  rintro e w1 ⟨v1, rfl, hO, hb⟩
  obtain ⟨g1, rfl⟩ := Grow.of hb
  obtain ⟨A4, n4, c4, rfl⟩ := shape3 hO
  have HU := Lib.hid (use_any p A A2 A3 A4 n1 n2 n3 n4 c c2 c3 c4 t n f gf g1.world (HH.out.grow g1))
  have HO := Lib.hid hO
  clear hO hb
  go_wp2_with (go_at_call 79; refine HU.out.mono ?_; rintro e w2 ⟨rfl, h2⟩; have H2 := Lib.hid h2; clear h2)
  go_end0
  obtain ⟨h2a, h2b⟩ := H2.out
  exact ⟨rfl, _, h2a, HO.out.past bodyE_key (HH.out.grow g1) state_no h2b, (Alter.of_below g1.below _).trans h2b (fun _ _ h => h)⟩
set_option maxRecDepth 100000 in
set_option maxHeartbeats 2000000 in
theorem solveP_any (p : Nat) (g : List Body) (cs : List Con) (vb v lv : Value) (A1 : Option Addr) (n1 c1 : Nat) (e1 : vb = .slice A1 n1 c1) (t n : Int) (f : Bool) (w : World) (h : CellsAt w p (stateC vb v lv t n f) 105) (hl : Reads bodyE w v g) (hr : Reads conE w lv cs) (hn : g.length ≤ 4096) (hs : Asc g) (hV : ∀ b ∈ g, Sound b) (hc : ConsOk g cs) :
    Calls Tryz.prog 39 #[.pointer (some ⟨p, 0, none⟩)] w fun e w' => e = .returned (.tuple #[]) ∧ ∃ v', CellsAt w' p (stateC vb v' lv t n (f || solveF cs g 4)) 105 ∧ Reads bodyE w' v' (solveN cs g 4) ∧ Alter (fun k => k = p) w w' := by
  have HC := Lib.hid (solve_any v g lv cs w.drew (hl.below (bel_drew (Below.refl _ _))) (hr.below (bel_drew (Below.refl _ _))) hn hs hV hc)
  subst e1
  obtain ⟨A2, n2, c2, rfl⟩ := shape3 hl
  obtain ⟨A3, n3, c3, rfl⟩ := shape3 hr
  have d1 : w.cell? ⟨p, 1, none⟩ = some (.slice A2 n2 c2) := h.at 1 rfl
  have d2 : w.cell? ⟨p, 2, none⟩ = some (.slice A3 n3 c3) := h.at 2 rfl
  have lp := h.lt
  have HH := Lib.hid (h.below (bel_drew (Below.refl _ _)) lp)
  clear h hl hr hs hV hc
  have FIN : ∀ w2, (∃ (g1 : Grow w.drew) (v1 : Value), Reads bodyE g1.world v1 (solveN cs g 4) ∧ CellsAt w2 p (stateC (.slice A1 n1 c1) v1 (.slice A3 n3 c3) t n (f || solveF cs g 4)) 105 ∧ Alter (fun k => k = p) g1.world w2) → ∃ v', CellsAt w2 p (stateC (.slice A1 n1 c1) v' (.slice A3 n3 c3) t n (f || solveF cs g 4)) 105 ∧ Reads bodyE w2 v' (solveN cs g 4) ∧ Alter (fun k => k = p) w w2 := by
    rintro w2 ⟨g1, v1, h1, h2, h3⟩
    exact ⟨v1, h2, h1.past bodyE_key (HH.out.grow g1) state_no h3, (Alter.of_below (w := w) (Below.trans (bel_drew (Below.refl _ _)) g1.below) _).trans h3 (fun _ _ h => h)⟩
  have FIN := Lib.hid FIN
  have HU := fun (g1 : Grow w.drew) A4 n4 c4 => use_any p A1 A2 A3 A4 n1 n2 n3 n4 c1 c2 c3 c4 t n f (solveF cs g 4) g1.world (HH.out.grow g1)
  obtain ⟨sf, hsf⟩ : ∃ sf, sf = solveF cs g 4 := ⟨_, rfl⟩
  rw [← hsf] at HC FIN HU ⊢
  clear hsf
  go_enter Tryz.func39, Tryz.ntmps39
  go_region_with
    (first
      | (go_at_call 81; refine HC.out.mono ?_; rintro e w1 ⟨v1, rfl, hO, hb⟩; obtain ⟨g1, rfl⟩ := Grow.of hb; obtain ⟨A4, n4, c4, rfl⟩ := shape3 hO; have HO := Lib.hid hO; clear hO hb)
      | (go_at_call 79; refine (HU g1 _ _ _).mono ?_; rintro e w2 ⟨rfl, h2⟩; have H2 := Lib.hid h2; clear h2))
  all_goals
    go_wp2
    go_end0
    exact ⟨rfl, FIN.out _ ⟨g1, _, HO.out, H2.out⟩⟩
set_option maxRecDepth 100000 in
set_option maxHeartbeats 4000000 in
theorem moveP_any (p : Nat) (l s : List Body) (cs : List Con) (vb v lv : Value) (t n : Int) (f : Bool) (w : World) (h : CellsAt w p (stateC vb v lv t n f) 105) (hb : Reads bodyE w vb l) (hl : Reads bodyE w v s) (hr : Reads conE w lv cs) (hn : l.length ≤ 4096) (hsl : s.length = l.length) (hs : Asc l) (hV : ∀ b ∈ l, Sound b) (hc : ConsOk l cs) (hS : ∀ b ∈ s, Small b) :
    Calls Tryz.prog 40 #[.pointer (some ⟨p, 0, none⟩)] w fun e w' => e = .returned (.tuple #[]) ∧ ∃ v', CellsAt w' p (stateC vb v' lv t n (f || movC s (shiftsL l cs))) 105 ∧ Reads bodyE w' v' (movL s (shiftsL l cs)) ∧ Alter (fun k => k = p) w w' ∧ Fresh w.heap.size v' := by
  have HC := Lib.hid (shifts_any vb l lv cs w.drew (hb.below (bel_drew (Below.refl _ _))) (hr.below (bel_drew (Below.refl _ _))) hn hs hV hc)
  have hlen : (shiftsL l cs).length = s.length := by unfold shiftsL; rw [List.length_map, hsl]
  have HM := fun (g1 : Grow w.drew) (u : Value) (hu : Reads shiftE g1.world u (shiftsL l cs)) => move_any v u s (shiftsL l cs) g1.world ((hl.below (bel_drew (Below.refl _ _))).grow g1) (by omega) hS hu hlen
  obtain ⟨A1, n1, c1, rfl⟩ := shape3 hb
  obtain ⟨A2, n2, c2, rfl⟩ := shape3 hl
  obtain ⟨A3, n3, c3, rfl⟩ := shape3 hr
  have d0 : w.cell? ⟨p, 0, none⟩ = some (.slice A1 n1 c1) := h.at 0 rfl
  have d1 : w.cell? ⟨p, 1, none⟩ = some (.slice A2 n2 c2) := h.at 1 rfl
  have d2 : w.cell? ⟨p, 2, none⟩ = some (.slice A3 n3 c3) := h.at 2 rfl
  have lp := h.lt
  have HH := Lib.hid (h.below (bel_drew (Below.refl _ _)) lp)
  have HLEN := Lib.hid hlen
  have HSL := Lib.hid hsl
  obtain ⟨ms, hms⟩ : ∃ ms, ms = movL s (shiftsL l cs) := ⟨_, rfl⟩
  obtain ⟨mf, hmf⟩ : ∃ mf, mf = movC s (shiftsL l cs) := ⟨_, rfl⟩
  rw [← hms, ← hmf]
  simp only [← hms, ← hmf] at HM
  clear h hb hl hr hs hV hc hS hlen hms hmf hsl
  have FIN : ∀ w2, (∃ (g1 : Grow w.drew) (v1 : Value), Reads bodyE g1.world v1 ms ∧ CellsAt w2 p (stateC (.slice A1 n1 c1) v1 (.slice A3 n3 c3) t n (f || mf)) 105 ∧ Alter (fun k => k = p) g1.world w2 ∧ Fresh w.heap.size v1) → ∃ v', CellsAt w2 p (stateC (.slice A1 n1 c1) v' (.slice A3 n3 c3) t n (f || mf)) 105 ∧ Reads bodyE w2 v' ms ∧ Alter (fun k => k = p) w w2 ∧ Fresh w.heap.size v' := by
    rintro w2 ⟨g1, v1, h1, h2, h3, h4⟩
    exact ⟨v1, h2, h1.past bodyE_key (HH.out.grow g1) state_no h3, (Alter.of_below (w := w) (Below.trans (bel_drew (Below.refl _ _)) g1.below) _).trans h3 (fun _ _ h => h), h4⟩
  have FIN := Lib.hid FIN
  have HU := fun (g1 : Grow w.drew) A4 n4 c4 => use_any p A1 A2 A3 A4 n1 n2 n3 n4 c1 c2 c3 c4 t n f mf g1.world (HH.out.grow g1)
  go_enter Tryz.func40, Tryz.ntmps40
  have HK : ∀ g : Grow w.drew, (fun w' : World => w'.cell? ⟨p, 0, none⟩ = some (.slice A1 n1 c1) ∧ w'.cell? ⟨p, 2, none⟩ = some (.slice A3 n3 c3)) g.world := fun g => ⟨(HH.out.grow g).at 0 rfl, (HH.out.grow g).at 2 rfl⟩
  have HK2 : ∀ w2 v2 f2, CellsAt w2 p (stateC (.slice A1 n1 c1) v2 (.slice A3 n3 c3) t n f2) 105 → (fun w' : World => w'.cell? ⟨p, 0, none⟩ = some (.slice A1 n1 c1) ∧ w'.cell? ⟨p, 2, none⟩ = some (.slice A3 n3 c3)) w2 := fun w2 v2 f2 h => ⟨h.at 0 rfl, h.at 2 rfl⟩
  have HK0 : (fun w' : World => w'.cell? ⟨p, 0, none⟩ = some (.slice A1 n1 c1) ∧ w'.cell? ⟨p, 2, none⟩ = some (.slice A3 n3 c3)) w.drew := ⟨d0, d2⟩
  go_region_with
    (first
      | (go_at_call 83; refine HC.out.mono ?_; rintro e w1 ⟨v1, rfl, hO, hb⟩; obtain ⟨g1, rfl⟩ := Grow.of hb; have hO' := hO.reads (by have := HLEN.out; have := HSL.out; omega); obtain ⟨A4, n4, c4, rfl⟩ := shape3 hO'; have HO := Lib.hid hO'; clear hO'; have e1 : g1.world.cell? ⟨p, 1, none⟩ = some (.slice A2 n2 c2) := (HH.out.grow g1).at 1 rfl; clear hO hb)
      | (go_at_call 82; refine (HM g1 _ HO.out).mono ?_; rintro e w1 ⟨v2, rfl, hO2, hb, hfr⟩; have HFR := Lib.hid (show Fresh g1.world.heap.size v2 from hfr); clear hfr; obtain ⟨g2, rfl⟩ : ∃ g2 : Grow w.drew, w1 = g2.world := Grow.of (g1.below.trans (hb.mono g1.le)); obtain ⟨A5, n5, c5, rfl⟩ := shape3 hO2; have HO2 := Lib.hid hO2; clear hO2 hb)
      | (go_at_call 79; refine (HU g2 _ _ _).mono ?_; rintro e w2 ⟨rfl, h2⟩; have H2 := Lib.hid h2; clear h2))
  all_goals
    go_wp2
    go_end0
    exact ⟨rfl, FIN.out _ ⟨g2, _, HO2.out, H2.out.1, H2.out.2, fun k hk => by have := HFR.out k hk; have := g1.le; simp at this; omega⟩⟩
end Go.Proofs.YtnhaiecbjipodaaGreatDoor
/- step.Step. -/
namespace Go.Proofs.YtnhaiecbjipodaaGreatDoor
open Go.RowKit Go.Shelf Go.Proofs
attribute [local go_sem] Grow.cell Grow.froz Grow.lt lt_s1 lt_s2 lt_s3 lt_s4 lt_s5
def gravL (l : List Body) : List Body := l.map gravB
def solvedL (l : List Body) : List Body := solveN (contactsL l) (gravL l) 4
def stepL (l : List Body) : List Body := movL (solvedL l) (shiftsL l (contactsL l))
def flag1 (l : List Body) : Bool := false || l.any gravC
def flag2 (l : List Body) : Bool := flag1 l || solveF (contactsL l) (gravL l) 4
def flag3 (l : List Body) : Bool := flag2 l || movC (solvedL l) (shiftsL l (contactsL l))
/-- Views: ascending keys, valid bodies. -/
structure Good (l : List Body) : Prop where
  asc : Asc l
  ok : ∀ b ∈ l, errOf b = 0
  len : l.length ≤ 4096
theorem placed_of {b : Body} (h : errOf b = 0) : Placed b := by
  obtain ⟨h1, h2, h3, h4, h5, h6⟩ := errOf_zero.1 h
  exact ⟨by omega, by omega, by omega, by omega, by omega⟩
theorem sound_of {b : Body} (h : errOf b = 0) : Sound b := by
  obtain ⟨h1, h2, h3, h4, h5, h6⟩ := errOf_zero.1 h
  exact ⟨by omega, by omega, by omega, by omega⟩
theorem gravL_keys (l : List Body) : (gravL l).map Body.key = l.map Body.key := by
  unfold gravL
  rw [List.map_map]
  refine List.map_congr_left fun b _ => ?_
  show (gravB b).key = b.key
  unfold gravB
  split <;> rfl
theorem grav_small {b : Body} (h : Small b) : Small (gravB b) := by
  have hc := clampI_le (n := b.vy - 1024) (l := 16777216) (by omega)
  unfold gravB
  split
  · exact h
  · obtain ⟨h0, h1, h2, h3, h4, h5, h6⟩ := h
    exact ⟨h0, h1, h2, h3, hc.1, hc.2, h6⟩
theorem grav_sound {b : Body} (h : Sound b) : Sound (gravB b) := by
  have hc := clampI_le (n := b.vy - 1024) (l := 16777216) (by omega)
  unfold gravB
  split
  · exact h
  · exact ⟨h.inv, h.bounce, h.vx, hc⟩
theorem round_small {l : List Body} {cs : List Con} {b : Body} (h : Small b) : Small (roundB l cs b) := by
  have hx := clampI_le (n := velX l cs b) (l := 16777216) (by omega)
  have hy := clampI_le (n := velY l cs b) (l := 16777216) (by omega)
  obtain ⟨h0, h1, h2, h3, h4, h5, h6⟩ := h
  exact ⟨h0, h1, hx.1, hx.2, hy.1, hy.2, h6⟩
theorem solveN_small {cs : List Con} {l : List Body} (h : ∀ b ∈ l, Small b) : ∀ n, ∀ b ∈ solveN cs l n, Small b
  | 0 => h
  | n + 1 => fun b hb => by
    obtain ⟨x, hx, rfl⟩ := List.mem_map.1 hb
    exact round_small (solveN_small h n x hx)
theorem cons_ok {l : List Body} (hs : Asc l) (hn : l.length ≤ 4096) : ConsOk l (contactsL l) := by
  refine ⟨fun c hc => ?_, ?_⟩
  · unfold contactsL at hc
    obtain ⟨q, hq, rfl⟩ := List.mem_map.1 hc
    obtain ⟨h1, h2, _⟩ := found_mem hs (List.mem_filter.1 hq).1
    obtain ⟨i, hi, e1⟩ := List.getElem_of_mem h1
    obtain ⟨j, hj, e2⟩ := List.getElem_of_mem h2
    exact ⟨conOf_fit _ _, i, j, hi, hj, by rw [e1]; rfl, by rw [e2]; rfl⟩
  · have := con_len l
    have := Nat.mul_le_mul hn hn
    omega
/-- The state behind k parts. -/
def StepSt (l : List Body) (p : Nat) (vb : Value) : Nat → World → Prop
  | 0, w => CellsAt w p (stateC vb (.slice none 0 0) (.slice none 0 0) 0 0 false) 105
  | 1, w => ∃ lv, CellsAt w p (stateC vb (.slice none 0 0) lv (((candL l).length : Nat) : Int) (((contactsL l).length : Nat) : Int) false) 105 ∧ Reads conE w lv (contactsL l)
  | 2, w => ∃ v lv, CellsAt w p (stateC vb v lv (((candL l).length : Nat) : Int) (((contactsL l).length : Nat) : Int) (flag1 l)) 105 ∧ Reads bodyE w v (gravL l) ∧ Reads conE w lv (contactsL l)
  | 3, w => ∃ v lv, CellsAt w p (stateC vb v lv (((candL l).length : Nat) : Int) (((contactsL l).length : Nat) : Int) (flag2 l)) 105 ∧ Reads bodyE w v (solvedL l) ∧ Reads conE w lv (contactsL l)
  | _, w => ∃ v lv, CellsAt w p (stateC vb v lv (((candL l).length : Nat) : Int) (((contactsL l).length : Nat) : Int) (flag3 l)) 105 ∧ Reads bodyE w v (stepL l) ∧ Fresh p v
/-- The parts' functions. -/
def partF (k : Nat) : Nat := if k = 0 then 37 else if k = 1 then 38 else if k = 2 then 39 else 40
theorem idx_part0 (W : World) : (Instr.index 107 (.agg #[.func (.func 37) #[] #[], .func (.func 38) #[] #[], .func (.func 39) #[] #[], .func (.func 40) #[] #[]]) (.int .i64 0)).run Tryz.prog W = .ok (.func (.func 37) #[] #[]) W := by kernel_rfl
theorem idx_part1 (W : World) : (Instr.index 107 (.agg #[.func (.func 37) #[] #[], .func (.func 38) #[] #[], .func (.func 39) #[] #[], .func (.func 40) #[] #[]]) (.int .i64 1)).run Tryz.prog W = .ok (.func (.func 38) #[] #[]) W := by kernel_rfl
theorem idx_part2 (W : World) : (Instr.index 107 (.agg #[.func (.func 37) #[] #[], .func (.func 38) #[] #[], .func (.func 39) #[] #[], .func (.func 40) #[] #[]]) (.int .i64 2)).run Tryz.prog W = .ok (.func (.func 39) #[] #[]) W := by kernel_rfl
theorem idx_part3 (W : World) : (Instr.index 107 (.agg #[.func (.func 37) #[] #[], .func (.func 38) #[] #[], .func (.func 39) #[] #[], .func (.func 40) #[] #[]]) (.int .i64 3)).run Tryz.prog W = .ok (.func (.func 40) #[] #[]) W := by kernel_rfl
theorem part_any (l : List Body) (p : Nat) (vb : Value) (k : Nat) (hk : k < 4) (w : World) (h : StepSt l p vb k w) (hl : Reads bodyE w vb l) (hG : Good l) (hg : Glob w) :
    Calls Tryz.prog (partF k) #[.pointer (some ⟨p, 0, none⟩)] w fun e w' => e = .returned (.tuple #[]) ∧ StepSt l p vb (k + 1) w' ∧ Alter (fun k => k = p) w w' := by
  have hpl : ∀ b ∈ l, Placed b := fun b hb => placed_of (hG.ok b hb)
  have hsm : ∀ b ∈ l, Small b := fun b hb => small_of (hG.ok b hb)
  have hso : ∀ b ∈ l, Sound b := fun b hb => sound_of (hG.ok b hb)
  have hcon := cons_ok hG.asc hG.len
  have hgl : (gravL l).length = l.length := by unfold gravL; rw [List.length_map]
  have hgs : ∀ b ∈ gravL l, Small b := fun b hb => by
    obtain ⟨x, hx, rfl⟩ := List.mem_map.1 hb
    exact grav_small (hsm x hx)
  have hgo : ∀ b ∈ gravL l, Sound b := fun b hb => by
    obtain ⟨x, hx, rfl⟩ := List.mem_map.1 hb
    exact grav_sound (hso x hx)
  obtain ⟨A1, n1, c1, e1⟩ := shape3 hl
  match k, hk, h with
  | 0, _, h =>
    refine (findP_any p l vb w h hl hG.len hpl hG.asc hg).mono ?_
    rintro e w' ⟨rfl, lv, h1, h2, h3⟩
    exact ⟨rfl, ⟨lv, h1, h2⟩, h3⟩
  | 1, _, ⟨lv, h1, h2⟩ =>
    obtain ⟨A3, n3, c3, e3⟩ := shape3 h2
    refine (fallP_any p l vb (.slice none 0 0) lv none A3 0 n3 0 c3 rfl e3 _ _ false w h1 hl hG.len hsm).mono ?_
    rintro e w' ⟨rfl, v', h3, h4, h5⟩
    exact ⟨rfl, ⟨v', lv, h3, h4, h2.past conE_key h1 (by rw [e1, e3]; exact state_no) h5⟩, h5⟩
  | 2, _, ⟨v, lv, h1, h2, h3⟩ =>
    obtain ⟨A2, n2, c2, e2⟩ := shape3 h2
    obtain ⟨A3, n3, c3, e3⟩ := shape3 h3
    refine (solveP_any p (gravL l) (contactsL l) vb v lv A1 n1 c1 e1 _ _ (flag1 l) w h1 h2 h3 (by rw [hgl]; exact hG.len) (hG.asc.of_keys (gravL_keys l)) hgo (hcon.of_keys (gravL_keys l))).mono ?_
    rintro e w' ⟨rfl, v', h4, h5, h6⟩
    exact ⟨rfl, ⟨v', lv, h4, h5, h3.past conE_key h1 (by rw [e1, e2, e3]; exact state_no) h6⟩, h6⟩
  | 3, _, ⟨v, lv, h1, h2, h3⟩ =>
    refine (moveP_any p l (solvedL l) (contactsL l) vb v lv _ _ (flag2 l) w h1 hl h2 h3 hG.len (by unfold solvedL; rw [solveN_len, hgl]) hG.asc hso hcon (solveN_small hgs 4)).mono ?_
    rintro e w' ⟨rfl, v', h4, h5, h6, h7⟩
    exact ⟨rfl, ⟨v', lv, h4, h5, fun k hk => by have := h7 k hk; have := h1.lt; omega⟩, h6⟩
set_option maxRecDepth 100000 in
set_option maxHeartbeats 4000000 in
theorem step_any (v : Value) (l : List Body) (w : World) (hl : Reads bodyE w v l) (hG : Good l) (hg : Glob w) :
    Calls Tryz.prog 22 #[v] w fun e w' => ∃ v', e = .returned (.tuple #[v', .agg #[.int .i64 (((candL l).length : Nat) : Int), .int .i64 (((contactsL l).length : Nat) : Int), .bool (flag3 l)]]) ∧ Reads bodyE w' v' (stepL l) ∧ Below w.heap.size w w' ∧ Fresh w.heap.size v' := by
  obtain ⟨A, n, c, rfl⟩ := shape3 hl
  have HL := Lib.hid hl
  have HG := Lib.hid hG
  have HGL := Lib.hid hg
  clear hl hG hg
  go_enter Tryz.func22, Tryz.ntmps22
  go_wp2
  go_loopw [11] (fun i wr => ∃ (k : Nat), k ≤ 4 ∧ i = .int .i64 k ∧ StepSt l (w.heap.size + 1) (.slice A n c) k wr ∧ Below w.heap.size w wr ∧ CellsAt wr w.heap.size #[.int .i64 0, .int .i64 0, .bool false] 64) (fun i _ => 4 - (intOf i).toNat)
  case atStart =>
    refine ⟨0, by omega, rfl, ?_, (by repeat (first | with_reducible exact Below.refl _ _ | with_reducible refine bel_alloc ?_ _ | with_reducible refine bel_drewN ?_ _ | with_reducible refine bel_drew ?_ | with_reducible refine bel_grow ?_ _ | with_reducible refine bel_set ?_ (by first | omega | (simp; done) | (simp; omega)) _)), (by repeat (first | with_reducible exact CellsAt.newAt (by first | rfl | (simp; done) | omega) rfl | with_reducible refine CellsAt.alloc ?_ _ | with_reducible refine CellsAt.drewN ?_ _ | with_reducible refine CellsAt.drew ?_ | with_reducible refine CellsAt.grow ?_ _ | with_reducible refine CellsAt.far ?_ (by first | omega | (simp; done) | (simp; omega)) _))⟩
    have := CellsAt.new (w.alloc (.cells #[.int .i64 0, .int .i64 0, .bool false] 64)) (stateC (.slice A n c) (.slice none 0 0) (.slice none 0 0) 0 0 false) 105
    simpa [StepSt] using this
  case round =>
    obtain ⟨k, hk, hik, hS, hB, hC⟩ := hrel
    have HS := Lib.hid hS
    have HB := Lib.hid hB
    have HC := Lib.hid hC
    clear hS hB hC
    by_cases hlt : k < 4
    · have HP := Lib.hid (part_any l (w.heap.size + 1) (.slice A n c) k hlt wr HS.out (HL.out.below HB.out) HG.out (HGL.out.below HB.out))
      have hk4 : k = 0 ∨ k = 1 ∨ k = 2 ∨ k = 3 := by omega
      rcases hk4 with rfl | rfl | rfl | rfl
      · replace hik : u11 = .int .i64 0 := hik
        subst hik
        have ix := fun W => idx_part0 W
        go_wp2_with fail
        refine HP.out.mono ?_
        rintro e w2 ⟨rfl, h2⟩
        have H2 := Lib.hid h2
        clear h2
        go_wp2
        go_roundw
        case rel =>
          obtain ⟨h2a, h2b⟩ := H2.out
          exact ⟨0 + 1, by omega, rfl, h2a, HB.out.trans (h2b.below HB.out.size (fun j hj e => by omega)), HC.out.of_block (h2b.block _ HC.out.lt (by omega))⟩
        case measure => simp [intOf]
      · replace hik : u11 = .int .i64 1 := hik
        subst hik
        have ix := fun W => idx_part1 W
        go_wp2_with fail
        refine HP.out.mono ?_
        rintro e w2 ⟨rfl, h2⟩
        have H2 := Lib.hid h2
        clear h2
        go_wp2
        go_roundw
        case rel =>
          obtain ⟨h2a, h2b⟩ := H2.out
          exact ⟨1 + 1, by omega, rfl, h2a, HB.out.trans (h2b.below HB.out.size (fun j hj e => by omega)), HC.out.of_block (h2b.block _ HC.out.lt (by omega))⟩
        case measure => simp [intOf]
      · replace hik : u11 = .int .i64 2 := hik
        subst hik
        have ix := fun W => idx_part2 W
        go_wp2_with fail
        refine HP.out.mono ?_
        rintro e w2 ⟨rfl, h2⟩
        have H2 := Lib.hid h2
        clear h2
        go_wp2
        go_roundw
        case rel =>
          obtain ⟨h2a, h2b⟩ := H2.out
          exact ⟨2 + 1, by omega, rfl, h2a, HB.out.trans (h2b.below HB.out.size (fun j hj e => by omega)), HC.out.of_block (h2b.block _ HC.out.lt (by omega))⟩
        case measure => simp [intOf]
      · replace hik : u11 = .int .i64 3 := hik
        subst hik
        have ix := fun W => idx_part3 W
        go_wp2_with fail
        refine HP.out.mono ?_
        rintro e w2 ⟨rfl, h2⟩
        have H2 := Lib.hid h2
        clear h2
        go_wp2
        go_roundw
        case rel =>
          obtain ⟨h2a, h2b⟩ := H2.out
          exact ⟨3 + 1, by omega, rfl, h2a, HB.out.trans (h2b.below HB.out.size (fun j hj e => by omega)), HC.out.of_block (h2b.block _ HC.out.lt (by omega))⟩
        case measure => simp [intOf]
    · have hk4 : k = 4 := by omega
      subst hk4
      replace hik : u11 = .int .i64 4 := hik
      subst hik
      obtain ⟨v', lv, h1, h2, h3⟩ := HS.out
      have HFR := Lib.hid h3
      clear h3
      obtain ⟨A2, n2, c2, rfl⟩ := shape3 h2
      have lp := h1.lt
      have hC := HC.out
      have lC := hC.lt
      have H2 := Lib.hid h2
      obtain ⟨tt, htt⟩ : ∃ tt : Int, tt = (((candL l).length : Nat) : Int) := ⟨_, rfl⟩
      obtain ⟨nn, hnn⟩ : ∃ nn : Int, nn = (((contactsL l).length : Nat) : Int) := ⟨_, rfl⟩
      obtain ⟨ff, hff⟩ : ∃ ff, ff = flag3 l := ⟨_, rfl⟩
      rw [← htt, ← hnn, ← hff] at h1
      have kk1 : wr.cell? ⟨w.heap.size + 1, 0, none⟩ = some (.slice A n c) := h1.at 0 rfl
      have kk2 : wr.cell? ⟨w.heap.size + 1, 1, none⟩ = some (.slice A2 n2 c2) := h1.at 1 rfl
      have kk3 : wr.cell? ⟨w.heap.size + 1, 2, none⟩ = some (lv) := h1.at 2 rfl
      have kk4 : wr.cell? ⟨w.heap.size + 1, 3, none⟩ = some (.int .i64 tt) := h1.at 3 rfl
      have kk5 : wr.cell? ⟨w.heap.size + 1, 4, none⟩ = some (.int .i64 nn) := h1.at 4 rfl
      have kk6 : wr.cell? ⟨w.heap.size + 1, 5, none⟩ = some (.bool ff) := h1.at 5 rfl
      have HTT := Lib.hid htt
      have HNN := Lib.hid hnn
      have HFF := Lib.hid hff
      clear h1 h2 htt hnn hff
      go_upto_region 7 with fail
      refine wp_region_grow_tail 9 (by kernel_rfl) (by kernel_rfl) ?_
      simp only [List.take_succ_cons, List.take_zero]
      repeat (first | go_big_quiet_skip | (go_big_quiet_want; go_big_quiet_op; first | go_big_quiet_on))
      refine wpQuiet_nil ?_
      rintro _ ⟨g1, rfl⟩
      simp only [List.drop_succ_cons, List.drop_zero]
      have hC1 := hC.grow g1
      have kk7 : g1.world.frozen? ⟨w.heap.size, 0, none⟩ = false := hC1.froz 0
      have kk8 : g1.world.frozen? ⟨w.heap.size, 1, none⟩ = false := hC1.froz 1
      have kk9 : g1.world.frozen? ⟨w.heap.size, 2, none⟩ = false := hC1.froz 2
      have kk10 : g1.world.cell? ⟨w.heap.size, 0, none⟩ = some (.int .i64 0) := hC1.at 0 rfl
      have kk11 : g1.world.cell? ⟨w.heap.size, 1, none⟩ = some (.int .i64 0) := hC1.at 1 rfl
      have kk12 : g1.world.cell? ⟨w.heap.size, 2, none⟩ = some (.bool false) := hC1.at 2 rfl
      have zz13 : w.heap.size < g1.world.heap.size := Nat.lt_of_lt_of_le (by first | omega | (simp; done) | (simp; omega)) g1.le
      go_wp2
      refine bodyPost_ret (v := .tuple #[.slice A2 n2 c2, .agg #[.int .i64 tt, .int .i64 nn, .bool ff]]) (ret_cells w.heap.size #[.int .i64 tt, .int .i64 nn, .bool ff] 64 ?_ ?_) rfl ⟨_, by rw [← HTT.out, ← HNN.out, ← HFF.out], (H2.out.grow g1).past bodyE_key hC1 (by intro u hu k; simp at hu; rcases hu with rfl | rfl | rfl <;> simp) ?_, bel_set (bel_set (bel_set (bel_grow HB.out g1) (Nat.le_refl _) _) (Nat.le_refl _) _) (Nat.le_refl _) _, fun k hk => by have := HFR.out k hk; omega⟩
      · exact (((hC1.set 0 _).set 1 _).set 2 _).eq (by simp)
      · intro W K
        have kk14 : W.cell? ⟨w.heap.size, 0, none⟩ = some (.int .i64 tt) := K.at 0 rfl
        have kk15 : W.cell? ⟨w.heap.size, 1, none⟩ = some (.int .i64 nn) := K.at 1 rfl
        have kk16 : W.cell? ⟨w.heap.size, 2, none⟩ = some (.bool ff) := K.at 2 rfl
        simp [results, Tryz.results22, go_sem, *]
      · exact alter_set (S := fun k => k = w.heap.size) (alter_set (S := fun k => k = w.heap.size) (alter_set (S := fun k => k = w.heap.size) (Alter.refl _ _) (.inl rfl) _) (.inl rfl) _) (.inl rfl) _
end Go.Proofs.YtnhaiecbjipodaaGreatDoor
