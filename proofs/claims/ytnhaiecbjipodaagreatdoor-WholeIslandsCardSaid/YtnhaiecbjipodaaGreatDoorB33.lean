/- billiardtop.ball and awake. -/
import Derived.Test.YtnhaiecbjipodaaGreatDoorB32
import Derived.Test.YtnhaiecbjipodaaGreatDoorB29
namespace Go.Proofs.YtnhaiecbjipodaaGreatDoor
open Go.RowKit Go.Shelf Go.Proofs Go.MapKept
attribute [local go_sem] Grow.cell Grow.froz Grow.lt lt_s1 lt_s2 lt_s3 lt_s4 lt_s5
attribute [local go_sem high] body_eq vec_eq
theorem ball_any (k i x : Int) (w : World) : Calls Tryz.prog 16 #[.int .u32 k, .int .i32 i, .int .i32 x] w fun e w' => e = .returned (.agg (ballB k i x).arr) ∧ Below w.heap.size w w' := by
  go_enter Tryz.func16, Tryz.ntmps16
  go_wp2
  refine bodyPost_ret (v := .agg (ballB k i x).arr) (ret_cells w.heap.size (ballB k i x).arr 27 ?_ ?_) rfl ⟨rfl, (by repeat (first | with_reducible exact Below.refl _ _ | with_reducible refine bel_alloc ?_ _ | with_reducible refine bel_drewN ?_ _ | with_reducible refine bel_drew ?_ | with_reducible refine bel_grow ?_ _ | with_reducible refine bel_set ?_ (by first | omega | (simp; done) | (simp; omega)) _))⟩
  · exact CellsAt.newAt rfl rfl
  · intro W K
    have kk1 : W.cell? ⟨w.heap.size, 0, none⟩ = some (.int .u32 k) := K.at 0 rfl
    have kk2 : W.cell? ⟨w.heap.size, 1, none⟩ = some (.int .i32 65536) := K.at 1 rfl
    have kk3 : W.cell? ⟨w.heap.size, 2, none⟩ = some (.int .i32 0) := K.at 2 rfl
    have kk4 : W.cell? ⟨w.heap.size, 3, none⟩ = some (.int .i32 0) := K.at 3 rfl
    have kk5 : W.cell? ⟨w.heap.size, 4, none⟩ = some (.int .i32 i) := K.at 4 rfl
    have kk6 : W.cell? ⟨w.heap.size, 5, none⟩ = some (.int .i32 0) := K.at 5 rfl
    have kk7 : W.cell? ⟨w.heap.size, 6, none⟩ = some (.int .i32 x) := K.at 6 rfl
    have kk8 : W.cell? ⟨w.heap.size, 7, none⟩ = some (.int .i32 0) := K.at 7 rfl
    have kk9 : W.cell? ⟨w.heap.size, 8, none⟩ = some (.int .i32 0) := K.at 8 rfl
    have kk10 : W.cell? ⟨w.heap.size, 9, none⟩ = some (.int .i32 0) := K.at 9 rfl
    simp [results, Tryz.results16, go_sem, ballB, *]
def opB (b : Body) : OpD := ⟨1, b, 0, 0, 0, none, 0, 0, []⟩
theorem two_run : runL [] [opB (ballB 2 65536 0), opB (ballB 1 0 100000), opB (ballB 1 0 0)] = [ballB 2 65536 0, ballB 1 0 100000] := by decide +kernel
theorem two_sort : sortB [ballB 2 65536 0, ballB 1 0 100000] = twoV := (view_eq (by decide) (by decide) (by unfold twoV ballB; decide)).symm
theorem block_own {α : Type} {E : Enc α} {t : TypeId} {w : World} (cs : Array Value) (l : List α) (hcs : cs.toList = l.flatMap E.cells) (hl : l.length ≤ 1000000) : Own E t (w.alloc (.cells cs t)) w.heap.size (.slice (some ⟨w.heap.size, 0, none⟩) l.length l.length) l :=
  own_of_at (cur := cs) (heap_alloc_new w _) (Nat.le_refl _) (by simp only [maxLen]; omega) (by rw [← Array.length_toList, hcs, flat_len]) (fun i hi j u hu => by rw [← Array.getElem?_toList, hcs]; exact flat_get E l i l[i] j u (List.getElem?_eq_getElem hi) hu) w.heap.size (Nat.le_refl _)
def threeO : List OpD := [opB (ballB 2 65536 0), opB (ballB 1 0 100000), opB (ballB 1 0 0)]
def threeC : Array Value := (threeO.flatMap opE.cells).toArray
theorem three_run : runL [] threeO = [ballB 2 65536 0, ballB 1 0 100000] := two_run
theorem three_ok {w : World} {F : Nat → Prop} : ∀ o ∈ threeO, OpOk w F o := by
  intro o ho
  have hb : ∀ b : Body, Sane b → OpOk w F (opB b) := fun b h => ⟨h.fit, (by unfold I32; show _ ≤ (0 : Int) ∧ (0 : Int) ≤ _; decide), (by unfold I32; show _ ≤ (0 : Int) ∧ (0 : Int) ≤ _; decide), RB.none w, fun k hk => by simp [opB, Value.ownBlock] at hk⟩
  simp only [threeO, List.mem_cons, List.not_mem_nil, or_false] at ho
  rcases ho with rfl | rfl | rfl <;> exact hb _ (by unfold Sane; decide)
theorem world3_any (g : World) (hg : Glob g) : Calls Tryz.prog 8 #[.slice (some ⟨g.heap.size, 0, none⟩) 3 3] (g.alloc (.cells threeC 44)) fun e w' => ∃ p F, e = .returned (.pointer (some ⟨p, 0, none⟩)) ∧ StoreAt w' p F [ballB 2 65536 0, ballB 1 0 100000] ∧ (∀ k, F k → g.heap.size ≤ k) ∧ Below g.heap.size g w' := by
  have ho : Own opE 44 (g.alloc (.cells threeC 44)) g.heap.size (.slice (some ⟨g.heap.size, 0, none⟩) 3 3) threeO := block_own threeC threeO (by simp [threeC]) (by decide)
  refine (scriptWorld_any _ threeO _ (hg.alloc _) (ho.reads (by decide)) ho.lt three_ok (by decide)).mono ?_
  rintro e w' ⟨p, F, rfl, h1, h2, h3⟩
  rw [three_run] at h1
  exact ⟨p, F, rfl, h1, fun k hk => by have := h2 k hk; simp at this; omega, (bel_alloc (Below.refl _ _) _).trans (h3.mono (by simp))⟩
theorem slots_sane : SaneL [ballB 2 65536 0, ballB 1 0 100000] := by intro b hb; simp only [List.mem_cons, List.not_mem_nil, or_false] at hb; rcases hb with rfl | rfl <;> (unfold Sane; decide)
theorem step2_any (p : Nat) (w : World) (F : Nat → Prop) (h : StoreAt w p F [ballB 2 65536 0, ballB 1 0 100000]) (hg : Glob w) :
    Calls Tryz.prog 23 #[.pointer (some ⟨p, 0, none⟩)] w fun e w' => e = .returned (.agg #[.int .i64 1, .int .i64 1, .bool false]) ∧ After w w' p F twoN := by
  have := worldStep_any p w F _ h slots_sane hg
  rw [two_sort, two_step, two_cand, two_con, two_flag] at this
  exact this
theorem ball_fl (k i x : Int) (w : World) : Calls Tryz.prog 16 #[.int .u32 k, .int .i32 i, .int .i32 x] w fun e w' => e = .returned (.agg #[.int .u32 k, .int .i32 65536, .int .i32 0, .int .i32 0, .int .i32 i, .int .i32 0, .int .i32 x, .int .i32 0, .int .i32 0, .int .i32 0]) ∧ Below w.heap.size w w' := ball_any k i x w
theorem same_yes (v u : Value) (l : List Body) (w : World) (hl : Reads bodyE w v l) (hm : Reads bodyE w u l) : Calls Tryz.prog 25 #[v, u] w fun e w' => e = .returned (.bool true) ∧ Below w.heap.size w w' := by
  have := same_any v u l l w hl hm
  rwa [decide_eq_true rfl] at this
set_option maxRecDepth 100000 in
set_option maxHeartbeats 2000000 in
theorem awake28_any (w : World) (hg : Glob w) : Calls Tryz.prog 6 #[] w fun e w' => e = .returned (.bool true) ∧ Below w.heap.size w w' := by
  have HGL := Lib.hid hg
  have HW := Lib.hid world3_any
  clear hg
  go_enter Tryz.func6, Tryz.ntmps6
  go_upto_region 2 with (go_at_call 16; refine (ball_any _ _ _ _).mono ?_; rintro e w1 ⟨rfl, hb⟩; obtain ⟨g1, rfl⟩ := Grow.of hb; clear hb)
  have hb1 : Below w.heap.size w g1.world := (by repeat (first | with_reducible exact Below.refl _ _ | with_reducible refine bel_alloc ?_ _ | with_reducible refine bel_drewN ?_ _ | with_reducible refine bel_drew ?_ | with_reducible refine bel_grow ?_ _ | with_reducible refine bel_set ?_ (by first | omega | (simp; done) | (simp; omega)) _))
  refine (HW.out g1.world (HGL.out.below hb1)).mono ?_
  rintro e w2 ⟨p, F, rfl, h2, hf2, hb2⟩
  have H2 := Lib.hid h2
  have HF2 := Lib.hid hf2
  have HB2 := Lib.hid (hb1.trans (hb2.mono hb1.size))
  have hz1 := hb1.size
  clear h2 hf2 hb2 hb1
  go_wp2_with fail
  have hgw := HGL.out.below HB2.out
  refine (step2_any p w2 F H2.out hgw).mono ?_
  rintro e w3 ⟨rfl, h3⟩
  obtain ⟨F3, h3, ha3, hf3⟩ := h3
  have hB3 : Below w.heap.size w w3 := HB2.out.trans (ha3.below HB2.out.size fun k hk hf => by have := HF2.out k hf; omega)
  have H3 := Lib.hid h3
  have HB3 := Lib.hid hB3
  clear h3 ha3 hf3 hB3 hgw
  go_upto_region 3 with fail
  have HVW := Lib.hid fun W (hb : Below w3.heap.size w3 W) => worldView_s p W F3 twoN (H3.out.below hb)
  go_wp2_with fail
  refine (HVW.out _ (bel_alloc (Below.refl _ _) _)).mono ?_
  rintro e w4 ⟨v4, rfl, h4, hb4⟩
  rw [sortB_id two_ascN] at h4
  have hr4 := h4.reads (by decide)
  have hks : CellsAt w4 w3.heap.size #[.int .i64 1, .int .i64 1, .bool false] 64 := CellsAt.below (CellsAt.newAt rfl rfl) hb4 (by simp)
  obtain ⟨A4, c4, b4, o4, hv4, hA4, hx4⟩ := hr4.bodies
  have hv4' : v4 = .slice A4 2 c4 := hv4
  obtain ⟨rfl, hz4⟩ := hA4 (by decide)
  subst hv4'
  have HR4 := Lib.hid hr4
  have HX4 := Lib.hid hx4
  have HKS := Lib.hid hks
  have hB4 : Below w3.heap.size w3 w4 := (bel_alloc (Below.refl _ _) _).trans (hb4.mono (by simp))
  have HB4 := Lib.hid hB4
  clear h4 hb4 hr4 hB4 hv4 hA4 hx4 hks
  go_upto_region 6 with fail
  have HSN := Lib.hid (worldSnap_any p w4 F3 twoN (H3.out.below HB4.out) two_saneN)
  rw [sortB_id two_ascN] at HSN
  go_wp2_with fail
  refine HSN.out.mono ?_
  rintro e w5 ⟨v5, rfl, h5, hb5⟩
  have hr5 := h5.reads (by decide)
  obtain ⟨A5, c5, b5, o5, hv5, _⟩ := hr5.form
  have hv5' : v5 = .slice A5 88 c5 := hv5
  subst hv5'
  have HR5 := Lib.hid hr5
  have HB5 := Lib.hid hb5
  clear h5 hb5 hr5 hv5
  go_upto_region 7 with fail
  have HDC := Lib.hid (decode_any _ _ w5 HR5.out)
  rw [dec_bytes (fun b hb => (two_saneN b hb).fit), if_pos (by decide)] at HDC
  go_wp2_with fail
  refine HDC.out.mono ?_
  rintro e w6 ⟨v6, rfl, h6, hb6⟩
  have HR6 := Lib.hid h6
  have HB6 := Lib.hid hb6
  clear h6 hb6
  go_upto_region 8 with fail
  have hb46 : Below w4.heap.size w4 w6 := HB5.out.trans (HB6.out.mono HB5.out.size)
  have hBF : Below w.heap.size w w6 := HB3.out.trans ((HB4.out.trans (hb46.mono HB4.out.size)).mono HB3.out.size)
  have hR46 : Reads bodyE w6 (.slice (some ⟨b4, o4, none⟩) 2 c4) twoN := HR4.out.below hb46
  have kS := HKS.out.below hb46 HKS.out.lt
  have lS := kS.lt
  have kk11 : w6.cell? ⟨w3.heap.size, 0, none⟩ = some (.int .i64 1) := kS.at 0 rfl
  have kk12 : w6.cell? ⟨w3.heap.size, 1, none⟩ = some (.int .i64 1) := kS.at 1 rfl
  have kk13 : w6.cell? ⟨w3.heap.size, 2, none⟩ = some (.bool false) := kS.at 2 rfl
  obtain ⟨p0, p1, p2, p3, p4, p5, p6, p7, p8, p9⟩ := (HX4.out 0 (by decide)).below hb46
  obtain ⟨q0, q1, q2, q3, q4, q5, q6, q7, q8, q9⟩ := (HX4.out 1 (by decide)).below hb46
  have ix0 : ∀ W, (Instr.indexAt 38 (.slice (some ⟨b4, o4, none⟩) 2 c4) (.int .i64 0)).run Tryz.prog W = .ok (.pointer (some ⟨b4, o4, none⟩)) W := fun W => by have := idx_body (A := some ⟨b4, o4, none⟩) (c := c4) rfl (show 0 < 2 by omega) W; simpa using this
  have ix1 : ∀ W, (Instr.indexAt 38 (.slice (some ⟨b4, o4, none⟩) 2 c4) (.int .i64 1)).run Tryz.prog W = .ok (.pointer (some ⟨b4, o4 + 10, none⟩)) W := fun W => by have := idx_body (A := some ⟨b4, o4, none⟩) (c := c4) rfl (show 1 < 2 by omega) W; simpa using this
  simp only [Nat.zero_mul, Nat.one_mul, Nat.add_zero] at p0 p1 p2 p3 p4 p5 p6 p7 p8 p9 q0 q1 q2 q3 q4 q5 q6 q7 q8 q9
  have r0 : w6.cell? ⟨b4, o4, none⟩ = some (.int .u32 1) := p0
  have r1 : w6.cell? ⟨b4, o4 + 1, none⟩ = some (.int .i32 65536) := p1
  have r2 : w6.cell? ⟨b4, o4 + 2, none⟩ = some (.int .i32 0) := p2
  have r3 : w6.cell? ⟨b4, o4 + 3, none⟩ = some (.int .i32 0) := p3
  have r4 : w6.cell? ⟨b4, o4 + 4, none⟩ = some (.int .i32 0) := p4
  have r5 : w6.cell? ⟨b4, o4 + 5, none⟩ = some (.int .i32 0) := p5
  have r6 : w6.cell? ⟨b4, o4 + 6, none⟩ = some (.int .i32 100000) := p6
  have r7 : w6.cell? ⟨b4, o4 + 7, none⟩ = some (.int .i32 0) := p7
  have r8 : w6.cell? ⟨b4, o4 + 8, none⟩ = some (.int .i32 0) := p8
  have r9 : w6.cell? ⟨b4, o4 + 9, none⟩ = some (.int .i32 0) := p9
  have s6 : w6.cell? ⟨b4, o4 + 10 + 6, none⟩ = some (.int .i32 (-12019)) := q6
  have s7 : w6.cell? ⟨b4, o4 + 10 + 7, none⟩ = some (.int .i32 (-16)) := q7
  have s8 : w6.cell? ⟨b4, o4 + 10 + 8, none⟩ = some (.int .i32 0) := q8
  have s9 : w6.cell? ⟨b4, o4 + 10 + 9, none⟩ = some (.int .i32 (-1024)) := q9
  clear p0 p1 p2 p3 p4 p5 p6 p7 p8 p9 q0 q1 q2 q3 q4 q5 q6 q7 q8 q9
  obtain ⟨oB, hoB⟩ : ∃ oB, oB = o4 + 10 := ⟨_, rfl⟩
  rw [← hoB] at s6 s7 s8 s9 ix1
  have z4 : b4 < w6.heap.size := Nat.lt_of_lt_of_le hz4 hb46.size
  have e1 : eqB ⟨1, 65536, 0, 0, 0, 0, 100000, 0, 0, 0⟩ ⟨1, 65536, 0, 0, 0, 0, 100000, 0, 0, 0⟩ = true := by decide
  have e2 : eqV 0 (-1024) 0 (-1024) = true := by decide
  have e3 : eqV (-12019) (-16) (-12019) (-16) = true := by decide
  have HBF := Lib.hid hBF
  clear hb46 hBF kS hoB
  have HR6' := HR6.out
  refine wp_region_grow (by kernel_rfl) (by kernel_rfl) ?_
  repeat (first | go_big_quiet_skip | (go_big_quiet_want; go_big_quiet_op; first | go_big_quiet_on | (go_big_quiet_call (first
      | (go_at_call 16; exact Calls.grow_of (ball_fl _ _ _ _))
      | (go_at_call 25; exact Calls.grow_of (same_yes _ _ _ _ (HR6'.grow _) (hR46.grow _)))))))
  refine wpQuiet_nil ?_
  rintro _ ⟨g8, rfl⟩
  go_wp2
  go_ret
  exact ⟨rfl, bel_grow HBF.out g8⟩
end Go.Proofs.YtnhaiecbjipodaaGreatDoor
