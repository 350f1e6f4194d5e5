/- Contracts of the program's functions, by walks, and plain facts beside them: RefSeg, RefCon, RefOf. -/
import Derived.Test.YtnhaiecbjipodaaGreatDoorE04
import Derived.Test.YtnhaiecbjipodaaGreatDoorB02
import Derived.Test.YtnhaiecbjipodaaGreatDoorB13
import Derived.Test.YtnhaiecbjipodaaGreatDoorB09
import Derived.Test.YtnhaiecbjipodaaGreatDoorB10
/- The contracts of the references on segments. -/
namespace Go.Proofs.YtnhaiecbjipodaaGreatDoor
open Go.RowKit
attribute [local go_sem] Grow.cell Grow.froz Grow.lt lt_s1 lt_s2 lt_s3 lt_s4 lt_s5
abbrev twoC (x : V × V) : Array Value := #[.int .i32 x.1.1, .int .i32 x.1.2, .int .i32 x.2.1, .int .i32 x.2.2]
def twoE : Enc (V × V) := ⟨4, fun x => (twoC x).toList, fun _ => rfl, fun x u hu => by
  simp at hu
  rcases hu with rfl | rfl | rfl | rfl <;> rfl, by decide⟩
theorem dist_bd {x : V × V} (h : InP x) : (-2181038080 ≤ x.2.1 - x.1.1 ∧ x.2.1 - x.1.1 ≤ 2181038080) ∧ (-2181038080 ≤ x.2.2 - x.1.2 ∧ x.2.2 - x.1.2 ≤ 2181038080) := by
  obtain ⟨⟨⟨a0, a1⟩, a2, a3⟩, ⟨b0, b1⟩, b2, b3⟩ := h
  omega
set_option maxHeartbeats 1000000 in
theorem refDist_any (ax ay bx bY : Int) (w : World) (h : InP ((ax, ay), (bx, bY))) :
    Calls Tryz.prog 75 #[.agg #[.int .i32 ax, .int .i32 ay, .int .i32 bx, .int .i32 bY]] w fun e w' => e = .returned (.int .u64 (distI ((ax, ay), (bx, bY)))) ∧ Below w.heap.size w w' := by
  obtain ⟨⟨x0, x1⟩, y0, y1⟩ := dist_bd h
  obtain ⟨⟨⟨a0, a1⟩, a2, a3⟩, ⟨b0, b1⟩, b2, b3⟩ := h
  have HL := Lib.hid fun W => refLengthSq_any (bx - ax) (bY - ay) W (by omega) (by omega) (by omega) (by omega)
  unfold distI
  simp only at *
  go_enter Tryz.func75, Tryz.ntmps75
  go_wp2_with fail
  refine (HL.out _).mono ?_
  rintro e w' ⟨rfl, rfl⟩
  go_wp2_with fail
  go_ret
  exact ⟨rfl, (by repeat (first | with_reducible exact Below.refl _ _ | with_reducible refine bel_alloc ?_ _ | with_reducible refine bel_drewN ?_ _ | with_reducible refine bel_drew ?_ | with_reducible refine bel_grow ?_ _ | with_reducible refine bel_set ?_ (by first | omega | (simp; done) | (simp; omega)) _))⟩
def bestL (cs : List (V × V)) : Nat → V × V
  | 0 => cs.getD 0 ((0, 0), (0, 0))
  | k + 1 => pickI (bestL cs k) (cs.getD (k + 1) ((0, 0), (0, 0)))
theorem bestL_in {cs : List (V × V)} (h : ∀ x ∈ cs, InP x) : ∀ k, k < cs.length → InP (bestL cs k)
  | 0, hk => by
    unfold bestL
    rw [List.getD_eq_getElem?_getD, List.getElem?_eq_getElem hk]
    exact h _ (List.getElem_mem hk)
  | k + 1, hk => by
    unfold bestL
    refine pickI_in (bestL_in h k (by omega)) ?_
    rw [List.getD_eq_getElem?_getD, List.getElem?_eq_getElem hk]
    exact h _ (List.getElem_mem hk)
theorem idx_two {A : Option Addr} {b off k len c : Nat} (hA : A = some ⟨b, off, none⟩) (hk : k < len) (w : World) :
    (Instr.indexAt 212 (.slice A len c) (.int .i64 (k : Int))).run Tryz.prog w = .ok (.pointer (some ⟨b, off + k * 4, none⟩)) w := by
  subst hA
  have hk' : (k : Int) < (len : Int) := by omega
  go_simp
theorem reads_alloc {α : Type} {E : Enc α} {t : TypeId} {w : World} {c : Nat} (cs : Array Value) (l : List α) (hcs : cs.toList = l.flatMap E.cells) (hl : l.length ≤ 1000000) : Reads E (w.alloc (.cells cs t)) (.slice (some ⟨w.heap.size, 0, none⟩) l.length c) l := by
  refine ⟨by omega, _, _, rfl, fun i a ha => ⟨w.heap.size, 0, rfl, fun j u hu => ?_⟩⟩
  have hc := heap_alloc_new w (.cells cs t)
  unfold World.cell?
  rw [hc]
  simp only [Nat.zero_add]
  rw [← Array.getElem?_toList, hcs]
  exact flat_get E l i a j u ha hu
set_option maxRecDepth 100000 in
set_option maxHeartbeats 4000000 in
theorem refChosen_any (a1 a2 b1 b2 c1 c2 d1 d2 : Int) (w : World) (ha : InV (a1, a2)) (hb : InV (b1, b2)) (hc : InV (c1, c2)) (hd : InV (d1, d2)) (hab : CloseV (a1, a2) (b1, b2)) (hcd : CloseV (c1, c2) (d1, d2)) :
    Calls Tryz.prog 114 #[.agg #[.int .i32 a1, .int .i32 a2], .agg #[.int .i32 b1, .int .i32 b2], .agg #[.int .i32 c1, .int .i32 c2], .agg #[.int .i32 d1, .int .i32 d2]] w fun e w' => e = .returned (.agg (twoC (chosenI (a1, a2) (b1, b2) (c1, c2) (d1, d2)))) ∧ Below w.heap.size w w' := by
  obtain ⟨cs, hcs⟩ : ∃ cs : List (V × V), cs = [((a1, a2), nearI (c1, c2) (d1, d2) (a1, a2)), ((b1, b2), nearI (c1, c2) (d1, d2) (b1, b2)), (nearI (a1, a2) (b1, b2) (c1, c2), (c1, c2)), (nearI (a1, a2) (b1, b2) (d1, d2), (d1, d2))] := ⟨_, rfl⟩
  have hin : ∀ x ∈ cs, InP x := by
    rw [hcs]
    intro x hx
    simp only [List.mem_cons, List.not_mem_nil, or_false] at hx
    rcases hx with rfl | rfl | rfl | rfl
    · exact ⟨ha, nearI_in hc hd hcd⟩
    · exact ⟨hb, nearI_in hc hd hcd⟩
    · exact ⟨nearI_in ha hb hab, hc⟩
    · exact ⟨nearI_in ha hb hab, hd⟩
  have hlen : cs.length = 4 := by rw [hcs]; rfl
  have hch : chosenI (a1, a2) (b1, b2) (c1, c2) (d1, d2) = bestL cs 3 := by rw [hcs]; rfl
  have HCS := Lib.hid hcs
  have HIN := Lib.hid hin
  have HLEN := Lib.hid hlen
  rw [hch]
  obtain ⟨⟨⟨w1, w2⟩, w3, w4⟩, hfin⟩ : ∃ fin, bestL cs 3 = fin := ⟨_, rfl⟩
  rw [hfin]
  have HFIN := Lib.hid hfin
  clear hin hlen hch hcs hfin
  go_enter Tryz.func114, Tryz.ntmps114
  go_upto_region 1 with fail
  refine wp_region_grow_tail 24 (by kernel_rfl) (by kernel_rfl) ?_
  simp only [List.take_succ_cons, List.take_zero]
  repeat (first | go_big_quiet_skip | (go_big_quiet_want; go_big_quiet_op; first | go_big_quiet_on | (go_big_quiet_call (first
      | (go_at_call 146; exact Calls.grow_of (refNear_any _ _ _ _ _ _ _ (by assumption) (by assumption) (by assumption) (by assumption)))))))
  refine wpQuiet_nil ?_
  rintro _ ⟨g1, rfl⟩
  simp only [List.drop_succ_cons, List.drop_zero]
  clear ha hb hc hd hab hcd
  generalize nearI (c1, c2) (d1, d2) (a1, a2) = n1 at *
  generalize nearI (c1, c2) (d1, d2) (b1, b2) = n2 at *
  generalize nearI (a1, a2) (b1, b2) (c1, c2) = n3 at *
  generalize nearI (a1, a2) (b1, b2) (d1, d2) = n4 at *
  go_upto_region 3 with fail
  have hcl : ∃ (c0 : V × V) (cc : Array Value), cc.toList = cs.flatMap twoE.cells ∧ c0 = bestL cs 0 ∧ cc = #[.int .i32 a1, .int .i32 a2, .int .i32 n1.1, .int .i32 n1.2, .int .i32 b1, .int .i32 b2, .int .i32 n2.1, .int .i32 n2.2, .int .i32 n3.1, .int .i32 n3.2, .int .i32 c1, .int .i32 c2, .int .i32 n4.1, .int .i32 n4.2, .int .i32 d1, .int .i32 d2] ∧ twoC c0 = #[.int .i32 a1, .int .i32 a2, .int .i32 n1.1, .int .i32 n1.2] := by
    refine ⟨((a1, a2), n1), _, ?_, ?_, rfl, rfl⟩
    · rw [HCS.out]; rfl
    · rw [HCS.out]; rfl
  obtain ⟨c0, cc, hcc, hc0, ecc, ec0⟩ := hcl
  rw [← ecc, ← ec0]
  have KB : CellsAt ((g1.world.alloc (.cells cc 144)).alloc (.cells (twoC c0) 144)) (g1.world.heap.size + 1) (twoC c0) 144 := CellsAt.newAt (by simp) rfl
  have KR : CellsAt ((g1.world.alloc (.cells cc 144)).alloc (.cells (twoC c0) 144)) (w.heap.size + 1 + 1 + 1 + 1) #[.int .i32 0, .int .i32 0, .int .i32 0, .int .i32 0] 144 := (by repeat (first | with_reducible exact CellsAt.newAt (by first | rfl | (simp; done) | omega) rfl | with_reducible refine CellsAt.alloc ?_ _ | with_reducible refine CellsAt.drewN ?_ _ | with_reducible refine CellsAt.drew ?_ | with_reducible refine CellsAt.grow ?_ _ | with_reducible refine CellsAt.far ?_ (by first | omega | (simp; done) | (simp; omega)) _))
  have HR : Reads twoE ((g1.world.alloc (.cells cc 144)).alloc (.cells (twoC c0) 144)) (.slice (some ⟨g1.world.heap.size, 0, none⟩) cs.length 4) cs := (reads_alloc cc cs hcc (by rw [HLEN.out]; omega)).alloc _
  have hB : Below w.heap.size w ((g1.world.alloc (.cells cc 144)).alloc (.cells (twoC c0) 144)) := (by repeat (first | with_reducible exact Below.refl _ _ | with_reducible refine bel_alloc ?_ _ | with_reducible refine bel_drewN ?_ _ | with_reducible refine bel_drew ?_ | with_reducible refine bel_grow ?_ _ | with_reducible refine bel_set ?_ (by first | omega | (simp; done) | (simp; omega)) _))
  have l1 := g1.le
  simp at l1
  generalize (g1.world.alloc (.cells cc 144)).alloc (.cells (twoC c0) 144) = W0 at *
  rw [hc0] at KB
  clear ecc ec0 hcc hc0
  obtain ⟨A', c', b', o', eS, hA', hx'⟩ := HR.form
  rw [HLEN.out] at eS hA'
  simp only [Value.slice.injEq, true_and] at eS
  obtain ⟨rfl, rfl⟩ := eS
  obtain ⟨eA, zA⟩ := hA' (by omega)
  simp only [Option.some.injEq, Addr.mk.injEq, and_true] at eA
  obtain ⟨rfl, rfl⟩ := eA
  have HX := Lib.hid hx'
  have HKB := Lib.hid KB
  have HKR := Lib.hid KR
  have HB := Lib.hid hB
  clear KB KR HR hB hA' hx'
  go_wp2
  go_loopw [11] (fun i wr => ∃ m : Nat, 1 ≤ m ∧ m ≤ 4 ∧ i = .int .i64 m ∧ CellsAt wr (g1.world.heap.size + 1) (twoC (bestL cs (m - 1))) 144 ∧ Alter (fun k => k = g1.world.heap.size + 1) W0 wr) (fun i _ => 4 - (intOf i).toNat)
  case atStart => exact ⟨1, by omega, by omega, rfl, HKB.out, Alter.refl _ _⟩
  case round =>
    obtain ⟨m, m1, m4, rfl, hK, hAl⟩ := hrel
    have hbI := bestL_in HIN.out (m - 1) (by rw [HLEN.out]; omega)
    by_cases hlt : m < 4
    · have hlt' : (m : Int) < 4 := by omega
      have ix := fun W => idx_two (A := some ⟨g1.world.heap.size, 0, none⟩) (c := 4) rfl hlt W
      have hml : m < cs.length := by rw [HLEN.out]; exact hlt
      have hq := fun j u h => (hAl.cell zA (by simp)).trans (HX.out m hml j u h)
      have hcI := HIN.out cs[m] (List.getElem_mem hml)
      have hnx : bestL cs m = pickI (bestL cs (m - 1)) cs[m] := by
        obtain ⟨n, rfl⟩ : ∃ n, m = n + 1 := ⟨m - 1, by omega⟩
        show pickI (bestL cs n) (cs.getD (n + 1) _) = _
        rw [List.getD_eq_getElem?_getD, List.getElem?_eq_getElem hml]
        rfl
      generalize cs[m] = c at *
      generalize bestL cs (m - 1) = b at *
      obtain ⟨⟨e1, e2⟩, e3, e4⟩ := c
      obtain ⟨⟨f1, f2⟩, f3, f4⟩ := b
      have q0 := hq 0 _ rfl
      have q1 := hq 1 _ rfl
      have q2 := hq 2 _ rfl
      have q3 := hq 3 _ rfl
      simp only [show twoE.sz = 4 from rfl, Nat.zero_add, Nat.add_zero] at q0 q1 q2 q3 ix
      generalize m * 4 = o at *
      have lK := hK.lt
      have lS : g1.world.heap.size < wr.heap.size := Nat.lt_of_lt_of_le zA hAl.size
      have kk1 : wr.cell? ⟨(g1.world.heap.size + 1), 0, none⟩ = some (.int .i32 f1) := hK.at 0 rfl
      have kk2 : wr.cell? ⟨(g1.world.heap.size + 1), 1, none⟩ = some (.int .i32 f2) := hK.at 1 rfl
      have kk3 : wr.cell? ⟨(g1.world.heap.size + 1), 2, none⟩ = some (.int .i32 f3) := hK.at 2 rfl
      have kk4 : wr.cell? ⟨(g1.world.heap.size + 1), 3, none⟩ = some (.int .i32 f4) := hK.at 3 rfl
      have HK := Lib.hid hK
      have HAl := Lib.hid hAl
      clear hK hAl hq
      have HNX := Lib.hid hnx
      clear hnx
      by_cases hd : distI ((e1, e2), e3, e4) < distI ((f1, f2), f3, f4)
      · have hpk : pickI ((f1, f2), f3, f4) ((e1, e2), e3, e4) = ((e1, e2), e3, e4) := if_pos hd
        have HPK := Lib.hid hpk
        clear hpk
        go_wp2
        refine wp_region_grow (by kernel_rfl) (by kernel_rfl) ?_
        repeat (first | go_big_quiet_skip | (go_big_quiet_want; go_big_quiet_op; first | go_big_quiet_on | (go_big_quiet_call (first
            | (go_at_call 75; exact Calls.grow_of (refDist_any _ _ _ _ _ (by first | exact hcI | exact hbI)))))))
        refine wpQuiet_nil ?_
        rintro _ ⟨g2, rfl⟩
        have fz : ∀ o, g2.world.frozen? ⟨g1.world.heap.size + 1, o, none⟩ = false := fun o => (g2.froz lK).trans (HK.out.froz o)
        generalize distI ((e1, e2), e3, e4) = d1 at *
        generalize distI ((f1, f2), f3, f4) = d2 at *
        go_wp2
        go_roundw
        case rel =>
          refine ⟨m + 1, by omega, by omega, by go_num, ?_, alter_set (alter_set (alter_set (alter_set (alter_grow HAl.out g2) (.inl rfl) _) (.inl rfl) _) (.inl rfl) _) (.inl rfl) _⟩
          rw [Nat.add_sub_cancel, HNX.out, HPK.out]
          exact (((((HK.out.grow g2).set 0 _).set 1 _).set 2 _).set 3 _).eq (by simp)
        case measure => simp [intOf]; omega
      · have hpk : pickI ((f1, f2), f3, f4) ((e1, e2), e3, e4) = ((f1, f2), f3, f4) := if_neg hd
        have HPK := Lib.hid hpk
        clear hpk
        go_wp2
        refine wp_region_grow (by kernel_rfl) (by kernel_rfl) ?_
        repeat (first | go_big_quiet_skip | (go_big_quiet_want; go_big_quiet_op; first | go_big_quiet_on | (go_big_quiet_call (first
            | (go_at_call 75; exact Calls.grow_of (refDist_any _ _ _ _ _ (by first | exact hcI | exact hbI)))))))
        refine wpQuiet_nil ?_
        rintro _ ⟨g2, rfl⟩
        generalize distI ((e1, e2), e3, e4) = d1 at *
        generalize distI ((f1, f2), f3, f4) = d2 at *
        go_wp2
        go_roundw
        case rel =>
          refine ⟨m + 1, by omega, by omega, by go_num, ?_, alter_grow HAl.out g2⟩
          rw [Nat.add_sub_cancel, HNX.out, HPK.out]
          exact HK.out.grow g2
        case measure => simp [intOf]; omega
    · obtain rfl : m = 4 := by omega
      have hK2 : CellsAt wr (g1.world.heap.size + 1) (twoC (bestL cs 3)) 144 := hK
      have kR := HKR.out.alter hAl (by omega)
      have hBB := HB.out.trans (hAl.below HB.out.size fun k hk e => by have e2 : k = g1.world.heap.size + 1 := e; omega)
      rw [HFIN.out] at hK2
      have lK := hK.lt
      have lR := kR.lt
      have fz : ∀ o, wr.frozen? ⟨w.heap.size + 1 + 1 + 1 + 1, o, none⟩ = false := fun o => kR.froz o
      have kk5 : wr.cell? ⟨(g1.world.heap.size + 1), 0, none⟩ = some (.int .i32 w1) := hK2.at 0 rfl
      have kk6 : wr.cell? ⟨(g1.world.heap.size + 1), 1, none⟩ = some (.int .i32 w2) := hK2.at 1 rfl
      have kk7 : wr.cell? ⟨(g1.world.heap.size + 1), 2, none⟩ = some (.int .i32 w3) := hK2.at 2 rfl
      have kk8 : wr.cell? ⟨(g1.world.heap.size + 1), 3, none⟩ = some (.int .i32 w4) := hK2.at 3 rfl
      have kk9 : wr.cell? ⟨(w.heap.size + 1 + 1 + 1 + 1), 0, none⟩ = some (.int .i32 0) := kR.at 0 rfl
      have kk10 : wr.cell? ⟨(w.heap.size + 1 + 1 + 1 + 1), 1, none⟩ = some (.int .i32 0) := kR.at 1 rfl
      have kk11 : wr.cell? ⟨(w.heap.size + 1 + 1 + 1 + 1), 2, none⟩ = some (.int .i32 0) := kR.at 2 rfl
      have kk12 : wr.cell? ⟨(w.heap.size + 1 + 1 + 1 + 1), 3, none⟩ = some (.int .i32 0) := kR.at 3 rfl
      have HKQ := Lib.hid kR
      have HBQ := Lib.hid hBB
      clear hK hK2 kR hBB hAl hbI
      go_wp2
      refine bodyPost_ret (v := .agg #[.int .i32 w1, .int .i32 w2, .int .i32 w3, .int .i32 w4]) (ret_cells (w.heap.size + 1 + 1 + 1 + 1) #[.int .i32 w1, .int .i32 w2, .int .i32 w3, .int .i32 w4] 144 ?_ ?_) rfl ⟨rfl, ?_⟩
      · exact ((((HKQ.out.set 0 _).set 1 _).set 2 _).set 3 _).eq (by simp)
      · intro W K
        have kk13 : W.cell? ⟨(w.heap.size + 1 + 1 + 1 + 1), 0, none⟩ = some (.int .i32 w1) := K.at 0 rfl
        have kk14 : W.cell? ⟨(w.heap.size + 1 + 1 + 1 + 1), 1, none⟩ = some (.int .i32 w2) := K.at 1 rfl
        have kk15 : W.cell? ⟨(w.heap.size + 1 + 1 + 1 + 1), 2, none⟩ = some (.int .i32 w3) := K.at 2 rfl
        have kk16 : W.cell? ⟨(w.heap.size + 1 + 1 + 1 + 1), 3, none⟩ = some (.int .i32 w4) := K.at 3 rfl
        simp [results, Tryz.results114, go_sem, *]
      · have hB := HBQ.out
        repeat (first | with_reducible exact hB | with_reducible refine bel_set ?_ (by first | omega | (simp; done) | (simp; omega)) _)
end Go.Proofs.YtnhaiecbjipodaaGreatDoor
/- The contracts of the references' contact of two bodies. -/
namespace Go.Proofs.YtnhaiecbjipodaaGreatDoor
open Go.RowKit
attribute [local go_sem] Grow.cell Grow.froz Grow.lt lt_s1 lt_s2 lt_s3 lt_s4 lt_s5
theorem root_unique {n r s : Int} (h : RootOf n r) (k : RootOf n s) : r = s := by
  have key : ∀ {a b : Int}, RootOf n a → RootOf n b → ¬ a < b := fun {a b} ha hb hlt => by
    have h1 : (a + 1) * (a + 1) ≤ b * b := Int.mul_le_mul (by omega) (by omega) (by have := ha.r0; omega) hb.r0
    have := ha.lt
    have := hb.le
    omega
  have := key h k
  have := key k h
  omega
noncomputable def rootI (n : Int) : Int := open Classical in if h : ∃ r, RootOf n r then h.choose else 0
theorem rootI_of {n r : Int} (h : RootOf n r) : r = rootI n := by
  have he : ∃ r, RootOf n r := ⟨r, h⟩
  have : rootI n = he.choose := by unfold rootI; rw [dif_pos he]
  rw [this]
  exact root_unique h he.choose_spec
theorem refLen_fl (dx dy : Int) (w : World) (h0 : -2181038080 ≤ dx) (h1 : dx ≤ 2181038080) (h2 : -2181038080 ≤ dy) (h3 : dy ≤ 2181038080) :
    Calls Tryz.prog 77 #[.int .i64 dx, .int .i64 dy] w fun e w' => e = .returned (.int .i64 (rootI (lenSqI dx dy))) ∧ Below w.heap.size w w' :=
  (refLength_any dx dy w h0 h1 h2 h3).mono fun _ _ ⟨_, e, hr, hw⟩ => ⟨by rw [e, rootI_of hr], by subst hw; exact Below.refl _ _⟩
noncomputable def refUnitI (dx dy : Int) : Int × Int := if dx = 0 ∧ dy = 0 then (65536, 0) else (wrap32 (dx * 65536 / rootI (lenSqI dx dy)), wrap32 (dy * 65536 / rootI (lenSqI dx dy)))
set_option maxHeartbeats 1000000 in
theorem refUnit_fl (dx dy : Int) (w : World) (h0 : -2181038080 ≤ dx) (h1 : dx ≤ 2181038080) (h2 : -2181038080 ≤ dy) (h3 : dy ≤ 2181038080) :
    Calls Tryz.prog 76 #[.int .i64 dx, .int .i64 dy] w fun e w' => e = .returned (.agg #[.int .i32 (refUnitI dx dy).1, .int .i32 (refUnitI dx dy).2]) ∧ Below w.heap.size w w' := by
  unfold refUnitI
  by_cases hz : dx = 0 ∧ dy = 0
  · rw [if_pos hz]
    obtain ⟨rfl, rfl⟩ := hz
    go_enter Tryz.func76, Tryz.ntmps76
    go_wp2
    refine bodyPost_ret (v := .agg #[.int .i32 65536, .int .i32 0]) (by simp [results, Tryz.results76, go_sem]) rfl ⟨rfl, ?_⟩
    repeat (first | with_reducible exact Below.refl _ _ | with_reducible refine bel_alloc ?_ _ | with_reducible refine bel_set ?_ (by first | omega | (simp; done) | (simp; omega)) _)
  · rw [if_neg hz]
    have hp := lenSq_zero hz
    have hzb : (dx == 0 && dy == 0) = false := by
      rw [Bool.and_eq_false_iff]
      by_cases hx : dx = 0
      · right; simp; exact fun e => hz ⟨hx, e⟩
      · left; simpa using hx
    have HL := Lib.hid fun w => refLength_any dx dy w h0 h1 h2 h3
    obtain ⟨R, hR⟩ : ∃ R, R = rootI (lenSqI dx dy) := ⟨_, rfl⟩
    have HR := Lib.hid hR
    rw [← hR]
    clear hz hR
    by_cases hx : (dx == 0) = true
    all_goals
      first
        | (have hx' : (dx == 0) = false := by simpa using hx
           clear hx hzb)
        | (have hy' : (dy == 0) = false := by rw [hx] at hzb; simpa using hzb
           clear hzb)
      go_enter Tryz.func76, Tryz.ntmps76
      go_wp2_with fail
      refine (HL.out _).mono ?_
      rintro e w' ⟨r, rfl, hr, rfl⟩
      have r0 := hr.pos hp
      have r1 := hr.r1
      have hrr := rootI_of hr
      rw [← HR.out] at hrr
      subst hrr
      clear hr
      go_wp2_with fail
      refine (refFloor_wide _ _ _ (by omega) (by omega) (by omega) (by omega)).mono ?_
      rintro e w' ⟨rfl, rfl⟩
      go_wp2_with fail
      refine (refFloor_wide _ _ _ (by omega) (by omega) (by omega) (by omega)).mono ?_
      rintro e w' ⟨rfl, rfl⟩
      go_wp2_with fail
      refine bodyPost_ret (v := .agg #[.int .i32 (wrap32 (dx * 65536 / r)), .int .i32 (wrap32 (dy * 65536 / r))]) (by simp [results, Tryz.results76, go_sem]) rfl ⟨rfl, ?_⟩
      repeat (first | with_reducible exact Below.refl _ _ | with_reducible refine bel_alloc ?_ _ | with_reducible refine bel_set ?_ (by first | omega | (simp; done) | (simp; omega)) _)
theorem end_wrap {b : Body} (h : Placed b) : wrap32 (b.px - b.ax) = (endA b).1 ∧ wrap32 (b.py - b.ay) = (endA b).2 ∧ wrap32 (b.px + b.ax) = (endB b).1 ∧ wrap32 (b.py + b.ay) = (endB b).2 := by
  obtain ⟨h1, h2, h3, h4, h5⟩ := h
  unfold endA endB
  simp only
  exact ⟨w32 (by omega), w32 (by omega), w32 (by omega), w32 (by omega)⟩
theorem refFirst_pl (b : Body) (w : World) (h : Placed b) : Calls Tryz.prog 115 #[.agg b.arr] w fun e w' => e = .returned (.agg #[.int .i32 (endA b).1, .int .i32 (endA b).2]) ∧ Below w.heap.size w w' := by
  have := refFirst_any b w
  rw [(end_wrap h).1, (end_wrap h).2.1] at this
  exact this
theorem refSecond_pl (b : Body) (w : World) (h : Placed b) : Calls Tryz.prog 116 #[.agg b.arr] w fun e w' => e = .returned (.agg #[.int .i32 (endB b).1, .int .i32 (endB b).2]) ∧ Below w.heap.size w w' := by
  have := refSecond_any b w
  rw [(end_wrap h).2.2.1, (end_wrap h).2.2.2] at this
  exact this
/-- The same, the ten numbers apart. -/
theorem refFirst_sp (k r ax ay i bo px py vx vy : Int) (w : World) (h : Placed ⟨k, r, ax, ay, i, bo, px, py, vx, vy⟩) : Calls Tryz.prog 115 #[.agg #[.int .u32 k, .int .i32 r, .int .i32 ax, .int .i32 ay, .int .i32 i, .int .i32 bo, .int .i32 px, .int .i32 py, .int .i32 vx, .int .i32 vy]] w fun e w' => e = .returned (.agg #[.int .i32 (endA ⟨k, r, ax, ay, i, bo, px, py, vx, vy⟩).1, .int .i32 (endA ⟨k, r, ax, ay, i, bo, px, py, vx, vy⟩).2]) ∧ Below w.heap.size w w' := refFirst_pl ⟨k, r, ax, ay, i, bo, px, py, vx, vy⟩ w h
theorem refSecond_sp (k r ax ay i bo px py vx vy : Int) (w : World) (h : Placed ⟨k, r, ax, ay, i, bo, px, py, vx, vy⟩) : Calls Tryz.prog 116 #[.agg #[.int .u32 k, .int .i32 r, .int .i32 ax, .int .i32 ay, .int .i32 i, .int .i32 bo, .int .i32 px, .int .i32 py, .int .i32 vx, .int .i32 vy]] w fun e w' => e = .returned (.agg #[.int .i32 (endB ⟨k, r, ax, ay, i, bo, px, py, vx, vy⟩).1, .int .i32 (endB ⟨k, r, ax, ay, i, bo, px, py, vx, vy⟩).2]) ∧ Below w.heap.size w w' := refSecond_pl ⟨k, r, ax, ay, i, bo, px, py, vx, vy⟩ w h
set_option maxRecDepth 100000 in
set_option maxHeartbeats 4000000 in
theorem refChosenOf_any (a b : Body) (w : World) (ha : Placed a) (hb : Placed b) :
    Calls Tryz.prog 74 #[.agg a.arr, .agg b.arr] w fun e w' => e = .returned (.agg (twoC (betweenI a b))) ∧ Below w.heap.size w w' := by
  have ea := ends_in ha
  have eb := ends_in hb
  have HC := Lib.hid fun W => refChosen_any (endA a).1 (endA a).2 (endB a).1 (endB a).2 (endA b).1 (endA b).2 (endB b).1 (endB b).2 W ea.1 ea.2.1 eb.1 eb.2.1 ea.2.2 eb.2.2
  have hbt : chosenI ((endA a).1, (endA a).2) ((endB a).1, (endB a).2) ((endA b).1, (endA b).2) ((endB b).1, (endB b).2) = betweenI a b := rfl
  rw [hbt] at HC
  clear hbt ea eb
  obtain ⟨z, hz⟩ : ∃ z, z = betweenI a b := ⟨_, rfl⟩
  rw [← hz] at HC ⊢
  clear hz
  obtain ⟨ak, ar, aax, aay, ai, abo, apx, apy, avx, avy⟩ := a
  obtain ⟨bk, br, bax, bay, bi, bbo, bpx, bpy, bvx, bvy⟩ := b
  obtain ⟨⟨z1, z2⟩, z3, z4⟩ := z
  go_enter Tryz.func74, Tryz.ntmps74
  go_wp2_with fail
  refine wp_region_grow_tail 8 (by kernel_rfl) (by kernel_rfl) ?_
  simp only [List.take_succ_cons, List.take_zero]
  repeat (first | go_big_quiet_skip | (go_big_quiet_want; go_big_quiet_op; first | go_big_quiet_on | (go_big_quiet_call (first
      | (go_at_call 115; exact Calls.grow_of (refFirst_sp _ _ _ _ _ _ _ _ _ _ _ (by assumption)))
      | (go_at_call 116; exact Calls.grow_of (refSecond_sp _ _ _ _ _ _ _ _ _ _ _ (by assumption)))))))
  refine wpQuiet_nil ?_
  rintro _ ⟨g1, rfl⟩
  simp only [List.drop_succ_cons, List.drop_zero]
  have zz1 : w.heap.size + 1 + 1 < g1.world.heap.size := Nat.lt_of_lt_of_le (by first | omega | (simp; done) | (simp; omega)) g1.le
  go_wp2_with fail
  refine (HC.out _).mono ?_
  rintro e w1 ⟨rfl, hb⟩
  obtain ⟨g2, rfl⟩ := Grow.of hb
  clear hb
  have zz2 : w.heap.size + 1 + 1 < g2.world.heap.size := Nat.lt_of_lt_of_le (by first | omega | (simp; done) | (simp; omega)) g2.le
  have c0 : CellsAt g2.world (w.heap.size + 1 + 1) #[.int .i32 0, .int .i32 0, .int .i32 0, .int .i32 0] 144 := (by repeat (first | with_reducible exact CellsAt.newAt (by first | rfl | (simp; done) | omega) rfl | with_reducible refine CellsAt.alloc ?_ _ | with_reducible refine CellsAt.drewN ?_ _ | with_reducible refine CellsAt.drew ?_ | with_reducible refine CellsAt.grow ?_ _ | with_reducible refine CellsAt.far ?_ (by first | omega | (simp; done) | (simp; omega)) _))
  have kk3 : g2.world.frozen? ⟨w.heap.size + 1 + 1, 0, none⟩ = false := c0.froz 0
  have kk4 : g2.world.frozen? ⟨w.heap.size + 1 + 1, 1, none⟩ = false := c0.froz 1
  have kk5 : g2.world.frozen? ⟨w.heap.size + 1 + 1, 2, none⟩ = false := c0.froz 2
  have kk6 : g2.world.frozen? ⟨w.heap.size + 1 + 1, 3, none⟩ = false := c0.froz 3
  have kk7 : g2.world.cell? ⟨w.heap.size + 1 + 1, 0, none⟩ = some (.int .i32 0) := c0.at 0 rfl
  have kk8 : g2.world.cell? ⟨w.heap.size + 1 + 1, 1, none⟩ = some (.int .i32 0) := c0.at 1 rfl
  have kk9 : g2.world.cell? ⟨w.heap.size + 1 + 1, 2, none⟩ = some (.int .i32 0) := c0.at 2 rfl
  have kk10 : g2.world.cell? ⟨w.heap.size + 1 + 1, 3, none⟩ = some (.int .i32 0) := c0.at 3 rfl
  go_wp2_with fail
  refine bodyPost_ret (v := .agg #[.int .i32 z1, .int .i32 z2, .int .i32 z3, .int .i32 z4]) (ret_cells (w.heap.size + 1 + 1) #[.int .i32 z1, .int .i32 z2, .int .i32 z3, .int .i32 z4] 144 ?_ ?_) rfl ⟨rfl, (by repeat (first | with_reducible exact Below.refl _ _ | with_reducible refine bel_alloc ?_ _ | with_reducible refine bel_drewN ?_ _ | with_reducible refine bel_drew ?_ | with_reducible refine bel_grow ?_ _ | with_reducible refine bel_set ?_ (by first | omega | (simp; done) | (simp; omega)) _))⟩
  · exact ((((c0.set 0 _).set 1 _).set 2 _).set 3 _).eq (by simp)
  · intro W K
    have kk11 : W.cell? ⟨(w.heap.size + 1 + 1), 0, none⟩ = some (.int .i32 z1) := K.at 0 rfl
    have kk12 : W.cell? ⟨(w.heap.size + 1 + 1), 1, none⟩ = some (.int .i32 z2) := K.at 1 rfl
    have kk13 : W.cell? ⟨(w.heap.size + 1 + 1), 2, none⟩ = some (.int .i32 z3) := K.at 2 rfl
    have kk14 : W.cell? ⟨(w.heap.size + 1 + 1), 3, none⟩ = some (.int .i32 z4) := K.at 3 rfl
    simp [results, Tryz.results74, go_sem, *]
end Go.Proofs.YtnhaiecbjipodaaGreatDoor
/- The contract of the references' Of: the contact of two bodies. -/
namespace Go.Proofs.YtnhaiecbjipodaaGreatDoor
open Go.RowKit
attribute [local go_sem] Grow.cell Grow.froz Grow.lt lt_s1 lt_s2 lt_s3 lt_s4 lt_s5
theorem rootI_bd (n : Int) : 0 ≤ rootI n ∧ rootI n ≤ 4294967295 := by
  unfold rootI
  split
  · rename_i h
    exact ⟨h.choose_spec.r0, h.choose_spec.r1⟩
  · omega
/-- What the reference says of two bodies that touch. -/
noncomputable def conR (a b : Body) : Con := if touchI a b = true then ⟨a.key, b.key, (refUnitI (gapX a b) (gapY a b)).1, (refUnitI (gapX a b) (gapY a b)).2, wrap32 (a.radius + b.radius - rootI (lenSqI (gapX a b) (gapY a b)))⟩ else ⟨0, 0, 0, 0, 0⟩
set_option maxRecDepth 100000 in
set_option maxHeartbeats 4000000 in
theorem refOf_any (ak ar aax aay ai abo apx apy avx avy bk br bax bay bi bbo bpx bpy bvx bvy : Int) (w : World) (ha : Placed ⟨ak, ar, aax, aay, ai, abo, apx, apy, avx, avy⟩) (hb : Placed ⟨bk, br, bax, bay, bi, bbo, bpx, bpy, bvx, bvy⟩) (hk : ak < bk) :
    Calls Tryz.prog 36 #[.agg #[.int .u32 ak, .int .i32 ar, .int .i32 aax, .int .i32 aay, .int .i32 ai, .int .i32 abo, .int .i32 apx, .int .i32 apy, .int .i32 avx, .int .i32 avy], .agg #[.int .u32 bk, .int .i32 br, .int .i32 bax, .int .i32 bay, .int .i32 bi, .int .i32 bbo, .int .i32 bpx, .int .i32 bpy, .int .i32 bvx, .int .i32 bvy]] w fun e w' =>
      e = .returned (.tuple #[.agg #[.int .u32 (conR ⟨ak, ar, aax, aay, ai, abo, apx, apy, avx, avy⟩ ⟨bk, br, bax, bay, bi, bbo, bpx, bpy, bvx, bvy⟩).lo, .int .u32 (conR ⟨ak, ar, aax, aay, ai, abo, apx, apy, avx, avy⟩ ⟨bk, br, bax, bay, bi, bbo, bpx, bpy, bvx, bvy⟩).hi, .int .i32 (conR ⟨ak, ar, aax, aay, ai, abo, apx, apy, avx, avy⟩ ⟨bk, br, bax, bay, bi, bbo, bpx, bpy, bvx, bvy⟩).nx, .int .i32 (conR ⟨ak, ar, aax, aay, ai, abo, apx, apy, avx, avy⟩ ⟨bk, br, bax, bay, bi, bbo, bpx, bpy, bvx, bvy⟩).ny, .int .i32 (conR ⟨ak, ar, aax, aay, ai, abo, apx, apy, avx, avy⟩ ⟨bk, br, bax, bay, bi, bbo, bpx, bpy, bvx, bvy⟩).dep], .bool (touchI ⟨ak, ar, aax, aay, ai, abo, apx, apy, avx, avy⟩ ⟨bk, br, bax, bay, bi, bbo, bpx, bpy, bvx, bvy⟩)]) ∧ Below w.heap.size w w' := by
  have HC := Lib.hid fun W => refChosenOf_any _ _ W ha hb
  have hin : InP (betweenI ⟨ak, ar, aax, aay, ai, abo, apx, apy, avx, avy⟩ ⟨bk, br, bax, bay, bi, bbo, bpx, bpy, bvx, bvy⟩) := by
    have ea := ends_in ha
    have eb := ends_in hb
    exact chosenI_in ea.1 ea.2.1 eb.1 eb.2.1 ea.2.2 eb.2.2
  have hti := touch_iff ⟨ak, ar, aax, aay, ai, abo, apx, apy, avx, avy⟩ ⟨bk, br, bax, bay, bi, bbo, bpx, bpy, bvx, bvy⟩
  have hcr : conR ⟨ak, ar, aax, aay, ai, abo, apx, apy, avx, avy⟩ ⟨bk, br, bax, bay, bi, bbo, bpx, bpy, bvx, bvy⟩ = if touchI ⟨ak, ar, aax, aay, ai, abo, apx, apy, avx, avy⟩ ⟨bk, br, bax, bay, bi, bbo, bpx, bpy, bvx, bvy⟩ = true then ⟨ak, bk, (refUnitI (gapX ⟨ak, ar, aax, aay, ai, abo, apx, apy, avx, avy⟩ ⟨bk, br, bax, bay, bi, bbo, bpx, bpy, bvx, bvy⟩) (gapY ⟨ak, ar, aax, aay, ai, abo, apx, apy, avx, avy⟩ ⟨bk, br, bax, bay, bi, bbo, bpx, bpy, bvx, bvy⟩)).1, (refUnitI (gapX ⟨ak, ar, aax, aay, ai, abo, apx, apy, avx, avy⟩ ⟨bk, br, bax, bay, bi, bbo, bpx, bpy, bvx, bvy⟩) (gapY ⟨ak, ar, aax, aay, ai, abo, apx, apy, avx, avy⟩ ⟨bk, br, bax, bay, bi, bbo, bpx, bpy, bvx, bvy⟩)).2, wrap32 (ar + br - rootI (lenSqI (gapX ⟨ak, ar, aax, aay, ai, abo, apx, apy, avx, avy⟩ ⟨bk, br, bax, bay, bi, bbo, bpx, bpy, bvx, bvy⟩) (gapY ⟨ak, ar, aax, aay, ai, abo, apx, apy, avx, avy⟩ ⟨bk, br, bax, bay, bi, bbo, bpx, bpy, bvx, bvy⟩)))⟩ else ⟨0, 0, 0, 0, 0⟩ := rfl
  have hgap : gapX ⟨ak, ar, aax, aay, ai, abo, apx, apy, avx, avy⟩ ⟨bk, br, bax, bay, bi, bbo, bpx, bpy, bvx, bvy⟩ = (betweenI ⟨ak, ar, aax, aay, ai, abo, apx, apy, avx, avy⟩ ⟨bk, br, bax, bay, bi, bbo, bpx, bpy, bvx, bvy⟩).2.1 - (betweenI ⟨ak, ar, aax, aay, ai, abo, apx, apy, avx, avy⟩ ⟨bk, br, bax, bay, bi, bbo, bpx, bpy, bvx, bvy⟩).1.1 := rfl
  have hgapy : gapY ⟨ak, ar, aax, aay, ai, abo, apx, apy, avx, avy⟩ ⟨bk, br, bax, bay, bi, bbo, bpx, bpy, bvx, bvy⟩ = (betweenI ⟨ak, ar, aax, aay, ai, abo, apx, apy, avx, avy⟩ ⟨bk, br, bax, bay, bi, bbo, bpx, bpy, bvx, bvy⟩).2.2 - (betweenI ⟨ak, ar, aax, aay, ai, abo, apx, apy, avx, avy⟩ ⟨bk, br, bax, bay, bi, bbo, bpx, bpy, bvx, bvy⟩).1.2 := rfl
  obtain ⟨r0, r1⟩ := ha.radius
  obtain ⟨r2, r3⟩ := hb.radius
  simp only at r0 r1 r2 r3 hti
  have hq := mul_abs (x := ar + br) (y := ar + br) (X := 8388608) (Y := 8388608) (by omega) (by omega) (by omega) (by omega)
  generalize conR ⟨ak, ar, aax, aay, ai, abo, apx, apy, avx, avy⟩ ⟨bk, br, bax, bay, bi, bbo, bpx, bpy, bvx, bvy⟩ = cr at *
  generalize touchI ⟨ak, ar, aax, aay, ai, abo, apx, apy, avx, avy⟩ ⟨bk, br, bax, bay, bi, bbo, bpx, bpy, bvx, bvy⟩ = tt at *
  generalize gapX ⟨ak, ar, aax, aay, ai, abo, apx, apy, avx, avy⟩ ⟨bk, br, bax, bay, bi, bbo, bpx, bpy, bvx, bvy⟩ = X at *
  generalize gapY ⟨ak, ar, aax, aay, ai, abo, apx, apy, avx, avy⟩ ⟨bk, br, bax, bay, bi, bbo, bpx, bpy, bvx, bvy⟩ = Y at *
  generalize betweenI ⟨ak, ar, aax, aay, ai, abo, apx, apy, avx, avy⟩ ⟨bk, br, bax, bay, bi, bbo, bpx, bpy, bvx, bvy⟩ = z at *
  obtain ⟨⟨x0, x1⟩, y0, y1⟩ := dist_bd hin
  have hin2 := hin
  obtain ⟨⟨z1, z2⟩, z3, z4⟩ := z
  simp only at hgap hgapy x0 x1 y0 y1
  have hDI : distI ((z1, z2), z3, z4) = lenSqI X Y := by unfold distI; rw [hgap, hgapy]
  have HD := Lib.hid fun W => refDist_any z1 z2 z3 z4 W hin
  rw [hDI] at HD
  subst hgap hgapy
  have l0 := lenSq_bd x0 x1 y0 y1
  obtain ⟨l0, l1⟩ := l0
  obtain ⟨b0, b1⟩ := rootI_bd (lenSqI (z3 - z1) (z4 - z2))
  have q0 : 0 ≤ (ar + br) * (ar + br) := Int.mul_nonneg (by omega) (by omega)
  have q1 : (ar + br) * (ar + br) ≤ 70368744177664 := by have := hq.2; omega
  clear hq
  obtain ⟨⟨⟨i0, i1⟩, i2, i3⟩, ⟨i4, i5⟩, i6, i7⟩ := hin2
  simp only at i0 i1 i2 i3 i4 i5 i6 i7
  clear ha hb hin hDI
  cases tt
  · have hnl : ¬ lenSqI (z3 - z1) (z4 - z2) < (ar + br) * (ar + br) := fun h => by have := hti.2 h; simp at this
    rw [if_neg (by simp)] at hcr
    subst hcr
    clear hti
    go_enter Tryz.func36, Tryz.ntmps36
    go_wp2_with fail
    refine (HC.out _).mono ?_
    rintro e w1 ⟨rfl, hb⟩
    obtain ⟨g1, rfl⟩ := Grow.of hb
    clear hb
    have zz1 : w.heap.size < g1.world.heap.size := Nat.lt_of_lt_of_le (by first | omega | (simp; done) | (simp; omega)) g1.le
    have zz2 : w.heap.size + 1 < g1.world.heap.size := Nat.lt_of_lt_of_le (by first | omega | (simp; done) | (simp; omega)) g1.le
    have zz3 : w.heap.size + 1 + 1 < g1.world.heap.size := Nat.lt_of_lt_of_le (by first | omega | (simp; done) | (simp; omega)) g1.le
    go_wp2_with fail
    refine (HD.out _).mono ?_
    rintro e w1 ⟨rfl, hb⟩
    obtain ⟨g2, rfl⟩ := Grow.of hb
    clear hb
    have zz4 : w.heap.size < g2.world.heap.size := Nat.lt_of_lt_of_le (by first | omega | (simp; done) | (simp; omega)) g2.le
    have zz5 : w.heap.size + 1 < g2.world.heap.size := Nat.lt_of_lt_of_le (by first | omega | (simp; done) | (simp; omega)) g2.le
    have zz6 : w.heap.size + 1 + 1 < g2.world.heap.size := Nat.lt_of_lt_of_le (by first | omega | (simp; done) | (simp; omega)) g2.le
    have c0 : CellsAt g2.world (w.heap.size + 1 + 1) #[.int .u32 0, .int .u32 0, .int .i32 0, .int .i32 0, .int .i32 0] 100 := (by repeat (first | with_reducible exact CellsAt.newAt (by first | rfl | (simp; done) | omega) rfl | with_reducible refine CellsAt.alloc ?_ _ | with_reducible refine CellsAt.drewN ?_ _ | with_reducible refine CellsAt.drew ?_ | with_reducible refine CellsAt.grow ?_ _ | with_reducible refine CellsAt.far ?_ (by first | omega | (simp; done) | (simp; omega)) _))
    have kk7 : g2.world.frozen? ⟨w.heap.size + 1 + 1, 0, none⟩ = false := c0.froz 0
    have kk8 : g2.world.frozen? ⟨w.heap.size + 1 + 1, 1, none⟩ = false := c0.froz 1
    have kk9 : g2.world.frozen? ⟨w.heap.size + 1 + 1, 2, none⟩ = false := c0.froz 2
    have kk10 : g2.world.frozen? ⟨w.heap.size + 1 + 1, 3, none⟩ = false := c0.froz 3
    have kk11 : g2.world.frozen? ⟨w.heap.size + 1 + 1, 4, none⟩ = false := c0.froz 4
    have kk12 : g2.world.cell? ⟨w.heap.size + 1 + 1, 0, none⟩ = some (.int .u32 0) := c0.at 0 rfl
    have kk13 : g2.world.cell? ⟨w.heap.size + 1 + 1, 1, none⟩ = some (.int .u32 0) := c0.at 1 rfl
    have kk14 : g2.world.cell? ⟨w.heap.size + 1 + 1, 2, none⟩ = some (.int .i32 0) := c0.at 2 rfl
    have kk15 : g2.world.cell? ⟨w.heap.size + 1 + 1, 3, none⟩ = some (.int .i32 0) := c0.at 3 rfl
    have kk16 : g2.world.cell? ⟨w.heap.size + 1 + 1, 4, none⟩ = some (.int .i32 0) := c0.at 4 rfl
    go_wp2_with fail
    refine bodyPost_ret (v := .tuple #[.agg #[.int .u32 0, .int .u32 0, .int .i32 0, .int .i32 0, .int .i32 0], .bool false]) (ret_cells (w.heap.size + 1 + 1) #[.int .u32 0, .int .u32 0, .int .i32 0, .int .i32 0, .int .i32 0] 100 ?_ ?_) rfl ⟨rfl, (by repeat (first | with_reducible exact Below.refl _ _ | with_reducible refine bel_alloc ?_ _ | with_reducible refine bel_drewN ?_ _ | with_reducible refine bel_drew ?_ | with_reducible refine bel_grow ?_ _ | with_reducible refine bel_set ?_ (by first | omega | (simp; done) | (simp; omega)) _))⟩
    · exact ((((((c0.set 0 _).set 1 _).set 2 _).set 3 _).set 4 _)).eq (by simp)
    · intro W K
      have kk17 : W.cell? ⟨w.heap.size + 1 + 1, 0, none⟩ = some (.int .u32 0) := K.at 0 rfl
      have kk18 : W.cell? ⟨w.heap.size + 1 + 1, 1, none⟩ = some (.int .u32 0) := K.at 1 rfl
      have kk19 : W.cell? ⟨w.heap.size + 1 + 1, 2, none⟩ = some (.int .i32 0) := K.at 2 rfl
      have kk20 : W.cell? ⟨w.heap.size + 1 + 1, 3, none⟩ = some (.int .i32 0) := K.at 3 rfl
      have kk21 : W.cell? ⟨w.heap.size + 1 + 1, 4, none⟩ = some (.int .i32 0) := K.at 4 rfl
      simp [results, Tryz.results36, go_sem, *]
  · have hnl : lenSqI (z3 - z1) (z4 - z2) < (ar + br) * (ar + br) := hti.1 rfl
    rw [if_pos rfl] at hcr
    subst hcr
    clear hti
    go_enter Tryz.func36, Tryz.ntmps36
    go_wp2_with fail
    refine (HC.out _).mono ?_
    rintro e w1 ⟨rfl, hb⟩
    obtain ⟨g1, rfl⟩ := Grow.of hb
    clear hb
    have zz22 : w.heap.size < g1.world.heap.size := Nat.lt_of_lt_of_le (by first | omega | (simp; done) | (simp; omega)) g1.le
    have zz23 : w.heap.size + 1 < g1.world.heap.size := Nat.lt_of_lt_of_le (by first | omega | (simp; done) | (simp; omega)) g1.le
    have zz24 : w.heap.size + 1 + 1 < g1.world.heap.size := Nat.lt_of_lt_of_le (by first | omega | (simp; done) | (simp; omega)) g1.le
    go_wp2_with fail
    refine (HD.out _).mono ?_
    rintro e w1 ⟨rfl, hb⟩
    obtain ⟨g2, rfl⟩ := Grow.of hb
    clear hb
    have zz25 : w.heap.size < g2.world.heap.size := Nat.lt_of_lt_of_le (by first | omega | (simp; done) | (simp; omega)) g2.le
    have zz26 : w.heap.size + 1 < g2.world.heap.size := Nat.lt_of_lt_of_le (by first | omega | (simp; done) | (simp; omega)) g2.le
    have zz27 : w.heap.size + 1 + 1 < g2.world.heap.size := Nat.lt_of_lt_of_le (by first | omega | (simp; done) | (simp; omega)) g2.le
    have zz28 : g1.world.heap.size < g2.world.heap.size := Nat.lt_of_lt_of_le (by first | omega | (simp; done) | (simp; omega)) g2.le
    go_wp2_with fail
    refine wp_region_grow_tail 15 (by kernel_rfl) (by kernel_rfl) ?_
    simp only [List.take_succ_cons, List.take_zero]
    repeat (first | go_big_quiet_skip | (go_big_quiet_want; go_big_quiet_op; first | go_big_quiet_on | (go_big_quiet_call (first
        | (go_at_call 76; exact Calls.grow_of (refUnit_fl _ _ _ (by omega) (by omega) (by omega) (by omega)))
        | (go_at_call 77; exact Calls.grow_of (refLen_fl _ _ _ (by omega) (by omega) (by omega) (by omega)))))))
    refine wpQuiet_nil ?_
    rintro _ ⟨g3, rfl⟩
    simp only [List.drop_succ_cons, List.drop_zero]
    have zz29 : w.heap.size < g3.world.heap.size := Nat.lt_of_lt_of_le (by first | omega | (simp; done) | (simp; omega)) g3.le
    have zz30 : w.heap.size + 1 < g3.world.heap.size := Nat.lt_of_lt_of_le (by first | omega | (simp; done) | (simp; omega)) g3.le
    have zz31 : w.heap.size + 1 + 1 < g3.world.heap.size := Nat.lt_of_lt_of_le (by first | omega | (simp; done) | (simp; omega)) g3.le
    have c0 : CellsAt g3.world (w.heap.size + 1 + 1) #[.int .u32 0, .int .u32 0, .int .i32 0, .int .i32 0, .int .i32 0] 100 := (by repeat (first | with_reducible exact CellsAt.newAt (by first | rfl | (simp; done) | omega) rfl | with_reducible refine CellsAt.alloc ?_ _ | with_reducible refine CellsAt.drewN ?_ _ | with_reducible refine CellsAt.drew ?_ | with_reducible refine CellsAt.grow ?_ _ | with_reducible refine CellsAt.far ?_ (by first | omega | (simp; done) | (simp; omega)) _))
    have kk32 : g3.world.frozen? ⟨w.heap.size + 1 + 1, 0, none⟩ = false := c0.froz 0
    have kk33 : g3.world.frozen? ⟨w.heap.size + 1 + 1, 1, none⟩ = false := c0.froz 1
    have kk34 : g3.world.frozen? ⟨w.heap.size + 1 + 1, 2, none⟩ = false := c0.froz 2
    have kk35 : g3.world.frozen? ⟨w.heap.size + 1 + 1, 3, none⟩ = false := c0.froz 3
    have kk36 : g3.world.frozen? ⟨w.heap.size + 1 + 1, 4, none⟩ = false := c0.froz 4
    have kk37 : g3.world.cell? ⟨w.heap.size + 1 + 1, 0, none⟩ = some (.int .u32 0) := c0.at 0 rfl
    have kk38 : g3.world.cell? ⟨w.heap.size + 1 + 1, 1, none⟩ = some (.int .u32 0) := c0.at 1 rfl
    have kk39 : g3.world.cell? ⟨w.heap.size + 1 + 1, 2, none⟩ = some (.int .i32 0) := c0.at 2 rfl
    have kk40 : g3.world.cell? ⟨w.heap.size + 1 + 1, 3, none⟩ = some (.int .i32 0) := c0.at 3 rfl
    have kk41 : g3.world.cell? ⟨w.heap.size + 1 + 1, 4, none⟩ = some (.int .i32 0) := c0.at 4 rfl
    go_wp2_with fail
    refine bodyPost_ret (v := .tuple #[.agg #[.int .u32 ak, .int .u32 bk, .int .i32 (refUnitI (z3 - z1) (z4 - z2)).1, .int .i32 (refUnitI (z3 - z1) (z4 - z2)).2, .int .i32 (wrap32 (ar + br - rootI (lenSqI (z3 - z1) (z4 - z2))))], .bool true]) (ret_cells (w.heap.size + 1 + 1) #[.int .u32 ak, .int .u32 bk, .int .i32 (refUnitI (z3 - z1) (z4 - z2)).1, .int .i32 (refUnitI (z3 - z1) (z4 - z2)).2, .int .i32 (wrap32 (ar + br - rootI (lenSqI (z3 - z1) (z4 - z2))))] 100 ?_ ?_) rfl ⟨rfl, (by repeat (first | with_reducible exact Below.refl _ _ | with_reducible refine bel_alloc ?_ _ | with_reducible refine bel_drewN ?_ _ | with_reducible refine bel_drew ?_ | with_reducible refine bel_grow ?_ _ | with_reducible refine bel_set ?_ (by first | omega | (simp; done) | (simp; omega)) _))⟩
    · exact ((((((c0.set 0 _).set 1 _).set 2 _).set 3 _).set 4 _)).eq (by simp)
    · intro W K
      have kk42 : W.cell? ⟨w.heap.size + 1 + 1, 0, none⟩ = some (.int .u32 ak) := K.at 0 rfl
      have kk43 : W.cell? ⟨w.heap.size + 1 + 1, 1, none⟩ = some (.int .u32 bk) := K.at 1 rfl
      have kk44 : W.cell? ⟨w.heap.size + 1 + 1, 2, none⟩ = some (.int .i32 (refUnitI (z3 - z1) (z4 - z2)).1) := K.at 2 rfl
      have kk45 : W.cell? ⟨w.heap.size + 1 + 1, 3, none⟩ = some (.int .i32 (refUnitI (z3 - z1) (z4 - z2)).2) := K.at 3 rfl
      have kk46 : W.cell? ⟨w.heap.size + 1 + 1, 4, none⟩ = some (.int .i32 (wrap32 (ar + br - rootI (lenSqI (z3 - z1) (z4 - z2))))) := K.at 4 rfl
      simp [results, Tryz.results36, go_sem, *]
end Go.Proofs.YtnhaiecbjipodaaGreatDoor
