/- maps.Keys at a map whose keys are pairs; slices.AppendSeq, Collect over it. -/
import Derived.Test.YtnhaiecbjipodaaGreatDoorB22
import Derived.Test.YtnhaiecbjipodaaGreatDoorB23
import Derived.Test.YtnhaiecbjipodaaGreatDoorB13
import Derived.Test.YtnhaiecbjipodaaGreatDoorB20
import Derived.Sort.MapsRangeIn
namespace Go.Proofs.YtnhaiecbjipodaaGreatDoor
open Go.RowKit Go.Shelf Go.Proofs
section
attribute [local go_sem] Grow.cell Grow.froz Grow.lt lt_s1 lt_s2 lt_s3 lt_s4 lt_s5
theorem mapsKeys_any (mb : Option Nat) (w : World) : Calls Tryz.prog 178 #[.map mb] w fun e w' => e = .returned (.func (.func 204) #[] #[.pointer (some ⟨w.heap.size, 0, none⟩)]) ∧ w' = w.alloc (.cells #[.map mb] 258) := by
  go_enter Tryz.func178, Tryz.ntmps178
  go_wp2
  go_ret
  exact ⟨rfl, rfl⟩
end
attribute [local go_sem] Oper.semAt_some
set_option maxRecDepth 100000 in
set_option maxHeartbeats 2000000 in
theorem keys1_in (F : Fence) (d : Nat) (hfn : F.fn 204) (hro : F.round = none) (hd : 1 ≤ d) (lp Bm b : Nat) (l : List ((Int × Int) × Value)) (J Jx : List (Int × Int) → World → Prop)
    (hY : ∀ pre x W, J pre W → pre.length < l.length → YieldAt F (d - 1) Tryz.prog lp #[pairV x] W fun e W' => (e = .returned (.bool true) ∧ J (pre ++ [x]) W' ∧ KeepsWalks W W') ∨ (e = .returned (.bool false) ∧ Jx (pre ++ [x]) W'))
    (W : World) (hJ : AbidesFrom W.heap.size J) (hm : W.cell? ⟨Bm, 0, none⟩ = some (.map (some b))) (hM : MapAt pairKey W b l) (h0 : J [] W) :
    CallsIn F d Tryz.prog 204 #[.func (.yield lp) #[] #[], .pointer (some ⟨Bm, 0, none⟩)] W fun e W' => (∃ v, e = .returned v) ∧ ((∃ ys, ys.Perm (l.map Prod.fst) ∧ J ys W') ∨ (∃ pre, True ∧ Jx pre W')) := by
  refine callsIn_of_wp Tryz.func204 rfl hfn ?_ hro
  simp only [Tryz.ntmps204, List.size_toArray, List.length_cons, List.length_nil, Nat.reduceAdd, Nat.reduceSub, Array.replicate_succ, Array.replicate_zero, List.push_toArray, List.append_toArray, List.nil_append, List.cons_append]
  gi_wp2_with (first
    | (gi_at_range; refine wpListIn_range_map (K := pairKey) rfl _ _ 259 rfl Tryz.underlying258 b l rfl hM ?_; intro w0 hrg0 hg0 hs0)
    | gi_in)
  go_frame
  gi_loopw [6] (fun _ wr => ∃ ss : List (Int × Int), IterAt pairKey wr b W.heap.size l ss ∧ J ss wr) (fun _ wr => wr.rangeLeft b W.heap.size)
  case atStart => exact ⟨[], hrg0, hJ [] W w0 none h0 hg0 (fun r e => by cases e)⟩
  case round =>
    obtain ⟨ss, hrg, hJs⟩ := hrel
    have hlf := hrg.left
    gi_wp2_with (first
      | (gi_at_next; refine wpListIn_next_map (K := pairKey) rfl _ rfl b W.heap.size l ss rfl hrg ?_ ?_)
      | gi_in)
    · intro hp
      gi_wp2
      go_end0
      exact ⟨⟨_, rfl⟩, .inl ⟨ss, hp, hJs⟩⟩
    · intro x1 x2 v w2 hrg2 hg2 hs2 hen
      have hJ2 : J ss w2 := hJ ss wr w2 (some W.heap.size) hJs hg2 (fun r e => by cases e; exact ⟨Nat.le_refl _, hrg.iter_walk⟩)
      have hJ3 : J ss (w2.alloc (.cells #[.int .u32 x1, .int .u32 x2] 98)) := hJ ss w2 _ none hJ2 (World.grownBy_alloc _ _ _) (fun r e => by cases e)
      have hlf2 := hrg2.left
      have hlt : ss.length < l.length := by simp at hlf2; omega
      obtain ⟨fn, tmps, assign, body, hy, hR⟩ := hY ss (x1, x2) _ hJ3 hlt
      have hrgA : IterAt pairKey (w2.alloc (.cells #[.int .u32 x1, .int .u32 x2] 98)) b W.heap.size l (ss ++ [(x1, x2)]) := hrg2.keeps (Below.heap_alloc _ _ _ hrg2.lt.1) (Below.heap_alloc _ _ _ hrg2.lt.2)
      clear hs2
      gi_wp2
      refine hR.mono ?_
      rintro e W3 (⟨rfl, hJ4, hk3⟩ | ⟨rfl, hJx3⟩)
      · gi_wp2
        have hrg3 := hrgA.of_walks hk3
        have hlf3 := hrg3.left
        go_roundw
        case rel => exact ⟨ss ++ [(x1, x2)], hrg3, hJ4⟩
        case measure => simp at hlf3 ⊢; omega
      · gi_wp2
        refine bodyPost_ret (results_none rfl _ _ _) rfl ?_
        exact ⟨⟨_, rfl⟩, .inr ⟨_, trivial, hJx3⟩⟩
theorem keys1_stops (F : Fence) (d : Nat) (hfn : F.fn 204) (hro : F.round = none) (hd : 1 ≤ d) (Bm b : Nat) (l : List ((Int × Int) × Value)) (w : World)
    (hm : w.cell? ⟨Bm, 0, none⟩ = some (.map (some b))) (hM : MapAt pairKey w b l) :
    SeqStopsK F d Tryz.prog 204 #[.pointer (some ⟨Bm, 0, none⟩)] (fun x : Int × Int => #[.agg #[.int .u32 x.1, .int .u32 x.2]]) KeepsWalks (fun ys => ys.Perm (l.map Prod.fst)) (fun _ => True) l.length w := fun lp J Jx W hW hJ _ hY h0 =>
  keys1_in F d hfn hro hd lp Bm b l J Jx hY W hJ ((hW.cell (World.block_lt_of_cell? w _ hm)).trans hm) (hM.of_block (hW.block b hM.lt)) h0
theorem pairInfo : (Tryz.prog.info? 98).map (fun i => (i.zero, i.size, i.bytes)) = some (some (.agg #[.int .u32 0, .int .u32 0]), 2, 8) := by kernel_rfl
set_option maxRecDepth 100000 in
set_option maxHeartbeats 2000000 in
theorem appendSeq_any (Bm b : Nat) (l : List ((Int × Int) × Value)) (w : World) (hl : l.length ≤ 100000000000) (hm : w.cell? ⟨Bm, 0, none⟩ = some (.map (some b))) (hM : MapAt pairKey w b l) :
    Calls Tryz.prog 223 #[.slice none 0 0, .func (.func 204) #[] #[.pointer (some ⟨Bm, 0, none⟩)]] w fun e w' => ∃ v ks, e = .returned v ∧ ks.Perm (l.map Prod.fst) ∧ Own pairE 98 w' w.heap.size v ks ∧ Below w.heap.size w w' := by
  refine (callsIn_wide (n := 8)).1 ?_
  refine callsIn_of_wp_marks Tryz.func223 rfl trivial ?_ rfl
  simp only [Tryz.ntmps223, List.size_toArray, List.length_cons, List.length_nil, Nat.reduceAdd, Nat.reduceSub, Array.replicate_succ, Array.replicate_zero, List.push_toArray, List.append_toArray, List.nil_append, List.cons_append]
  gi_wp2
  obtain ⟨w1, hw1⟩ : ∃ w1, w1 = w.alloc (.cells #[.slice none 0 0] 185) := ⟨_, rfl⟩
  rw [← hw1]
  have hb0 : Below w.heap.size w w1 := by rw [hw1]; exact (Below.refl _ _).alloc (Nat.le_refl _) _
  have hz : w1.heap.size = w.heap.size + 1 := by rw [hw1]; simp
  have bB : CellsAt w1 w.heap.size #[.slice none 0 0] 185 := by rw [hw1]; exact CellsAt.new _ _ _
  have hm1 : w1.cell? ⟨Bm, 0, none⟩ = some (.map (some b)) := (hb0.cell (World.block_lt_of_cell? w _ hm)).trans hm
  have hM1 : MapAt pairKey w1 b l := hM.of_block (hb0.block b hM.lt)
  clear hw1 hm hM
  obtain ⟨i0, hi, hz0, hz1, hz2⟩ := info_parts pairInfo
  refine wpIn_rangeFunc_ownH rfl (by omega) (gf := 204) (lb := #[.pointer (some ⟨Bm, 0, none⟩)]) rfl trivial (enters_of Tryz.func204 (by kernel_rfl) rfl)
    (keys1_stops Fence.wide (8 - 1) trivial rfl (by omega) Bm b l w1 hm1 hM1)
    (fun h k => h.trans k) (fun W l o o' hl h1 h2 h3 => KeepsWalks.putObj _ h1 h3) (Below.refl _ _) (fun _ => rfl)
    (fun pre W => (∃ v, CellsAt W w.heap.size #[v] 185 ∧ W.ownsRow w1.heap.size 98 2 v pre.length (pre.flatMap pairE.cells) ∧ True) ∧ Alter (fun k => k = w.heap.size) w1 W)
    (fun _ _ _ => False)
    (OwnFrom.and (_root_.Go.Own.from (holdsRow_own w1.heap.size w.heap.size 185 98 2 (fun pre : List (Int × Int) => pre.length) (fun pre => pre.flatMap pairE.cells) (fun _ _ => True)) _) (ownFrom_alter _ (Nat.le_refl _)))
    (fun _ _ _ _ _ hs _ _ => hs)
    ⟨⟨_, bB, World.ownsRow_nil _ _ _ _, trivial⟩, Alter.refl _ _⟩
    (fun x a' W => ∃ Bx, w1.heap.size ≤ Bx ∧ CellsAt W Bx #[.int .u32 x.1, .int .u32 x.2] 98 ∧ a' = { tmps := #[.slice none 0 0, .func (.func 204) #[] #[.pointer (some ⟨Bm, 0, none⟩)], .pointer (some ⟨w.heap.size, 0, none⟩), undef, .slice none 0 0, .pointer (some ⟨Bx, 0, none⟩), .func (.func 204) #[] #[.pointer (some ⟨Bm, 0, none⟩)], .agg #[.int .u32 x.1, .int .u32 x.2], undef, undef, undef, undef, undef], defers := [] })
    (fun x a' _ W W' row hs hg hr => by
      obtain ⟨Bx, k1, k2, k3⟩ := hs
      refine ⟨Bx, k1, k2.of_block (hg.block Bx k2.lt (fun e => ?_)), k3⟩
      obtain ⟨_, o, ho, hc⟩ := hr Bx e.symm
      rw [show W.heap[Bx]? = _ from k2] at ho; cases ho; cases hc) ?assign ?body ?done ?stop
  case assign =>
    rintro lp pre x W K ⟨⟨v, hv, hrow, _⟩, hal⟩ hK
    have hsz := hal.size
    gi_wp2
    refine hK _ _ ((KeepsOthers.alloc _ _).from _) (KeepsWalks.alloc _ _) ⟨⟨v, hv.alloc _, World.ownsRow.alloc hrow _, trivial⟩, alter_alloc hal _⟩ ⟨W.heap.size, hsz, CellsAt.new _ _ _, rfl⟩
  case body =>
    rintro lp pre x a' W hlp ⟨r, hr⟩ ⟨⟨v, hv, hrow, _⟩, hal⟩ ⟨Bx, hBx, bX, rfl⟩ hlt
    have hc : W.cell? ⟨w.heap.size, 0, none⟩ = some v := hv.at 0 rfl
    have hx0 : W.cell? ⟨Bx, 0, none⟩ = some (.int .u32 x.1) := bX.at 0 rfl
    have hx1 : W.cell? ⟨Bx, 1, none⟩ = some (.int .u32 x.2) := bX.at 1 rfl
    have hsz := hal.size
    gi_wp2_with (gi_at_builtin; refine wpListIn_append_own _ rfl _ _ 185 rfl w1.heap.size 98 i0 (.agg #[.int .u32 0, .int .u32 0]) 2 8 Tryz.underlying185 hi hz0 hz1 hz2 rfl (by decide) _ _ _ rfl (World.ownsRow.alloc hrow _) ⟨W.heap.size, 0, none⟩ 1 1 [.int .u32 x.1, .int .u32 x.2] rfl rfl (fun j u hu => World.news_of_block (cs := #[.int .u32 x.1, .int .u32 x.2]) (t := 98) (fr := (0, 0)) (heap_alloc_new W _) j u (by simpa using hu)) (by simp [Value.oneCell']) (by simp only [maxLen]; omega) (by omega) (by simp; omega) ?_; intro v' w2 hown' hgrow _; obtain ⟨g', cap', rfl⟩ := ownsRow_succ hown'; have hne : some w.heap.size ≠ v.ownBlock := (fun e => by have := Own.base_le (E := pairE) hrow _ e.symm; omega); have hv2 : CellsAt w2 w.heap.size #[v] 185 := (hv.alloc _).of_block (hgrow.block _ (hv.alloc _).lt hne); have hc1 : w2.cell? ⟨w.heap.size, 0, none⟩ = some v := hv2.at 0 rfl; have hf1 := hv2.froz 0)
    have hgr : (W.alloc (.cells #[.int .u32 x.1, .int .u32 x.2] 98)).grownBy w2 v.ownBlock := hgrow
    clear hgrow
    have hfl : (pre ++ [x]).flatMap pairE.cells = pre.flatMap pairE.cells ++ [.int .u32 x.1, .int .u32 x.2] := by rw [List.flatMap_append]; rfl
    have hne : ∀ k, k < w1.heap.size → some k ≠ v.ownBlock := fun k hk e => by have := Own.base_le (E := pairE) hrow _ e.symm; omega
    have hng : w1.heap.size ≤ g' := Own.base_le (E := pairE) (l := pre ++ [x]) (by unfold Own; rw [List.length_append, hfl]; exact hown') g' rfl
    have hKO : KeepsOthers W (w2.setCell ⟨w.heap.size, 0, none⟩ (.slice (some ⟨g', 0, none⟩) (pre.length + 1) cap')) := by
      refine ((KeepsOthers.alloc W _).trans (KeepsOthers.of_grownBy hgr fun j o ej hj => ?_)).trans (KeepsOthers.setCell _ _ _)
      rcases (World.ownsRow.alloc hrow (.cells #[.int .u32 x.1, .int .u32 x.2] 98)).2 with ⟨rfl, _⟩ | ⟨g, cap, cur, rfl, _, hgb, _⟩
      · simp [Value.ownBlock] at ej
      · obtain rfl : g = j := by simpa [Value.ownBlock] using ej
        rw [hgb] at hj; cases hj; rfl
    refine ⟨hKO.from _, hKO.walks, ⟨_, hv2.set 0 _, ?_, trivial⟩, alter_set (alter_grown (alter_alloc hal _) hgr (fun k e => by have := Own.base_le (E := pairE) hrow _ e; omega)) (.inl rfl) _⟩
    have h2 := hown'.kept (grownBy_setCell' w2 w.heap.size (.slice (some ⟨g', 0, none⟩) (pre.length + 1) cap')) (.inr (by simp [Value.ownBlock]; omega))
    rw [List.length_append, hfl]
    exact h2
  case done =>
    rintro D ys W hD hp ⟨⟨v, hv, hrow, _⟩, hal⟩ hK
    have hc : W.cell? ⟨w.heap.size, 0, none⟩ = some v := hv.at 0 rfl
    gi_wp2
    refine ⟨by simp, .inl ⟨_, _, rfl, run_takeDeferred hK, ?_⟩⟩
    have hb1 : Below w.heap.size w W := hb0.trans (hal.below (by omega) (by omega))
    exact ⟨_, results_tmp rfl _ _ _, v, ys, rfl, hp, own_base (E := pairE) (l := ys) (ownsRow_putObj hrow _ hK rfl) (by omega), hb1.trans (belowK_b (w := w) (Nat.le_refl _) W D _ _ (by omega) hK rfl rfl)⟩
  case stop =>
    rintro D c pre W _ _ h _
    exact h.elim
attribute [local go_sem] Grow.cell Grow.froz Grow.lt lt_s1 lt_s2 lt_s3 lt_s4 lt_s5
theorem collect_any (Bm b : Nat) (l : List ((Int × Int) × Value)) (w : World) (hl : l.length ≤ 100000000000) (hm : w.cell? ⟨Bm, 0, none⟩ = some (.map (some b))) (hM : MapAt pairKey w b l) :
    Calls Tryz.prog 202 #[.func (.func 204) #[] #[.pointer (some ⟨Bm, 0, none⟩)]] w fun e w' => ∃ v ks, e = .returned v ∧ ks.Perm (l.map Prod.fst) ∧ Own pairE 98 w' w.heap.size v ks ∧ Below w.heap.size w w' := by
  have HA := Lib.hid (appendSeq_any Bm b l w hl hm hM)
  clear hl hm hM
  go_enter Tryz.func202, Tryz.ntmps202
  go_wp2_with fail
  refine HA.out.mono ?_
  rintro e w' ⟨v, ks, rfl, h⟩
  have H := Lib.hid h
  clear h
  go_wp2
  go_ret
  exact ⟨v, ks, rfl, H.out⟩
theorem sortPairs_any (w : World) (base : Nat) (v : Value) (l : List (Int × Int)) (h : Own pairE 98 w base v l) (hn : l.length ≤ 140737488355328) :
    Calls Tryz.prog 203 #[v, .func (.func 179) #[] #[]] w fun e w' => e = .returned (.tuple #[]) ∧ ∃ l' : List (Int × Int), l'.Perm l ∧ l'.Pairwise (fun a b => ltOf cmpP b a = false) ∧ Own pairE 98 w' base v l' ∧ Alter (fun k => v.ownBlock = some k) w w' := by
  refine (sort_own Tryz.sortP pairE 98 Tryz.isAgg98 Tryz.sizeOf98 cmpP swoP 179 #[] (enters_of Tryz.func179 (by kernel_rfl) rfl) (fun W x y => gcompare_any x y W) w base v l h (by omega)).mono ?_
  rintro e w' ⟨rfl, l', h1, h2, h3⟩
  exact ⟨rfl, l', h1, h2, h3⟩
set_option maxHeartbeats 1000000 in
theorem sorted_any (Bm b : Nat) (l : List ((Int × Int) × Value)) (w : World) (hl : l.length ≤ 100000000000) (hm : w.cell? ⟨Bm, 0, none⟩ = some (.map (some b))) (hM : MapAt pairKey w b l) :
    Calls Tryz.prog 177 #[.func (.func 204) #[] #[.pointer (some ⟨Bm, 0, none⟩)], .func (.func 179) #[] #[]] w fun e w' => ∃ v ks, e = .returned v ∧ ks.Perm (l.map Prod.fst) ∧ ks.Pairwise (fun a b => ltOf cmpP b a = false) ∧ Own pairE 98 w' w.heap.size v ks ∧ Below w.heap.size w w' := by
  have HA := Lib.hid (collect_any Bm b l w hl hm hM)
  have HL := Lib.hid hl
  clear hl hm hM
  go_enter Tryz.func177, Tryz.ntmps177
  go_wp2_with fail
  refine HA.out.mono ?_
  rintro e w1 ⟨v1, ks1, rfl, hp1, hO1, hb1⟩
  have hlen := hp1.length_eq
  simp at hlen
  have H1 := Lib.hid (And.intro hp1 (And.intro hO1 (And.intro hb1 hlen)))
  clear hp1 hO1 hb1 hlen
  go_wp2_with (go_at_call 203; refine (sortPairs_any w1 w.heap.size v1 ks1 H1.out.2.1 (by have := HL.out; have := H1.out.2.2.2; omega)).mono ?_; rintro e w2 ⟨rfl, l', hp, hs, hO, hal⟩; have H2 := Lib.hid (And.intro hp (And.intro hs (And.intro hO hal))); clear hp hs hO hal)
  go_ret
  obtain ⟨hp, hs, hO, hal⟩ := H2.out
  obtain ⟨hp1, hO1, hb1, _⟩ := H1.out
  refine ⟨_, l', rfl, hp.trans hp1, hs, hO, hb1.trans (hal.below hb1.size fun k hk e => ?_)⟩
  have := hO1.base_le k e
  omega
end Go.Proofs.YtnhaiecbjipodaaGreatDoor
