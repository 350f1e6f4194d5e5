/- The iterator over the cells of a box, and cell.All. -/
import Derived.Test.YtnhaiecbjipodaaGreatDoorB10
import Derived.Test.YtnhaiecbjipodaaGreatDoorB02
import Derived.RangeFuncBox
import Derived.RangeFuncLeaves
import Derived.RangeFuncNested
import Derived.RangeFuncBound
import Derived.RangeFuncCalls
import Derived.Shelf.Abstract
import Derived.WalkKit
import Derived.OwnWalkIn
import Derived.TacticsInMore
import Derived.LoopNIn
import Derived.LoopIn
import Derived.Maps.AppendAt
namespace Go.Proofs.YtnhaiecbjipodaaGreatDoor
open Go.RowKit Go.Shelf

def cRowL (x0 y : Int) (n : Nat) : List (Int × Int) := (List.range n).map fun (i : Nat) => (x0 + (i : Int), y)
def cRowsL (x0 y0 : Int) (n m : Nat) : List (Int × Int) := (List.range m).flatMap fun (j : Nat) => cRowL x0 (y0 + (j : Int)) n
theorem cRowL_succ (x0 y : Int) (n : Nat) : cRowL x0 y (n + 1) = cRowL x0 y n ++ [(x0 + (n : Int), y)] := by
  unfold cRowL; rw [List.range_succ, List.map_append]; rfl
theorem cRowsL_succ (x0 y0 : Int) (n m : Nat) : cRowsL x0 y0 n (m + 1) = cRowsL x0 y0 n m ++ cRowL x0 (y0 + (m : Int)) n := by
  unfold cRowsL; rw [List.range_succ, List.flatMap_append]; simp
theorem cRowL_len (x0 y : Int) (n : Nat) : (cRowL x0 y n).length = n := by simp [cRowL]
theorem cRowsL_len (x0 y0 : Int) (n : Nat) : ∀ m, (cRowsL x0 y0 n m).length = m * n
  | 0 => by simp [cRowsL]
  | m + 1 => by rw [cRowsL_succ, List.length_append, cRowsL_len x0 y0 n m, cRowL_len, Nat.succ_mul]
theorem cRowL_pre {x0 y : Int} {i n : Nat} (h : i ≤ n) : cRowL x0 y i <+: cRowL x0 y n := by
  unfold cRowL
  exact List.IsPrefix.map _ (by
    rw [show n = i + (n - i) by omega, List.range_add]
    exact List.prefix_append _ _)
theorem cRowsL_pre {x0 y0 : Int} {n j m : Nat} (h : j ≤ m) : cRowsL x0 y0 n j <+: cRowsL x0 y0 n m := by
  unfold cRowsL
  rw [show m = j + (m - j) by omega, List.range_add, List.flatMap_append]
  exact List.prefix_append _ _
theorem part_pre {x0 y0 : Int} {n m i j : Nat} (hi : i ≤ n) (hj : j < m) : cRowsL x0 y0 n j ++ cRowL x0 (y0 + (j : Int)) i <+: cRowsL x0 y0 n m := by
  have h1 : cRowsL x0 y0 n j ++ cRowL x0 (y0 + (j : Int)) i <+: cRowsL x0 y0 n (j + 1) := by
    rw [cRowsL_succ]
    exact List.prefix_append_right_inj _ |>.2 (cRowL_pre hi)
  exact h1.trans (cRowsL_pre (by omega))

section
attribute [local go_sem] Grow.cell Grow.froz Grow.lt lt_s1 lt_s2 lt_s3 lt_s4 lt_s5
set_option maxHeartbeats 1000000 in
theorem cells_any (a : BoxI) (w : World) (hf : a.Fit) (he : emptyB a = false) : Calls Tryz.prog 199 #[.agg a.arr] w fun e w' =>
    ∃ L O H, e = .returned (.func (.func 222) #[] #[.pointer (some ⟨L, 0, none⟩), .pointer (some ⟨O, 0, none⟩), .pointer (some ⟨H, 0, none⟩)]) ∧ CellsAt w' L #[.int .i32 (a.x0 / 4194304), .int .i32 (a.y0 / 4194304)] 254 ∧ CellsAt w' O #[.bool true] 4 ∧ CellsAt w' H #[.int .i32 (a.x1 / 4194304), .int .i32 (a.y1 / 4194304)] 254 ∧ Below w.heap.size w w' := by
  have HS := fun w => span_any a w hf he
  go_enter Tryz.func199, Tryz.ntmps199
  go_wp2_with fail
  refine (HS _).mono ?_
  rintro e w1 ⟨rfl, hb⟩
  obtain ⟨g1, rfl⟩ := Grow.of hb
  clear hb
  go_wp2_with fail
  go_ret
  exact ⟨_, _, _, rfl, (by repeat (first | with_reducible exact CellsAt.newAt (by first | rfl | (simp; done) | omega) rfl | with_reducible refine CellsAt.alloc ?_ _ | with_reducible refine CellsAt.drewN ?_ _ | with_reducible refine CellsAt.drew ?_ | with_reducible refine CellsAt.grow ?_ _ | with_reducible refine CellsAt.far ?_ (by first | omega | (simp; done) | (simp; omega)) _)), (by repeat (first | with_reducible exact CellsAt.newAt (by first | rfl | (simp; done) | omega) rfl | with_reducible refine CellsAt.alloc ?_ _ | with_reducible refine CellsAt.drewN ?_ _ | with_reducible refine CellsAt.drew ?_ | with_reducible refine CellsAt.grow ?_ _ | with_reducible refine CellsAt.far ?_ (by first | omega | (simp; done) | (simp; omega)) _)), (by repeat (first | with_reducible exact CellsAt.newAt (by first | rfl | (simp; done) | omega) rfl | with_reducible refine CellsAt.alloc ?_ _ | with_reducible refine CellsAt.drewN ?_ _ | with_reducible refine CellsAt.drew ?_ | with_reducible refine CellsAt.grow ?_ _ | with_reducible refine CellsAt.far ?_ (by first | omega | (simp; done) | (simp; omega)) _)), (by repeat (first | with_reducible exact Below.refl _ _ | with_reducible refine bel_alloc ?_ _ | with_reducible refine bel_drewN ?_ _ | with_reducible refine bel_drew ?_ | with_reducible refine bel_grow ?_ _ | with_reducible refine bel_set ?_ (by first | omega | (simp; done) | (simp; omega)) _))⟩
end
attribute [local go_sem] Oper.semAt_some
/-- Three blocks lie as they lay. -/
def Same3 (L O H : Nat) (A B : World) : Prop := B.heap[L]? = A.heap[L]? ∧ B.heap[O]? = A.heap[O]? ∧ B.heap[H]? = A.heap[H]?
theorem Same3.refl (L O H : Nat) (A : World) : Same3 L O H A A := ⟨rfl, rfl, rfl⟩
theorem Same3.trans {L O H : Nat} {A B C : World} (h : Same3 L O H A B) (k : Same3 L O H B C) : Same3 L O H A C := ⟨k.1.trans h.1, k.2.1.trans h.2.1, k.2.2.trans h.2.2⟩
set_option maxRecDepth 100000 in
set_option maxHeartbeats 2000000 in
theorem cells1_in (F : Fence) (d : Nat) (hfn : F.fn 222) (hro : F.round = none) (hd : 1 ≤ d) (l L O H : Nat) (x0 y0 x1 y1 : Int) (n m : Nat) (hx : x1 = x0 + n - 1) (hy : y1 = y0 + m - 1) (bx : -1000000 ≤ x0 ∧ x1 ≤ 1000000) (bY : -1000000 ≤ y0 ∧ y1 ≤ 1000000) (J Jx : List (Int × Int) → World → Prop)
    (hY : ∀ pre x W, J pre W → pre.length < m * n → YieldAt F (d - 1) Tryz.prog l #[.agg #[.int .i32 x.1, .int .i32 x.2]] W fun e W' =>
      (e = .returned (.bool true) ∧ J (pre ++ [x]) W' ∧ Same3 L O H W W') ∨ (e = .returned (.bool false) ∧ Jx (pre ++ [x]) W'))
    (W : World) (hL : CellsAt W L #[.int .i32 x0, .int .i32 y0] 254) (hO : CellsAt W O #[.bool true] 4) (hH : CellsAt W H #[.int .i32 x1, .int .i32 y1] 254) (h0 : J [] W) :
    CallsIn F d Tryz.prog 222 #[.func (.yield l) #[] #[], .pointer (some ⟨L, 0, none⟩), .pointer (some ⟨O, 0, none⟩), .pointer (some ⟨H, 0, none⟩)] W fun e W' => (∃ v, e = .returned v) ∧
      ((∃ ys, ys = cRowsL x0 y0 n m ∧ J ys W') ∨ (∃ pre, pre <+: cRowsL x0 y0 n m ∧ Jx pre W')) := by
  obtain ⟨bx0, bx1⟩ := bx
  obtain ⟨by0, by1⟩ := bY
  have cL0 : W.cell? ⟨L, 0, none⟩ = some (.int .i32 x0) := hL.at 0 rfl
  have cL1 : W.cell? ⟨L, 1, none⟩ = some (.int .i32 y0) := hL.at 1 rfl
  have HX := Lib.hid hx
  have HYY := Lib.hid hy
  have HN : n ≤ 2000001 := by omega
  have HM : m ≤ 2000001 := by omega
  clear hx hy
  refine callsIn_of_wp Tryz.func222 rfl hfn ?_ hro
  simp only [Tryz.ntmps222, List.size_toArray, List.length_cons, List.length_nil, Nat.reduceAdd, Nat.reduceSub, Array.replicate_succ, Array.replicate_zero, List.push_toArray, List.append_toArray, List.nil_append, List.cons_append]
  gi_wp2
  gi_loopw [5] (fun y wr => ∃ j : Nat, j ≤ m ∧ y = .int .i32 (y0 + j) ∧ Same3 L O H W wr ∧ J (cRowsL x0 y0 n j) wr) (fun y _ => (y1 + 1 - intOf y).toNat)
  case atStart => exact ⟨0, by omega, by simp, Same3.refl _ _ _ _, h0⟩
  case round =>
    obtain ⟨j, hj, rfl, hbel, hJ⟩ := hrel
    have kL := hL.of_block hbel.1
    have kO := hO.of_block hbel.2.1
    have kH := hH.of_block hbel.2.2
    have d0 : wr.cell? ⟨L, 0, none⟩ = some (.int .i32 x0) := kL.at 0 rfl
    have d2 : wr.cell? ⟨O, 0, none⟩ = some (.bool true) := kO.at 0 rfl
    have d3 : wr.cell? ⟨H, 0, none⟩ = some (.int .i32 x1) := kH.at 0 rfl
    have d4 : wr.cell? ⟨H, 1, none⟩ = some (.int .i32 y1) := kH.at 1 rfl
    by_cases hlt : j < m
    · have hle : y0 + (j : Int) ≤ y1 := by have := HYY.out; omega
      gi_wp2
      gi_loopw [6] (fun x wq => ∃ i : Nat, i ≤ n ∧ x = .int .i32 (x0 + i) ∧ Same3 L O H W wq ∧ J (cRowsL x0 y0 n j ++ cRowL x0 (y0 + j) i) wq) (fun x _ => (x1 + 1 - intOf x).toNat)
      case atStart => exact ⟨0, by omega, by simp, hbel, by simpa [cRowL] using hJ⟩
      case round =>
        obtain ⟨i, hi, rfl, hbel, hJ⟩ := hrel
        clear d0 d2 d3 d4
        have kO := hO.of_block hbel.2.1
        have kH := hH.of_block hbel.2.2
        have d2 : wr.cell? ⟨O, 0, none⟩ = some (.bool true) := kO.at 0 rfl
        have d3 : wr.cell? ⟨H, 0, none⟩ = some (.int .i32 x1) := kH.at 0 rfl
        have d4 : wr.cell? ⟨H, 1, none⟩ = some (.int .i32 y1) := kH.at 1 rfl
        by_cases hlx : i < n
        · have hlex : x0 + (i : Int) ≤ x1 := by have := HX.out; omega
          have hlen : (cRowsL x0 y0 n j ++ cRowL x0 (y0 + j) i).length < m * n := by
            rw [List.length_append, cRowsL_len, cRowL_len]
            have : (j + 1) * n ≤ m * n := Nat.mul_le_mul_right _ hlt
            rw [Nat.succ_mul] at this
            omega
          obtain ⟨fn, tmps, assign, body, hy, hR⟩ := hY _ (x0 + (i : Int), y0 + (j : Int)) wr hJ hlen
          dsimp only at hy
          gi_wp2
          refine hR.mono ?_
          rintro e W3 (⟨rfl, hJ3, hk3⟩ | ⟨rfl, hJx3⟩)
          · gi_wp2
            go_roundw
            case rel => exact ⟨i + 1, by omega, by go_num, hbel.trans hk3, by rw [cRowL_succ, ← List.append_assoc]; exact hJ3⟩
            case measure => simp [intOf]; omega
          · gi_wp2
            refine bodyPost_ret (results_none rfl _ _ _) rfl ?_
            exact ⟨⟨_, rfl⟩, .inr ⟨_, (by rw [List.append_assoc, ← cRowL_succ]; exact part_pre (by omega) hlt), hJx3⟩⟩
        · have hlex : ¬ x0 + (i : Int) ≤ x1 := by have := HX.out; omega
          obtain rfl : i = n := by omega
          gi_wp2
          go_roundw
          case rel => exact ⟨j + 1, by omega, by go_num, hbel, by rw [cRowsL_succ]; exact hJ⟩
          case measure => simp [intOf]; omega
    · have hle : ¬ y0 + (j : Int) ≤ y1 := by have := HYY.out; omega
      obtain rfl : j = m := by omega
      gi_wp2
      go_end0
      exact ⟨⟨_, rfl⟩, .inl hJ⟩

theorem cells1_stops (F : Fence) (d : Nat) (hfn : F.fn 222) (hro : F.round = none) (hd : 1 ≤ d) (L O H : Nat) (x0 y0 x1 y1 : Int) (n m : Nat) (hx : x1 = x0 + n - 1) (hy : y1 = y0 + m - 1) (bx : -1000000 ≤ x0 ∧ x1 ≤ 1000000) (bY : -1000000 ≤ y0 ∧ y1 ≤ 1000000) (w : World)
    (hL : CellsAt w L #[.int .i32 x0, .int .i32 y0] 254) (hO : CellsAt w O #[.bool true] 4) (hH : CellsAt w H #[.int .i32 x1, .int .i32 y1] 254) :
    SeqStopsK F d Tryz.prog 222 #[.pointer (some ⟨L, 0, none⟩), .pointer (some ⟨O, 0, none⟩), .pointer (some ⟨H, 0, none⟩)] (fun x : Int × Int => #[.agg #[.int .i32 x.1, .int .i32 x.2]]) (Same3 L O H) (fun ys => ys = cRowsL x0 y0 n m) (fun pre => pre <+: cRowsL x0 y0 n m) (m * n) w := fun l J Jx W hW _ _ hY h0 =>
  cells1_in F d hfn hro hd l L O H x0 y0 x1 y1 n m hx hy bx bY J Jx hY W (hL.below hW hL.lt) (hO.below hW hO.lt) (hH.below hW hH.lt) h0

def cellE : Enc (Int × Int) := ⟨2, fun c => [.int .i32 c.1, .int .i32 c.2], fun _ => rfl, fun c u hu => by
  simp at hu
  rcases hu with rfl | rfl <;> rfl, by decide⟩
def colsN (a : BoxI) : Nat := (a.x1 / 4194304 - a.x0 / 4194304 + 1).toNat
def rowsN (a : BoxI) : Nat := (a.y1 / 4194304 - a.y0 / 4194304 + 1).toNat
def cellsL (a : BoxI) : List (Int × Int) := cRowsL (a.x0 / 4194304) (a.y0 / 4194304) (colsN a) (rowsN a)
theorem cellInfo : (Tryz.prog.info? 254).map (fun i => (i.zero, i.size, i.bytes)) = some (some (.agg #[.int .i32 0, .int .i32 0]), 2, 8) := by kernel_rfl

theorem span_bd {a : BoxI} (hf : a.Fit) (he : emptyB a = false) : (a.x1 / 4194304 = a.x0 / 4194304 + (colsN a : Int) - 1 ∧ colsN a ≤ 1025) ∧ (a.y1 / 4194304 = a.y0 / 4194304 + (rowsN a : Int) - 1 ∧ rowsN a ≤ 1025) := by
  unfold BoxI.Fit at hf
  unfold emptyB at he
  simp only [Bool.or_eq_false_iff, decide_eq_false_iff_not] at he
  have h1 : a.x0 / 4194304 ≤ a.x1 / 4194304 := Int.ediv_le_ediv (by omega) (by omega)
  have h2 : a.y0 / 4194304 ≤ a.y1 / 4194304 := Int.ediv_le_ediv (by omega) (by omega)
  unfold colsN rowsN
  omega
theorem alter_grown {S : Nat → Prop} {w W W' : World} {row : Option Nat} (h : Alter S w W) (hg : W.grownBy W' row) (hr : ∀ k, row = some k → w.heap.size ≤ k) : Alter S w W' :=
  ⟨hg.os.trans h.os, hg.tape.trans h.tape, hg.output.trans h.output, Nat.le_trans h.size hg.size, fun k hk hS => (hg.block k (Nat.lt_of_lt_of_le hk h.size) (fun e => by have := hr k e.symm; omega)).trans (h.block k hk hS)⟩
theorem own_base {α : Type} {E : Enc α} {t : TypeId} {w : World} {b b' : Nat} {v : Value} {l : List α} (h : Own E t w b v l) (hb : b' ≤ b) : Own E t w b' v l := by
  refine ⟨h.1, ?_⟩
  rcases h.2 with h1 | ⟨g, cap, cur, h1, h2, h3⟩
  · exact .inl h1
  · exact .inr ⟨g, cap, cur, h1, Nat.le_trans hb h2, h3⟩
theorem ownFrom_alter {β : Type} {S : Nat → Prop} {B : Nat} (w0 : World) (hB : w0.heap.size ≤ B) : OwnFrom B (fun (_ : β) W => Alter S w0 W) :=
  fun _ _ _ _ hs hg hr => ⟨hg.os.trans hs.os, hg.tape.trans hs.tape, hg.output.trans hs.output, Nat.le_trans hs.size hg.size, fun k hk hS => (hg.block k (Nat.lt_of_lt_of_le hk hs.size) (fun e => by have := (hr k e.symm).1; omega)).trans (hs.block k hk hS)⟩
set_option maxRecDepth 100000 in
set_option maxHeartbeats 2000000 in
theorem cellAll_any (a : BoxI) (w : World) (hf : a.Fit) (he : emptyB a = false) : Calls Tryz.prog 170 #[.agg a.arr] w fun e w' => ∃ v, e = .returned v ∧ Own cellE 254 w' w.heap.size v (cellsL a) ∧ Below w.heap.size w w' := by
  refine (callsIn_wide (n := 8)).1 ?_
  refine callsIn_of_wp_marks Tryz.func170 rfl trivial ?_ rfl
  simp only [Tryz.ntmps170, List.size_toArray, List.length_cons, List.length_nil, Nat.reduceAdd, Nat.reduceSub, Array.replicate_succ, Array.replicate_zero, List.push_toArray, List.append_toArray, List.nil_append, List.cons_append]
  gi_wp2_with (refine ⟨trivial, ?_⟩; gi_at_call 199; refine (callsIn_wide.2 (cells_any a _ hf he)).mono ?_; rintro e w1 ⟨L, O, H, rfl, hL, hO, hH, hb⟩)
  obtain ⟨hsx0, hsx1⟩ := span_bd hf he
  have hnm : rowsN a * colsN a ≤ 1025 * 1025 := Nat.mul_le_mul hsx1.2 hsx0.2
  have hz := hb.size
  simp at hz
  have lL := hL.lt
  have lO := hO.lt
  have lH := hH.lt
  have bB : CellsAt w1 (w.heap.size + 1) #[.slice none 0 0] 252 := CellsAt.below (w := (w.alloc (.cells a.arr 220)).alloc (.cells #[.slice none 0 0] 252)) (n := w.heap.size + 1 + 1) (by repeat (first | with_reducible exact CellsAt.newAt (by first | rfl | (simp; done) | omega) rfl | with_reducible refine CellsAt.alloc ?_ _ | with_reducible refine CellsAt.drewN ?_ _ | with_reducible refine CellsAt.drew ?_ | with_reducible refine CellsAt.grow ?_ _ | with_reducible refine CellsAt.far ?_ (by first | omega | (simp; done) | (simp; omega)) _)) (by simpa using hb) (by omega)
  have hb0 : Below w.heap.size w w1 := ((Below.refl w.heap.size w).alloc (Nat.le_refl _) _).alloc (by simp) _ |>.trans (hb.mono (by simp; omega))
  have LB : L ≠ w.heap.size + 1 := by
    rintro rfl
    have := hL.symm.trans bB
    simp at this
  have OB : O ≠ w.heap.size + 1 := by
    rintro rfl
    have := hO.symm.trans bB
    simp at this
  have HB : H ≠ w.heap.size + 1 := by
    rintro rfl
    have := hH.symm.trans bB
    simp at this
  obtain ⟨i0, hi, hz0, hz1, hz2⟩ := info_parts cellInfo
  refine wpIn_rangeFunc_ownH rfl (by omega) (gf := 222) (lb := #[.pointer (some ⟨L, 0, none⟩), .pointer (some ⟨O, 0, none⟩), .pointer (some ⟨H, 0, none⟩)]) rfl trivial (enters_of Tryz.func222 (by kernel_rfl) rfl)
    (cells1_stops Fence.wide (8 - 1) trivial rfl (by omega) L O H (a.x0 / 4194304) (a.y0 / 4194304) (a.x1 / 4194304) (a.y1 / 4194304) (colsN a) (rowsN a) hsx0.1 hsx1.1 (by unfold BoxI.Fit at hf; omega) (by unfold BoxI.Fit at hf; omega) w1 hL hO hH)
    (fun h k => h.trans k) (fun W l o o' hl _ _ _ => ⟨World.putObj_heap_other (by omega), World.putObj_heap_other (by omega), World.putObj_heap_other (by omega)⟩) (Below.refl _ _) (fun _ => rfl)
    (fun pre W => (∃ v, CellsAt W (w.heap.size + 1) #[v] 252 ∧ W.ownsRow w1.heap.size 254 2 v pre.length (pre.flatMap cellE.cells) ∧ True) ∧ Alter (fun k => k = w.heap.size + 1) w1 W)
    (fun _ _ _ => False)
    (OwnFrom.and (_root_.Go.Own.from (holdsRow_own w1.heap.size (w.heap.size + 1) 252 254 2 (fun pre : List (Int × Int) => pre.length) (fun pre => pre.flatMap cellE.cells) (fun _ _ => True)) _) (ownFrom_alter _ (Nat.le_refl _)))
    (fun _ _ _ _ _ hs _ _ => hs)
    ⟨⟨_, bB, World.ownsRow_nil _ _ _ _, trivial⟩, Alter.refl _ _⟩
    (fun x a' W => ∃ Bx, w1.heap.size ≤ Bx ∧ CellsAt W Bx #[.int .i32 x.1, .int .i32 x.2] 254 ∧ a' = { tmps := #[.agg a.arr, .pointer (some ⟨w.heap.size, 0, none⟩), .slice none 0 0, .pointer (some ⟨w.heap.size + 1, 0, none⟩), .pointer (some ⟨Bx, 0, none⟩), .agg a.arr, .func (.func 222) #[] #[.pointer (some ⟨L, 0, none⟩), .pointer (some ⟨O, 0, none⟩), .pointer (some ⟨H, 0, none⟩)], .agg #[.int .i32 x.1, .int .i32 x.2], undef, undef, undef, undef, undef], defers := [] })
    (fun x a' _ W W' row hs hg hr => by
      obtain ⟨Bx, k1, k2, k3⟩ := hs
      refine ⟨Bx, k1, k2.of_block (hg.block Bx k2.lt (fun e => ?_)), k3⟩
      obtain ⟨_, o, ho, hc⟩ := hr Bx e.symm
      rw [show W.heap[Bx]? = _ from k2] at ho; cases ho; cases hc) ?assign ?body ?done ?stop
  case assign =>
    rintro l pre x W K ⟨⟨v, hv, hrow, _⟩, hal⟩ hK
    have hsz := hal.size
    gi_wp2
    refine hK _ _ ((KeepsOthers.alloc _ _).from _) ⟨Below.heap_alloc _ _ _ (by omega), Below.heap_alloc _ _ _ (by omega), Below.heap_alloc _ _ _ (by omega)⟩ ⟨⟨v, hv.alloc _, World.ownsRow.alloc hrow _, trivial⟩, alter_alloc hal _⟩ ⟨W.heap.size, hsz, CellsAt.new _ _ _, rfl⟩
  case body =>
    rintro l pre x a' W hl ⟨r, hr⟩ ⟨⟨v, hv, hrow, _⟩, hal⟩ ⟨Bx, hBx, bX, rfl⟩ hlt
    have hc : W.cell? ⟨w.heap.size + 1, 0, none⟩ = some v := hv.at 0 rfl
    have hx0 : W.cell? ⟨Bx, 0, none⟩ = some (.int .i32 x.1) := bX.at 0 rfl
    have hx1 : W.cell? ⟨Bx, 1, none⟩ = some (.int .i32 x.2) := bX.at 1 rfl
    have hsz := hal.size
    gi_wp2_with (gi_at_builtin; refine wpListIn_append_own _ rfl _ _ 252 rfl w1.heap.size 254 i0 (.agg #[.int .i32 0, .int .i32 0]) 2 8 Tryz.underlying252 hi hz0 hz1 hz2 rfl (by decide) _ _ _ rfl (World.ownsRow.alloc hrow _) ⟨W.heap.size, 0, none⟩ 1 1 [.int .i32 x.1, .int .i32 x.2] rfl rfl (fun j u hu => World.news_of_block (cs := #[.int .i32 x.1, .int .i32 x.2]) (t := 254) (fr := (0, 0)) (heap_alloc_new W _) j u (by simpa using hu)) (by simp [Value.oneCell']) (by simp only [maxLen]; omega) (by omega) (by simp; omega) ?_; intro v' w2 hown' hgrow _; obtain ⟨g', cap', rfl⟩ := ownsRow_succ hown'; have hne : some (w.heap.size + 1) ≠ v.ownBlock := (fun e => by have := Own.base_le (E := cellE) hrow _ e.symm; omega); have hv2 : CellsAt w2 (w.heap.size + 1) #[v] 252 := (hv.alloc _).of_block (hgrow.block _ (hv.alloc _).lt hne); have hc1 : w2.cell? ⟨w.heap.size + 1, 0, none⟩ = some v := hv2.at 0 rfl; have hf1 := hv2.froz 0)
    have hgr : (W.alloc (.cells #[.int .i32 x.1, .int .i32 x.2] 254)).grownBy w2 v.ownBlock := hgrow
    clear hgrow
    have hfl : (pre ++ [x]).flatMap cellE.cells = pre.flatMap cellE.cells ++ [.int .i32 x.1, .int .i32 x.2] := by rw [List.flatMap_append]; rfl
    have hne : ∀ k, k < w1.heap.size → some k ≠ v.ownBlock := fun k hk e => by have := Own.base_le (E := cellE) hrow _ e.symm; omega
    have hng : w1.heap.size ≤ g' := Own.base_le (E := cellE) (l := pre ++ [x]) (by unfold Own; rw [List.length_append, hfl]; exact hown') g' rfl
    have hs3 : ∀ k, k < w1.heap.size → k ≠ w.heap.size + 1 → (w2.setCell ⟨w.heap.size + 1, 0, none⟩ (.slice (some ⟨g', 0, none⟩) (pre.length + 1) cap')).heap[k]? = W.heap[k]? := fun k hk hkb => (Below.heap_setCell w2 ⟨w.heap.size + 1, 0, none⟩ _ k hkb).trans ((hgr.block k (by simp; omega) (hne k hk)).trans (Below.heap_alloc W _ k (by omega)))
    refine ⟨KeepsOthers.from (((KeepsOthers.alloc W _).trans (KeepsOthers.of_grownBy hgr fun j o ej hj => ?_)).trans (KeepsOthers.setCell _ _ _)) _, ⟨hs3 L lL LB, hs3 O lO OB, hs3 H lH HB⟩, ⟨_, hv2.set 0 _, ?_, trivial⟩, alter_set (alter_grown (alter_alloc hal _) hgr (fun k e => by have := Own.base_le (E := cellE) hrow _ e; omega)) (.inl rfl) _⟩
    · rcases (World.ownsRow.alloc hrow (.cells #[.int .i32 x.1, .int .i32 x.2] 254)).2 with ⟨rfl, _⟩ | ⟨g, cap, cur, rfl, _, hgb, _⟩
      · simp [Value.ownBlock] at ej
      · obtain rfl : g = j := by simpa [Value.ownBlock] using ej
        rw [hgb] at hj; cases hj; rfl
    · have h2 := hown'.kept (grownBy_setCell' w2 (w.heap.size + 1) (.slice (some ⟨g', 0, none⟩) (pre.length + 1) cap')) (.inr (by simp [Value.ownBlock]; omega))
      rw [List.length_append, hfl]
      exact h2
  case done =>
    rintro D ys W hD rfl ⟨⟨v, hv, hrow, _⟩, hal⟩ hK
    have hc : W.cell? ⟨w.heap.size + 1, 0, none⟩ = some v := hv.at 0 rfl
    gi_wp2
    refine ⟨by simp, .inl ⟨_, _, rfl, run_takeDeferred hK, ?_⟩⟩
    have hb1 : Below w.heap.size w W := hb0.trans (hal.below (by omega) (by omega))
    exact ⟨_, results_tmp rfl _ _ _, v, rfl, own_base (E := cellE) (l := cellsL a) (ownsRow_putObj hrow _ hK rfl) (by omega), hb1.trans (belowK_b (w := w) (Nat.le_refl _) W D _ _ (by omega) hK rfl rfl)⟩
  case stop =>
    rintro D c pre W _ _ h _
    exact h.elim
end Go.Proofs.YtnhaiecbjipodaaGreatDoor
