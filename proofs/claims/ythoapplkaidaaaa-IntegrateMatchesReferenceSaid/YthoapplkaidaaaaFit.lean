/- The contracts of the law's own helpers: fit, forward, moved. -/
import Derived.Test.YthoapplkaidaaaaRefMove
import Derived.Deep.RegionHeld3
namespace Go.Proofs.Ythoapplkaidaaaa
open Go.RowKit
attribute [local go_sem] Grow.cell Grow.froz Grow.lt

def inS (s : Int × Int) : Bool := decide (-4611686018427387904 ≤ s.1) && (decide (s.1 ≤ 4611686018427387904) && (decide (-4611686018427387904 ≤ s.2) && decide (s.2 ≤ 4611686018427387904)))
theorem inS_ok {s : Int × Int} (h : inS s = true) : ShiftOk s := by
  simp only [inS, Bool.and_eq_true, decide_eq_true_eq] at h
  exact h
set_option maxHeartbeats 400000 in
theorem refIn19_any (x y : Int) (w : World) :
    Calls Try.prog 22 #[.agg #[.int .i64 x, .int .i64 y]] w fun e w' => e = .returned (.bool (inS (x, y))) ∧ Below w.heap.size w w' := by
  by_cases h1 : -4611686018427387904 ≤ x
  · by_cases h2 : x ≤ 4611686018427387904
    · by_cases h3 : -4611686018427387904 ≤ y
      · go_enter Try.func22, Try.ntmps22
        go_wp2
        go_ret
        exact ⟨by simp [inS, *], new_ok _⟩
      · go_enter Try.func22, Try.ntmps22
        go_wp2
        go_ret
        exact ⟨by simp [inS, *]; omega, new_ok _⟩
    · go_enter Try.func22, Try.ntmps22
      go_wp2
      go_ret
      exact ⟨by simp [inS, *]; omega, new_ok _⟩
  · go_enter Try.func22, Try.ntmps22
    go_wp2
    go_ret
    exact ⟨by simp [inS, *]; omega, new_ok _⟩
theorem refShiftInfo : (Try.prog.info? 43).map (fun i => (i.zero, i.size, i.bytes)) = some (some (.agg #[.int .i64 0, .int .i64 0]), 2, 16) := by kernel_rfl
theorem shiftInfo : (Try.prog.info? 50).map (fun i => (i.zero, i.size, i.bytes)) = some (some (.agg #[.int .i64 0, .int .i64 0]), 2, 16) := by kernel_rfl

def fitAt (l : List (Int × Int)) (i : Nat) : Int × Int :=
  match l[i]? with
  | some s => if inS s = true then s else (0, 0)
  | none => (0, 0)
def fitL (l : List (Int × Int)) (n : Nat) : List (Int × Int) := (List.range n).map (fitAt l)
theorem fitL_succ (l : List (Int × Int)) (k : Nat) : fitL l (k + 1) = fitL l k ++ [fitAt l k] := by
  unfold fitL; rw [List.range_succ, List.map_append]; rfl
theorem fitL_len (l : List (Int × Int)) (n : Nat) : (fitL l n).length = n := by simp [fitL]
theorem fitL_ok (l : List (Int × Int)) (n : Nat) : ∀ x ∈ fitL l n, ShiftOk x := by
  intro x hx
  obtain ⟨i, _, rfl⟩ := List.mem_map.1 hx
  unfold fitAt
  split
  · split
    · rename_i h; exact inS_ok h
    · unfold ShiftOk; decide
  · unfold ShiftOk; decide

set_option maxHeartbeats 2000000 in
theorem fit_any (v : Value) (l : List (Int × Int)) (n : Nat) (w : World) (hl : Reads shiftE w v l) (hn : n ≤ 1000000) :
    Calls Try.prog 10 #[v, .int .i64 (n : Int)] w fun e w' => ∃ v', e = .returned v' ∧ Reads shiftE w' v' (fitL l n) ∧ Below w.heap.size w w' := by
  have q := hl.1
  obtain ⟨S, cc, sb, so, rfl, hS, hx⟩ := hl.form
  have HSA := Lib.hid hS
  have HX := Lib.hid hx
  clear hl hS hx
  go_enter Try.func10, Try.ntmps10
  go_wp2
  go_loopw [5, 6] (fun v i wr => ∃ k : Nat, k ≤ n ∧ i = .int .i64 k ∧ Own shiftE 43 wr w.heap.size v (fitL l k) ∧ Below w.heap.size w wr) (fun _ i _ => n - (intOf i).toNat)
  case atStart => exact ⟨0, by omega, rfl, by simpa [fitL] using Own.nil _ _ _ _, Below.refl _ _⟩
  case round =>
    obtain ⟨k, hk, rfl, hown, hbel⟩ := hrel
    have hz := hbel.size
    have hlen := fitL_len l k
    have HL := Lib.hid hlen
    clear hlen
    by_cases hlt : k < n
    · by_cases hks : k < l.length
      · obtain ⟨eS, zS⟩ := HSA.out (by omega)
        have iy := fun w => idx_refShift (c := cc) eS hks w
        clear eS
        have ht := shift_at (w := wr) (fun j u hu => (keepB hbel sb zS _).trans (HX.out k hks j u hu))
        have t0 : wr.cell? ⟨sb, so + k * 2, none⟩ = some (.int .i64 l[k].1) := ht.1
        have t1 : wr.cell? ⟨sb, so + k * 2 + 1, none⟩ = some (.int .i64 l[k].2) := ht.2
        clear ht
        have zS' : sb < wr.heap.size := by omega
        have zS2 : sb < wr.heap.size + 1 := by omega
        cases hi : inS (l[k].1, l[k].2)
        · have hf : fitAt l k = (0, 0) := by
            unfold fitAt; rw [List.getElem?_eq_getElem hks]; simp only; rw [if_neg (by rw [hi]; simp)]
          have HF := Lib.hid hf
          clear hf
          go_wp2_with fail
          refine (refIn19_any _ _ _).mono ?_
          rintro e w1 ⟨rfl, hb1⟩
          obtain ⟨g1, rfl⟩ := Grow.of hb1
          have l1 : wr.heap.size < g1.world.heap.size := Nat.lt_of_lt_of_le (by simp) g1.le
          have hz1 : w.heap.size ≤ g1.world.heap.size := by omega
          clear hb1
          go_wp2_with (at_builtin; refine own_append shiftE w.heap.size rfl (.tmp 28) (.tmp 30) 23 43 _ 16 rfl Try.underlying23 refShiftInfo rfl (by decide) _ (fitL l k) (fitAt l k) _ (by rw [HF.out]; rfl) rfl (by first | rfl | simp [go_sem]) ((hown.alloc _).below g1.below) (bel_grow (bel_alloc hbel _) g1) hz1 (by have := HL.out; omega) ?_; intro v1 w2 own1 bel1 gr1 sz1)
          go_roundw
          case rel => exact ⟨k + 1, by omega, by go_num, by rw [fitL_succ]; exact own1, bel1⟩
          case measure => simp [intOf]; omega
        · have hf : fitAt l k = l[k] := by
            unfold fitAt; rw [List.getElem?_eq_getElem hks]; simp only; rw [if_pos hi]
          have HF := Lib.hid hf
          clear hf
          go_wp2_with fail
          refine (refIn19_any _ _ _).mono ?_
          rintro e w1 ⟨rfl, hb1⟩
          obtain ⟨g1, rfl⟩ := Grow.of hb1
          have l1 : wr.heap.size < g1.world.heap.size := Nat.lt_of_lt_of_le (by simp) g1.le
          have l2 : sb < g1.world.heap.size := by omega
          have hz1 : w.heap.size ≤ g1.world.heap.size := by omega
          clear hb1
          go_wp2_with (at_builtin; refine own_append shiftE w.heap.size rfl (.tmp 28) (.tmp 30) 23 43 _ 16 rfl Try.underlying23 refShiftInfo rfl (by decide) _ (fitL l k) (fitAt l k) _ (by rw [HF.out]; rfl) rfl (by first | rfl | simp [go_sem]) (hown.kept (grown_setn (grown_setn (grown_below (grown_alloc (grown_refl wr none) _) (g1.below.mono (by simp))) (by omega) _) (by omega) _) (own_far _)) (Below.setCell (Below.setCell (bel_grow (bel_alloc hbel _) g1) (by simp; omega) _) (by simp; omega) _) (by first | exact hz1 | (simp; omega)) (by have := HL.out; omega) ?_; intro v1 w2 own1 bel1 gr1 sz1)
          go_roundw
          case rel => exact ⟨k + 1, by omega, by go_num, by rw [fitL_succ]; exact own1, bel1⟩
          case measure => simp [intOf]; omega
      · have hf : fitAt l k = (0, 0) := by
          unfold fitAt; rw [List.getElem?_eq_none (by omega)]
        have HF := Lib.hid hf
        clear hf
        go_wp2_with (at_builtin; refine own_append shiftE w.heap.size rfl (.tmp 28) (.tmp 30) 23 43 _ 16 rfl Try.underlying23 refShiftInfo rfl (by decide) _ (fitL l k) (fitAt l k) _ (by rw [HF.out]; rfl) rfl (by first | rfl | simp [go_sem]) (hown.alloc _) (bel_alloc hbel _) (by first | exact hz1 | (simp; omega)) (by have := HL.out; omega) ?_; intro v1 w2 own1 bel1 gr1 sz1)
        go_roundw
        case rel => exact ⟨k + 1, by omega, by go_num, by rw [fitL_succ]; exact own1, bel1⟩
        case measure => simp [intOf]; omega
    · have hkl : k = n := by omega
      have HN := Lib.hid hkl
      clear hkl
      go_wp2
      go_ret
      exact ⟨_, rfl, by have := hown.reads (by have := HL.out; omega); rw [HN.out] at this; exact this, hbel⟩

theorem own_snoc {t : TypeId} {w : World} {base k g cap : Nat} {l : List (Int × Int)} (hk : k < l.length) (h : w.ownsRow base t 2 (.slice (some ⟨g, 0, none⟩) ((l.take k).length + 1) cap) ((l.take k).length + 1) ((l.take k).flatMap shiftE.cells ++ [.int .i64 l[k].1, .int .i64 l[k].2])) :
    Own shiftE t w base (.slice (some ⟨g, 0, none⟩) (k + 1) cap) (l.take (k + 1)) := by
  have e : (l.take k).length = k := by simp; omega
  rw [e] at h
  unfold Own
  rw [List.take_succ_eq_append_getElem hk, List.length_append, List.flatMap_append, e]
  have e2 : [l[k]].flatMap shiftE.cells = [.int .i64 l[k].1, .int .i64 l[k].2] := by simp [shiftE]
  rw [e2]
  exact h
set_option maxHeartbeats 2000000 in
theorem forward_any (v : Value) (l : List (Int × Int)) (w : World) (hl : Reads shiftE w v l) (hn : l.length ≤ 1000000) :
    Calls Try.prog 14 #[v] w fun e w' => ∃ v', e = .returned v' ∧ Reads shiftE w' v' l ∧ Below w.heap.size w w' := by
  obtain ⟨S, cc, sb, so, rfl, hS, hx⟩ := hl.form
  have HSA := Lib.hid hS
  have HX := Lib.hid hx
  clear hl hS hx
  obtain ⟨i0, hi0, hz0, hz1, hz2⟩ := info_parts shiftInfo
  go_enter Try.func14, Try.ntmps14
  go_wp2
  go_loopw [3, 4] (fun v i wr => ∃ k : Nat, k ≤ l.length ∧ i = .int .i64 k ∧ Own shiftE 50 wr w.heap.size v (l.take k) ∧ Below w.heap.size w wr) (fun _ i _ => l.length - (intOf i).toNat)
  case atStart => exact ⟨0, by omega, rfl, by simpa using Own.nil _ _ _ _, Below.refl _ _⟩
  case round =>
    obtain ⟨k, hk, rfl, hown, hbel⟩ := hrel
    have hz := hbel.size
    by_cases hks : k < l.length
    · obtain ⟨eS, zS⟩ := HSA.out (by omega)
      have iy := fun w => idx_refShift (c := cc) eS hks w
      clear eS
      have ht := shift_at (w := wr) (fun j u hu => (keepB hbel sb zS _).trans (HX.out k hks j u hu))
      have t0 : wr.cell? ⟨sb, so + k * 2, none⟩ = some (.int .i64 l[k].1) := ht.1
      have t1 : wr.cell? ⟨sb, so + k * 2 + 1, none⟩ = some (.int .i64 l[k].2) := ht.2
      clear ht
      have zS' : sb < wr.heap.size := by omega
      have hne : some sb ≠ u3.ownBlock := fun e => by have := hown.base_le sb e.symm; omega
      go_wp2_with fail
      go_region_held3 (fun w' => w'.cell? ⟨sb, so + k * 2, none⟩ = some (.int .i64 l[k].1) ∧ w'.cell? ⟨sb, so + k * 2 + 1, none⟩ = some (.int .i64 l[k].2))
        (first
          | go_keep
          | (go_split_ands
             refine ⟨?_, ?_⟩
             · (rw [hgrow.cell_far _ (by simp; omega) hne]; first | assumption | simp [go_sem, *])
             · (rw [hgrow.cell_far _ (by simp; omega) hne]; first | assumption | simp [go_sem, *])))
        ((refine step_append_lies _ (by rfl) _ _ _ (by rfl) w.heap.size 50 i0 _ 2 16 Try.underlying31 hi0 hz0 hz1 hz2 rfl (by omega) u3 (l.take k).length ((l.take k).flatMap shiftE.cells) (by rfl) ((World.ownsRow.alloc hown _).drew) ⟨wr.heap.size, 0, none⟩ 1 1 [.int .i64 l[k].1, .int .i64 l[k].2] (by rfl) (by rfl) (World.news_of_block (cs := #[.int .i64 l[k].1, .int .i64 l[k].2]) (t := 50) (fr := (0, 0)) (heap_alloc_new wr _)) (by simp [Value.oneCell']) (by omega) (by simp [maxLen]; omega) (by simp; omega) (by simp; omega) (wr.heap.size + 1) (by simp) ?_; intro gg cap w1 hown1 hgrow hat hlt))
      have own2 : Own shiftE 50 w1 w.heap.size (.slice (some ⟨gg, 0, none⟩) (k + 1) cap) (l.take (k + 1)) := own_snoc hks hown1
      have bel2 : Below w.heap.size w w1 := (bel_drew (bel_alloc hbel _)).grown hgrow (by simp; omega) (fun b hb => Own.base_le hown b hb)
      clear hown1 hgrow hat hlt
      go_wp2
      go_roundw
      case rel => exact ⟨k + 1, by omega, by go_num, own2, bel2⟩
      case measure => simp [intOf]; omega
    · have hkl : k = l.length := by omega
      have HN := Lib.hid hkl
      clear hkl
      go_wp2
      go_ret
      exact ⟨_, rfl, by have := hown.reads (by simp; omega); rw [HN.out, List.take_length] at this; exact this, hbel⟩
end Go.Proofs.Ythoapplkaidaaaa
