/- Contracts of the program's functions, by walks, and plain facts beside them: Cand, Apart, DelF, StoreRem2, World2, World3, Find, Coll. -/
import Derived.Test.YtnhaiecbjipodaaGreatDoorB21
import Derived.Test.YtnhaiecbjipodaaGreatDoorB24
import Derived.Test.YtnhaiecbjipodaaGreatDoorB19
import Derived.Deep.MidRow
import Derived.Laws.CopyRow
import Derived.Test.YtnhaiecbjipodaaGreatDoorB06
import Derived.Test.YtnhaiecbjipodaaGreatDoorB11
import Derived.Test.YtnhaiecbjipodaaGreatDoorB12
/- (*grid.Grid).Candidates: the pairs of keys that share a bucket, sorted. -/
namespace Go.Proofs.YtnhaiecbjipodaaGreatDoor
open Go.RowKit Go.Shelf Go.Proofs
attribute [local go_sem] Grow.cell Grow.froz Grow.lt lt_s1 lt_s2 lt_s3 lt_s4 lt_s5
def pairO (a b : Int) : Int × Int := (min a b, max a b)
def innerL (a : Int) (bs : List Int) : List (Int × Int) := (bs.filter fun b => decide (¬ a = b)).map (pairO a)
def midL (l : List Int) (i : Nat) : List (Int × Int) := (List.range i).flatMap fun k => innerL (l.getD k 0) (l.take k)
def outL (bk : Nat → List Int) (n : Nat) : List (Int × Int) := (List.range n).flatMap fun k => midL (bk k) (bk k).length
theorem midL_succ {l : List Int} {i : Nat} : midL l (i + 1) = midL l i ++ innerL (l.getD i 0) (l.take i) := by
  unfold midL; rw [List.range_succ, List.flatMap_append]; simp
theorem outL_succ {bk : Nat → List Int} {n : Nat} : outL bk (n + 1) = outL bk n ++ midL (bk n) (bk n).length := by
  unfold outL; rw [List.range_succ, List.flatMap_append]; simp
theorem innerL_eq {a : Int} {l : List Int} {j : Nat} (hj : j < l.length) (h : a = l[j]) : innerL a (l.take (j + 1)) = innerL a (l.take j) := by
  unfold innerL
  rw [List.take_succ_eq_append_getElem hj, List.filter_append]
  simp [h]
theorem innerL_ne {a : Int} {l : List Int} {j : Nat} (hj : j < l.length) (h : ¬ a = l[j]) : innerL a (l.take (j + 1)) = innerL a (l.take j) ++ [pairO a l[j]] := by
  unfold innerL
  rw [List.take_succ_eq_append_getElem hj, List.filter_append]
  simp [h]
/-- The entries' keys are just these. -/
def KeysAre (es : List ((Int × Int) × Value)) (ps : List (Int × Int)) : Prop := ∀ q, q ∈ es.map Prod.fst ↔ q ∈ ps
theorem mem_putM {κ : Type} [DecidableEq κ] (es : List (κ × Value)) (k : κ) (v : Value) (q : κ) : q ∈ (putM es k v).map Prod.fst ↔ q ∈ es.map Prod.fst ∨ q = k := by
  unfold putM
  by_cases ha : (es.any fun p => decide (p.1 = k)) = true
  · rw [if_pos ha]
    obtain ⟨p, hp, hpk⟩ := List.any_eq_true.1 ha
    have hpk' : p.1 = k := by simpa using hpk
    rw [List.map_map, show (Prod.fst ∘ fun p : κ × Value => if p.1 = k then (k, v) else p) = Prod.fst from by funext x; by_cases h : x.1 = k <;> simp [h]]
    constructor
    · exact .inl
    · rintro (h | rfl)
      · exact h
      · exact List.mem_map.2 ⟨p, hp, hpk'⟩
  · rw [if_neg ha]
    simp
theorem KeysAre.put {es : List ((Int × Int) × Value)} {ps : List (Int × Int)} (h : KeysAre es ps) (q : Int × Int) (v : Value) : KeysAre (putM es q v) (ps ++ [q]) := fun k => by
  rw [mem_putM, h k]; simp
theorem midL_len (l : List Int) : ∀ i, (midL l i).length ≤ i * l.length
  | 0 => by simp [midL]
  | i + 1 => by
    have := midL_len l i
    have h1 : (innerL (l.getD i 0) (l.take i)).length ≤ l.length := by
      unfold innerL
      rw [List.length_map]
      exact Nat.le_trans (List.length_filter_le _ _) (by simp; omega)
    rw [midL_succ, List.length_append, Nat.succ_mul]
    omega
theorem outL_len (bk : Nat → List Int) (h : ∀ n, n < 1024 → (bk n).length ≤ 4096) : ∀ n, n ≤ 1024 → (outL bk n).length ≤ n * 16777216
  | 0, _ => by simp [outL]
  | n + 1, hn => by
    have := outL_len bk h n (by omega)
    have h1 := midL_len (bk n) (bk n).length
    have h2 := h n (by omega)
    have h3 := Nat.mul_le_mul h2 h2
    rw [outL_succ, List.length_append, Nat.succ_mul]
    omega
theorem idx_arr (CS : Array Value) (n : Nat) (hn : n < 1024) (v : Value) (hv : CS[n]? = some v) (W : World) : (Instr.index 215 (.agg CS) (.int .i64 (n : Int))).run Tryz.prog W = .ok v W := by
  have h1 : (n : Int) < 1024 := by omega
  have h2 : (0 : Int) ≤ (n : Int) := by omega
  simp [Instr.index, asIntOf, run_underlying Tryz.underlying215, Result.andThen, h1, part, hv, Tryz.isAgg61, Tryz.sizeOf61]
  intro h; omega
theorem idx_u32 {A : Option Addr} {b off k len c : Nat} (hA : A = some ⟨b, off, none⟩) (hk : k < len) (w : World) :
    (Instr.indexAt 61 (.slice A len c) (.int .i64 (k : Int))).run Tryz.prog w = .ok (.pointer (some ⟨b, off + k, none⟩)) w := by
  subst hA
  have hk' : (k : Int) < (len : Int) := by omega
  go_simp
set_option maxRecDepth 100000 in
set_option maxHeartbeats 4000000 in
theorem candidates_any (p : Nat) (w : World) (bk : Nat → List Int) (hbk : ∀ n, n < 1024 → (bk n).length ≤ 4096) (h : GridAt w p bk) :
    Calls Tryz.prog 151 #[.pointer (some ⟨p, 0, none⟩)] w fun e w' => ∃ v ks, e = .returned v ∧ ks.Nodup ∧ (∀ q, q ∈ ks ↔ q ∈ outL bk 1024) ∧ ks.Pairwise (fun a b => ltOf cmpP b a = false) ∧ Own pairE 98 w' w.heap.size v ks ∧ Below w.heap.size w w' := by
  have hp := h.lt
  obtain ⟨cs, h⟩ := h
  have hps : ∀ W : World, (W.alloc (.map #[] 0)).heap.size = W.heap.size + 1 := fun W => by simp
  have hcsz := h.size
  obtain ⟨CL, hCL⟩ : ∃ CL, CL = (cs.extract 0 1024).toList := ⟨_, rfl⟩
  have hra : (w.alloc (.map #[] 0)).rangeAt p 0 CL := by
    have hr := World.rangeAt_of_block (w := w.alloc (.map #[] 0)) (b := p) (C := cs) (t := 217) (fr := (0, 0)) (h.blk.alloc _) 0 1024
    rw [hCL]; exact hr
  have hsz : (Tryz.prog.info? 215).map (·.size) = some CL.length := by
    rw [hCL]; simp only [Array.length_toList, Array.size_extract, hcsz]; kernel_rfl
  have hat : ∀ n, n < 1024 → ∃ A c, CL.toArray[n]? = some (.slice A (bk n).length c) ∧ Own u32E 23 w p (.slice A (bk n).length c) (bk n) := fun n hn => by
    obtain ⟨v, h1, h2⟩ := h.own n hn
    obtain ⟨A, c, rfl⟩ := h2.form
    refine ⟨A, c, ?_, h2⟩
    rw [hCL, Array.toArray_toList, Array.getElem?_extract, if_pos (by omega), Nat.zero_add]
    exact h1
  have HAT := Lib.hid hat
  have HBK := Lib.hid hbk
  clear hat hbk h hCL hcsz
  have qM : ∀ w : World, (Instr.makeMap 258 none).run Tryz.prog w = .ok (.map (some w.heap.size)) (w.alloc (.map #[] 0)) := fun _ => rfl
  go_enter Tryz.func151, Tryz.ntmps151
  go_wp2_with (refine wpList_load_mid rfl 215 (.tmp 15) rfl p 0 rfl CL _ hra Tryz.underlying215 rfl hsz ?_)
  clear hra hsz qM hps
  go_loopw [17] (fun i wr => ∃ (n : Nat) (es : List ((Int × Int) × Value)), n ≤ 1024 ∧ i = .int .i64 n ∧ MapAt pairKey wr w.heap.size es ∧ KeysAre es (outL bk n) ∧ Below w.heap.size w wr) (fun i _ => 1024 - (intOf i).toNat)
  case atStart => exact ⟨0, [], by omega, rfl, MapAt.made _, fun q => by simp [outL], (by repeat (first | with_reducible exact Below.refl _ _ | with_reducible refine bel_alloc ?_ _ | with_reducible refine bel_drewN ?_ _ | with_reducible refine bel_drew ?_ | with_reducible refine bel_grow ?_ _ | with_reducible refine bel_set ?_ (by first | omega | (simp; done) | (simp; omega)) _))⟩
  case round =>
    obtain ⟨n, es, hn, rfl, hm, hes, hbel⟩ := hrel
    have HM := Lib.hid hm
    have HE := Lib.hid hes
    have HB := Lib.hid hbel
    have hsz := hm.lt
    clear hm hes hbel
    by_cases hlt : n < 1024
    · obtain ⟨A, c, hv, hO⟩ := HAT.out n hlt
      obtain ⟨l, hl⟩ : ∃ l, l = bk n := ⟨_, rfl⟩
      have hl4 := HBK.out n hlt
      rw [← hl] at hv hO hl4
      have iv := fun W => idx_arr CL.toArray n hlt _ hv W
      have HO := Lib.hid hO
      have HL := Lib.hid hl
      obtain ⟨N, hN⟩ : ∃ N, N = l.length := ⟨_, rfl⟩
      rw [← hN] at iv hv hl4
      have HN := Lib.hid hN
      have hlt' : (n : Int) < 1024 := by omega
      clear hO hl hv hN
      go_wp2
      go_loopw [22] (fun i wr => ∃ (k : Nat) (es : List ((Int × Int) × Value)), k ≤ N ∧ i = .int .i64 k ∧ MapAt pairKey wr w.heap.size es ∧ KeysAre es (outL bk n ++ midL l k) ∧ Below w.heap.size w wr) (fun i _ => N - (intOf i).toNat)
      case atStart => exact ⟨0, es, by omega, rfl, HM.out, fun q => by rw [HE.out q]; simp [midL], HB.out⟩
      case round =>
        clear HM HE HB hsz
        obtain ⟨k, es, hk, rfl, hm, hes, hbel⟩ := hrel
        have HM := Lib.hid hm
        have HE := Lib.hid hes
        have HB := Lib.hid hbel
        have hsz := hm.lt
        clear hm hes hbel
        by_cases hkN : k < N
        · have hkl : k < l.length := by rw [← HN.out]; exact hkN
          obtain ⟨g, cap, cur, eS, _, hcur, hcap, _, _, hcat⟩ := own_at HO.out (by omega)
          rw [← HN.out] at hcap
          simp only [Value.slice.injEq, true_and] at eS
          obtain ⟨rfl, rfl⟩ := eS
          have hcell : ∀ j (hj : j < l.length), w.cell? ⟨g, j, none⟩ = some (.int .u32 l[j]) := fun j hj => by
            have := hcat j hj 0 _ rfl
            exact CellsAt.at (w := w) hcur j (by simpa [u32E] using this)
          have HC := Lib.hid hcell
          have gl := lt_of_block hcur
          have q0 : wr.cell? ⟨g, k, none⟩ = some (.int .u32 l[k]) := (HB.out.cell (p := ⟨g, k, none⟩) gl).trans (hcell k hkl)
          have ix : ∀ W, (Instr.indexAt 61 (.slice (some ⟨g, 0, none⟩) N c) (.int .i64 (k : Int))).run Tryz.prog W = .ok (.pointer (some ⟨g, k, none⟩)) W := fun W => by have := idx_u32 (A := some ⟨g, 0, none⟩) (c := c) rfl hkN W; rwa [Nat.zero_add] at this
          have it := fun W => slice_to Tryz.underlying61 1 Tryz.sizeOf23 g 0 N c k (by omega) W
          obtain ⟨x, hx⟩ : ∃ x, x = l[k] := ⟨_, rfl⟩
          rw [← hx] at q0
          have HX := Lib.hid hx
          clear hcell hcur hcat hx hcap
          go_wp2
          go_loopw [31] (fun i wr => ∃ (j : Nat) (es : List ((Int × Int) × Value)), j ≤ k ∧ i = .int .i64 j ∧ MapAt pairKey wr w.heap.size es ∧ KeysAre es (outL bk n ++ midL l k ++ innerL x (l.take j)) ∧ Below w.heap.size w wr) (fun i _ => k - (intOf i).toNat)
          case atStart => exact ⟨0, es, by omega, rfl, HM.out, fun q => by rw [HE.out q]; simp [innerL], HB.out⟩
          case round =>
            clear HM HE HB hsz q0 it ix
            obtain ⟨j, es, hj, rfl, hm, hes, hbel⟩ := hrel
            have HM := Lib.hid hm
            have HE := Lib.hid hes
            have HB := Lib.hid hbel
            have hsz := hm.lt
            clear hm hes hbel
            by_cases hjk : j < k
            · have hjl : j < l.length := by omega
              have q0 : wr.cell? ⟨g, j, none⟩ = some (.int .u32 l[j]) := (HB.out.cell (p := ⟨g, j, none⟩) gl).trans (HC.out j hjl)
              have ix : ∀ W, (Instr.indexAt 61 (.slice (some ⟨g, 0, none⟩) k c) (.int .i64 (j : Int))).run Tryz.prog W = .ok (.pointer (some ⟨g, j, none⟩)) W := fun W => by have := idx_u32 (A := some ⟨g, 0, none⟩) (c := c) rfl hjk W; rwa [Nat.zero_add] at this
              obtain ⟨y, hy⟩ : ∃ y, y = l[j] := ⟨_, rfl⟩
              rw [← hy] at q0
              have HY := Lib.hid hy
              clear hy
              by_cases hxy : x = y
              · have hq : (x != y) = false := by simp [hxy]
                have HXY := Lib.hid hxy
                clear hxy
                go_wp2
                go_roundw
                case rel => exact ⟨j + 1, es, by omega, by go_num, HM.out, by rw [innerL_eq hjl (HXY.out.trans HY.out)]; exact HE.out, HB.out⟩
                case measure => simp [intOf]; omega
              · have hq : (x != y) = true := by simp [hxy]
                have HXY := Lib.hid hxy
                clear hxy
                go_wp2_with fail
                refine (pair_any x y _).mono ?_
                rintro e w1 ⟨rfl, hb⟩
                obtain ⟨g1, rfl⟩ := Grow.of hb
                clear hb
                have hm1 := HM.out.grow g1.below
                go_wp2_with (refine wpList_store (K := pairKey) rfl (.tmp 38) (.tmp 41) (.tmp 42) 258 259 rfl Tryz.underlying258 w.heap.size es (pairO x y) (.agg #[]) rfl rfl rfl hm1 ?_; intro w4 hm4 hg4 hs4)
                go_roundw
                case rel =>
                  refine ⟨j + 1, _, by omega, by go_num, hm4, ?_, ?_⟩
                  · rw [innerL_ne hjl (fun e => HXY.out (e.trans HY.out.symm)), ← HY.out, ← List.append_assoc]
                    exact HE.out.put _ _
                  · have h1 := HB.out.trans (g1.below.mono (Nat.le_of_lt hsz))
                    exact h1.grown hg4 h1.size (fun k e => by simp at e; omega)
                case measure => simp [intOf]; omega
            · have hjk' : j = k := by omega
              have HJ := Lib.hid hjk'
              clear hjk'
              go_wp2
              go_roundw
              case rel => exact ⟨k + 1, es, by omega, by go_num, HM.out, by rw [midL_succ, ← List.append_assoc, List.getD_eq_getElem?_getD, List.getElem?_eq_getElem hkl]; have := HE.out; rw [HJ.out, HX.out] at this; exact this, HB.out⟩
              case measure => simp [intOf]; omega
        · have hkN' : k = l.length := by rw [← HN.out]; omega
          have HK := Lib.hid hkN'
          clear hkN'
          go_wp2
          go_roundw
          case rel => exact ⟨n + 1, es, by omega, by go_num, HM.out, by rw [outL_succ, ← HL.out]; have := HE.out; rw [HK.out] at this; exact this, HB.out⟩
          case measure => simp [intOf]; omega
    · have hn' : n = 1024 := by omega
      subst hn'
      have hlen : es.length ≤ 100000000000 := by
        obtain ⟨es', c', h1, h2, h3, _⟩ := HM.out
        have h4 := List.Nodup.length_le_of_subset h3 (fun q hq => (HE.out q).1 hq)
        have h5 := outL_len bk HBK.out 1024 (Nat.le_refl _)
        simp at h4
        omega
      go_wp2_with (first
        | (go_at_call 178; refine (mapsKeys_any _ _).mono ?_; rintro e w1 ⟨rfl, rfl⟩)
        | (go_at_call 177; refine (sorted_any wr.heap.size w.heap.size es _ hlen (CellsAt.at (CellsAt.new _ _ _) 0 rfl) (HM.out.of_block (Below.heap_alloc _ _ _ hsz))).mono ?_; rintro e w2 ⟨v, ks, rfl, h2⟩; have H2 := Lib.hid h2; clear h2))
      go_ret
      obtain ⟨hp1, hs1, ho1, hb1⟩ := H2.out
      refine ⟨v, ks, rfl, ?_, fun q => by rw [hp1.mem_iff]; exact HE.out q, hs1, own_base ho1 (by simp; omega), (HB.out.alloc HB.out.size _).trans (hb1.mono (by simp; omega))⟩
      obtain ⟨es', c', h1, h2, h3, _⟩ := HM.out
      exact hp1.nodup_iff.2 h3
end Go.Proofs.YtnhaiecbjipodaaGreatDoor
/- pairs.counting and its two closures; slices.IndexFunc at pairs under the first of them. -/
namespace Go.Proofs.YtnhaiecbjipodaaGreatDoor
open Go.RowKit Go.Shelf Go.Proofs
attribute [local go_sem] Grow.cell Grow.froz Grow.lt lt_s1 lt_s2 lt_s3 lt_s4 lt_s5
/-- What the two closures share: the number of calls, the variable that holds the map of boxes, the map. -/
structure CountAt (w : World) (nB oB mb : Nat) (es : List (Int × Value)) (k : Nat) : Prop where
  n : CellsAt w nB #[.int .i64 (k : Int)] 3
  o : CellsAt w oB #[.map (some mb)] 213
  m : MapAt atKey w mb es
  g : Glob w
theorem CountAt.below {w w' : World} {nB oB mb k : Nat} {es : List (Int × Value)} (h : CountAt w nB oB mb es k) (hb : Below w.heap.size w w') : CountAt w' nB oB mb es k :=
  ⟨h.n.below hb h.n.lt, h.o.below hb h.o.lt, h.m.grow hb, h.g.below hb⟩
theorem CountAt.apart {w : World} {nB oB mb k : Nat} {es : List (Int × Value)} (h : CountAt w nB oB mb es k) : nB ≠ oB ∧ mb ≠ nB ∧ mb ≠ oB :=
  ⟨fun e => by have := h.n; rw [e] at this; have := this.symm.trans h.o; simp at this, h.m.ne_cells h.n, h.m.ne_cells h.o⟩
theorem look_box {w : World} {mb : Nat} {es : List (Int × Value)} (h : MapAt atKey w mb es) {k : Int} {A : BoxI} (hk : getM es k = some (.agg A.arr)) :
    (Instr.lookup 213 (.map (some mb)) (.int .u32 k) false).run Tryz.prog w = .ok (.agg A.arr) w := by
  have := run_lookup (K := atKey) h Tryz.underlying213 (Tryz.zeroValue220 w) k false
  rw [hk] at this
  exact this
set_option maxRecDepth 100000 in
set_option maxHeartbeats 1000000 in
theorem apart_any (q : Int × Int) (A B : BoxI) (nB oB mb k : Nat) (es : List (Int × Value)) (w : World) (h : CountAt w nB oB mb es k) (hn4 : 4 ≤ nB) (hk : (k : Int) < 1000000000000) (hA : getM es q.1 = some (.agg A.arr)) (hB : getM es q.2 = some (.agg B.arr)) :
    Calls Tryz.prog 172 #[.agg #[.int .u32 q.1, .int .u32 q.2], .pointer (some ⟨nB, 0, none⟩), .pointer (some ⟨oB, 0, none⟩)] w fun e w' => e = .returned (.bool (!overlapI A B)) ∧ CountAt w' nB oB mb es (k + 1) ∧ Alter (fun b => b = nB) w w' := by
  obtain ⟨a1, a2, a3⟩ := h.apart
  have ln := h.n.lt
  have lo := h.o.lt
  have c0 : w.cell? ⟨nB, 0, none⟩ = some (.int .i64 (k : Int)) := h.n.at 0 rfl
  have f0 : w.frozen? ⟨nB, 0, none⟩ = false := h.n.froz 0
  have c1 : w.cell? ⟨oB, 0, none⟩ = some (.map (some mb)) := h.o.at 0 rfl
  have hw : wrap64 ((k : Int) + 1) = ((k + 1 : Nat) : Int) := by unfold wrap64; omega
  have ne : ⟨nB, 0, none⟩ ≠ (⟨oB, 0, none⟩ : Addr) := fun e => a1 (congrArg Addr.block e)
  have HH := Lib.hid h
  have HA := Lib.hid hA
  have HBx := Lib.hid hB
  clear h hA hB
  go_enter Tryz.func172, Tryz.ntmps172
  go_upto_region 2 with fail
  obtain ⟨W, hW⟩ : ∃ W, W = (w.setCell ⟨nB, 0, none⟩ (.int .i64 ((k : Int) + 1))).alloc (.cells #[.int .u32 q.1, .int .u32 q.2] 98) := ⟨_, rfl⟩
  rw [← hW]
  have hC : CountAt W nB oB mb es (k + 1) := by
    have h := HH.out
    have hG : Glob (w.setCell ⟨nB, 0, none⟩ (.int .i64 ((k : Int) + 1))) := h.g.belowN (n := nB) ((Below.refl _ _).setCell (p := ⟨nB, 0, none⟩) (Nat.le_refl _) _) hn4
    rw [hW]
    exact ⟨((h.n.set 0 _).alloc _).eq (by simp), (h.o.far a1.symm _).alloc _, (h.m.of_block (Below.heap_setCell _ _ _ _ a2)).of_block (Below.heap_alloc _ _ _ (by simpa using h.m.lt)), hG.alloc _⟩
  have hal : Alter (fun b => b = nB) w W := by rw [hW]; exact alter_alloc (alter_set (S := fun b => b = nB) (Alter.refl _ _) (.inl rfl) _) _
  have hX : CellsAt W w.heap.size #[.int .u32 q.1, .int .u32 q.2] 98 := by
    have := CellsAt.new (w.setCell ⟨nB, 0, none⟩ (.int .i64 ((k : Int) + 1))) #[.int .u32 q.1, .int .u32 q.2] 98
    rw [hW]
    simpa using this
  have x0 : W.cell? ⟨w.heap.size, 0, none⟩ = some (.int .u32 q.1) := hX.at 0 rfl
  have x1 : W.cell? ⟨w.heap.size, 1, none⟩ = some (.int .u32 q.2) := hX.at 1 rfl
  have d1 : W.cell? ⟨oB, 0, none⟩ = some (.map (some mb)) := hC.o.at 0 rfl
  have lA := look_box hC.m HA.out
  have lB := look_box hC.m HBx.out
  have HC := Lib.hid hC
  have HAL := Lib.hid hal
  clear hC hal hX hW c0 f0 c1 hw ne
  obtain ⟨r, hr⟩ : ∃ r, r = overlapI A B := ⟨_, rfl⟩
  have HO := fun w hG => overlap_any A B w hG
  rw [← hr] at HO
  have HR := Lib.hid hr
  clear hr
  go_wp2_with fail
  refine (HO _ HC.out.g).mono ?_
  rintro e w1 ⟨rfl, hb⟩
  obtain ⟨g1, rfl⟩ := Grow.of hb
  clear hb
  go_wp2
  go_ret
  exact ⟨ret_bool (by rw [HR.out]), HC.out.below g1.below, alter_grow HAL.out g1⟩
theorem counting_any (mb : Nat) (w : World) : Calls Tryz.prog 149 #[.map (some mb)] w fun e w' => e = .returned (.tuple #[.func (.func 172) #[] #[.pointer (some ⟨w.heap.size + 1, 0, none⟩), .pointer (some ⟨w.heap.size, 0, none⟩)], .func (.func 174) #[] #[.pointer (some ⟨w.heap.size + 1, 0, none⟩)]]) ∧ w' = (w.alloc (.cells #[.map (some mb)] 213)).alloc (.cells #[.int .i64 0] 3) := by
  go_enter Tryz.func149, Tryz.ntmps149
  go_wp2
  refine bodyPost_ret (v := .tuple #[.func (.func 172) #[] #[.pointer (some ⟨w.heap.size + 1, 0, none⟩), .pointer (some ⟨w.heap.size, 0, none⟩)], .func (.func 174) #[] #[.pointer (some ⟨w.heap.size + 1, 0, none⟩)]]) (by simp [results, Tryz.results149, go_sem]) rfl ⟨rfl, rfl⟩
theorem counted_any (nB : Nat) (k : Int) (w : World) (h : w.cell? ⟨nB, 0, none⟩ = some (.int .i64 k)) : Calls Tryz.prog 174 #[.pointer (some ⟨nB, 0, none⟩)] w fun e w' => e = .returned (.int .i64 k) ∧ w' = w := by
  go_enter Tryz.func174, Tryz.ntmps174
  go_wp2
  go_ret
  exact ⟨rfl, rfl⟩
theorem idx_pair {A : Option Addr} {b off k len c : Nat} (hA : A = some ⟨b, off, none⟩) (hk : k < len) (w : World) :
    (Instr.indexAt 185 (.slice A len c) (.int .i64 (k : Int))).run Tryz.prog w = .ok (.pointer (some ⟨b, off + k * 2, none⟩)) w := by
  subst hA
  have hk' : (k : Int) < (len : Int) := by omega
  go_simp
/-- The boxes of a pair of keys, and whether they lie apart. -/
def BoxesOf (es : List (Int × Value)) (ap : Int × Int → Bool) (q : Int × Int) : Prop := ∃ A B : BoxI, getM es q.1 = some (.agg A.arr) ∧ getM es q.2 = some (.agg B.arr) ∧ ap q = !overlapI A B
/-- What IndexFunc finds. -/
def firstI (ap : Int × Int → Bool) (ks : List (Int × Int)) : Option Nat := ks.findIdx? ap
def firstV (ap : Int × Int → Bool) (ks : List (Int × Int)) : Int := match firstI ap ks with | some i => (i : Int) | none => -1
def firstN (ap : Int × Int → Bool) (ks : List (Int × Int)) : Nat := match firstI ap ks with | some i => i + 1 | none => ks.length
abbrev apartF (nB oB : Nat) : Value := .func (.func 172) #[] #[.pointer (some ⟨nB, 0, none⟩), .pointer (some ⟨oB, 0, none⟩)]
set_option maxRecDepth 100000 in
set_option maxHeartbeats 1000000 in
theorem indexFunc_any (v : Value) (ks : List (Int × Int)) (ap : Int × Int → Bool) (nB oB mb base : Nat) (es : List (Int × Value)) (w : World) (h : CountAt w nB oB mb es 0) (hn4 : 4 ≤ nB) (hO : Own pairE 98 w base v ks) (hlen : ks.length ≤ 100000000000)
    (hbx : ∀ q ∈ ks, BoxesOf es ap q) :
    Calls Tryz.prog 175 #[v, .func (.func 172) #[] #[.pointer (some ⟨nB, 0, none⟩), .pointer (some ⟨oB, 0, none⟩)]] w fun e w' => e = .returned (.int .i64 (firstV ap ks)) ∧ CountAt w' nB oB mb es (firstN ap ks) ∧ Alter (fun b => b = nB) w w' := by
  obtain ⟨A, c, rfl⟩ := hO.form
  have HO := Lib.hid hO
  have HBX := Lib.hid hbx
  have HC := Lib.hid h
  have hne : Value.ownBlock (.slice A ks.length c) ≠ some nB := own_not_cells hO h.n (by decide)
  have HNE := Lib.hid hne
  obtain ⟨N, hN⟩ : ∃ N, N = ks.length := ⟨_, rfl⟩
  have HN := Lib.hid hN
  have hlN : N ≤ 100000000000 := by omega
  clear hO hbx h hne
  rw [← hN]
  clear hlen hN
  go_enter Tryz.func175, Tryz.ntmps175
  go_wp2
  go_loopw [8] (fun i wr => ∃ (k : Nat), k ≤ N ∧ i = .int .i64 k ∧ CountAt wr nB oB mb es k ∧ (∀ q ∈ ks.take k, ap q = false) ∧ Alter (fun b => b = nB) w wr) (fun i _ => N - (intOf i).toNat)
  case atStart => exact ⟨0, by omega, rfl, HC.out, by simp, Alter.refl _ _⟩
  case round =>
    obtain ⟨k, hk, rfl, hC, hap, hal⟩ := hrel
    have HC1 := Lib.hid hC
    have HAP := Lib.hid hap
    have HAL := Lib.hid hal
    clear hC hap hal
    by_cases hlt : k < N
    · have hkl : k < ks.length := by rw [← HN.out]; exact hlt
      have hOr : Own pairE 98 wr base (.slice A ks.length c) ks := own_block HO.out fun j hj hjl => HAL.out.block j hjl (fun e => HNE.out (by rw [hj, e]))
      obtain ⟨g, cap, cur, eS, _, hcur, hcap, _, _, hcat⟩ := own_at hOr (by omega)
      simp only [Value.slice.injEq, true_and] at eS
      obtain ⟨rfl, rfl⟩ := eS
      have ix : ∀ W, (Instr.indexAt 185 (.slice (some ⟨g, 0, none⟩) N c) (.int .i64 (k : Int))).run Tryz.prog W = .ok (.pointer (some ⟨g, k * 2, none⟩)) W := fun W => by have := idx_pair (A := some ⟨g, 0, none⟩) (c := c) rfl hlt W; rwa [Nat.zero_add] at this
      have q0 : wr.cell? ⟨g, k * 2, none⟩ = some (.int .u32 ks[k].1) := CellsAt.at (w := wr) hcur _ (hcat k hkl 0 _ rfl)
      have q1 : wr.cell? ⟨g, k * 2 + 1, none⟩ = some (.int .u32 ks[k].2) := CellsAt.at (w := wr) hcur _ (hcat k hkl 1 _ rfl)
      obtain ⟨X, Y, hX, hY, hxy⟩ := HBX.out ks[k] (List.getElem_mem hkl)
      obtain ⟨q, hq⟩ : ∃ q, q = ks[k] := ⟨_, rfl⟩
      rw [← hq] at q0 q1 hX hY hxy
      have HQ := Lib.hid hq
      have HXY := Lib.hid hxy
      have HAp := fun W h => apart_any q X Y nB oB mb k es W h hn4 (by omega) hX hY
      rw [← hxy] at HAp
      clear hOr hcur hcat hcap hX hY hq hxy
      by_cases hb : ap q = true
      · rw [hb] at HAp
        go_wp2_with fail
        refine (HAp _ HC1.out).mono ?_
        rintro e w1 ⟨rfl, hC2, hA2⟩
        have H2 := Lib.hid (And.intro hC2 hA2)
        clear hC2 hA2
        go_wp2
        go_ret
        have hf : firstI ap ks = some k := by
          unfold firstI
          rw [List.findIdx?_eq_some_iff_getElem]
          refine ⟨hkl, by rw [← HQ.out]; exact hb, fun j hj => ?_⟩
          have := HAP.out (ks[j]'(by omega)) (by rw [List.mem_iff_getElem]; exact ⟨j, by simp; omega, by simp⟩)
          simpa using this
        exact ⟨ret_int (by simp [firstV, hf]), by simp only [firstN, hf]; exact H2.out.1, HAL.out.trans H2.out.2 (fun _ _ h => h)⟩
      · have hb' : ap q = false := by simpa using hb
        rw [hb'] at HAp
        go_wp2_with fail
        refine (HAp _ HC1.out).mono ?_
        rintro e w1 ⟨rfl, hC2, hA2⟩
        have H2 := Lib.hid (And.intro hC2 hA2)
        clear hC2 hA2
        go_wp2
        go_roundw
        case rel =>
          refine ⟨k + 1, by omega, by go_num, H2.out.1, fun x hx => ?_, HAL.out.trans H2.out.2 (fun _ _ h => h)⟩
          rw [List.take_succ_eq_append_getElem hkl, List.mem_append, List.mem_singleton] at hx
          rcases hx with hx | rfl
          · exact HAP.out x hx
          · rw [← HQ.out]; exact hb'
        case measure => simp [intOf]; omega
    · have hkN : k = ks.length := by rw [← HN.out]; omega
      have HK := Lib.hid hkN
      clear hkN
      go_wp2
      go_ret
      have hf : firstI ap ks = none := by
        unfold firstI
        rw [List.findIdx?_eq_none_iff]
        intro x hx
        have := HAP.out x (by rw [HK.out, List.take_length]; exact hx)
        simpa using this
      exact ⟨ret_int (by simp [firstV, hf]), by simp only [firstN, hf, ← HK.out]; exact HC1.out, HAL.out⟩
end Go.Proofs.YtnhaiecbjipodaaGreatDoor
/- slices.DeleteFunc at pairs under the first closure of counting. -/
namespace Go.Proofs.YtnhaiecbjipodaaGreatDoor
open Go.RowKit Go.Shelf Go.Proofs
attribute [local go_sem] Grow.cell Grow.froz Grow.lt lt_s1 lt_s2 lt_s3 lt_s4 lt_s5
def put2 (w : World) (g o : Nat) (q : Int × Int) : World := (w.setCell ⟨g, o, none⟩ (.int .u32 q.1)).setCell ⟨g, o + 1, none⟩ (.int .u32 q.2)
theorem own_put2 {w : World} {base g cap : Nat} {l : List (Int × Int)} {n : Nat} (h : Own pairE 98 w base (.slice (some ⟨g, 0, none⟩) n cap) l) {i : Nat} (hi : i < l.length) (q : Int × Int) : Own pairE 98 (put2 w g (i * 2) q) base (.slice (some ⟨g, 0, none⟩) n cap) (l.set i q) := by
  obtain ⟨g', cap', cur, e, hb, hg, hc, hm, hs, hat⟩ := own_at h (by omega)
  simp only [Value.slice.injEq, Option.some.injEq, Addr.mk.injEq, and_true] at e
  obtain ⟨rfl, rfl, rfl⟩ := e
  have c0 : CellsAt w g cur 98 := hg
  have c1 := (c0.set (i * 2) (.int .u32 q.1)).set (i * 2 + 1) (.int .u32 q.2)
  have hsz : (i + 1) * 2 ≤ cur.size := by
    rw [hs]
    exact Nat.mul_le_mul_right 2 (by omega)
  have := own_of_at (E := pairE) (l := l.set i q) (cap := cap) c1 (by simpa using hc) hm (by simpa using hs) (by
    intro k hk j u hu
    have hk' : k < l.length := by simpa using hk
    have hj : j < 2 := by
      have := (List.getElem?_eq_some_iff.1 hu).1
      rwa [pairE.len] at this
    by_cases hki : k = i
    · subst hki
      simp only [List.getElem_set_self] at hu
      show _ = _
      rw [show pairE.sz = 2 from rfl]
      have hh : ([Value.int .u32 q.1, Value.int .u32 q.2])[j]? = some u := hu
      obtain rfl | rfl : j = 0 ∨ j = 1 := by omega
      all_goals
        simp at hh
        subst hh
        simp [Array.getElem?_setIfInBounds]
        omega
    · rw [List.getElem_set_ne (fun e => hki e.symm)] at hu
      have h1 := hat k hk' j u hu
      rw [show pairE.sz = 2 from rfl] at *
      have hne : ∀ d, d < 2 → ¬ i * 2 + d = k * 2 + j := fun d hd => by omega
      have h0 := hne 0 (by omega)
      simp only [Nat.add_zero] at h0
      simp [Array.getElem?_setIfInBounds, h0, hne 1 (by omega), h1]) base hb
  rw [List.length_set] at this
  exact this
/-- The front of a slice of the call's own. -/
theorem own_front {α : Type} {E : Enc α} {t : TypeId} {w : World} {base g N cap : Nat} {l : List α} (h : Own E t w base (.slice (some ⟨g, 0, none⟩) N cap) l) (hl : 0 < l.length) {i : Nat} (hi : i ≤ l.length) : Own E t w base (.slice (some ⟨g, 0, none⟩) i cap) (l.take i) := by
  obtain ⟨g', cap', cur, e, hb, hg, hc, hm, hs, hat⟩ := own_at h hl
  simp only [Value.slice.injEq, Option.some.injEq, Addr.mk.injEq, and_true] at e
  obtain ⟨rfl, _, rfl⟩ := e
  have hlen : (l.take i).length = i := by simp; omega
  have := own_of_at (E := E) (l := l.take i) (cap := cap) hg (by omega) hm hs (fun k hk j u hu => hat k (by omega) j u (by rw [List.getElem_take] at hu; exact hu)) base hb
  rw [hlen] at this
  exact this
theorem run_clear_row {P : Program} {t e ty : TypeId} {z : Value} {sz : Nat} (ht : P.underlying t = some (.slice e)) (hz : ∀ w, (zeroValue e).run P w = .ok z w) (hsz : z.cells.size = sz) (hpos : 0 < sz) (h1 : ∀ v ∈ z.cells.toList, v.oneCell' = true)
    (w : World) (g o n c : Nat) (cur : Array Value) (t' : TypeId) (hg : w.heap[g]? = some (.cells cur t' (0, 0))) (hn : o + n * sz ≤ cur.size) :
    ∃ cur' w', (Builtin.clear_ #[t] ty #[.slice (some ⟨g, o, none⟩) n c]).run P w = .ok (.tuple #[]) w' ∧ w'.heap[g]? = some (.cells cur' t' (0, 0)) ∧ cur'.size = cur.size ∧ (∀ j, j < o → cur'[j]? = cur[j]?) ∧ w.grownBy w' (some g) ∧ w'.heap.size = w.heap.size := by
  have hgl : g < w.heap.size := (Array.getElem?_eq_some_iff.1 hg).1
  cases n with
  | zero =>
    refine ⟨cur, w, ?_, hg, rfl, fun _ _ => rfl, ⟨rfl, rfl, rfl, Nat.le_refl _, fun _ _ _ => rfl⟩, rfl⟩
    simp [Builtin.clear_, run_underlying ht]
  | succ m =>
    have hlen : (Builtin.zeroCells z.cells (m + 1)).toList.length = (m + 1) * sz := by simp [Builtin.zeroCells, hsz]
    have hone : ∀ v ∈ (Builtin.zeroCells z.cells (m + 1)).toList, v.oneCell' = true := by
      intro v hv
      simp only [Builtin.zeroCells, Array.toList_map, List.mem_map] at hv
      obtain ⟨i, _, rfl⟩ := hv
      have hlt : i % z.cells.size < z.cells.size := Nat.mod_lt _ (by omega)
      rw [getElem!_pos z.cells _ hlt]
      exact h1 _ (by simp)
    have hst := run_storeCells_at (P := P) g o t' _ 0 cur w hg (by rw [hlen]; simpa using hn) hone
    obtain ⟨W', hW'⟩ : ∃ W', W' = w.setRow g (cur.toList.take (o + 0) ++ (Builtin.zeroCells z.cells (m + 1)).toList ++ cur.toList.drop (o + 0 + (Builtin.zeroCells z.cells (m + 1)).toList.length)).toArray := ⟨_, rfl⟩
    rw [← hW'] at hst
    have hrun : (Builtin.clear_ #[t] ty #[.slice (some ⟨g, o, none⟩) (m + 1) c]).run P w = .ok (.tuple #[]) W' := by simp [Builtin.clear_, run_underlying ht, hz, hst]
    subst hW'
    refine ⟨_, _, hrun, setRow_heap w g cur _ t' _ hg, ?_, ?_, ?_, ?_⟩
    · simp only [Nat.add_zero, List.size_toArray, List.length_append, List.length_take, Array.length_toList, hlen, List.length_drop]
      omega
    · intro j hj
      simp only [Nat.add_zero, List.getElem?_toArray]
      rw [List.append_assoc, List.getElem?_append_left (by simp; omega), List.getElem?_take, if_pos hj, Array.getElem?_toList]
    · refine ⟨rfl, rfl, rfl, by simp [World.setRow], fun i hi hr => ?_⟩
      have : g ≠ i := fun e => hr (by rw [e])
      simp [World.setRow, Array.getElem?_modify, this]
    · simp [World.setRow]
theorem wpList_clear {P : Program} {ops : Array Oper} {rest : List Oper} {op : Oper} {a : Act} {Q : Exit → Act → World → Prop} {w : World} (hgd : op.guard = none) (s : Operand) (t e : TypeId) (hop : op.op = .call { callee := .builtin .clear, args := #[s], argTypes := #[t] })
    {z : Value} {sz : Nat} (ht : P.underlying t = some (.slice e)) (hz : ∀ w, (zeroValue e).run P w = .ok z w) (hsz : z.cells.size = sz) (hpos : 0 < sz) (h1 : ∀ v ∈ z.cells.toList, v.oneCell' = true) (g o n c : Nat) (cur : Array Value) (t' : TypeId) (hs : a.eval s = .slice (some ⟨g, o, none⟩) n c) (hg : w.heap[g]? = some (.cells cur t' (0, 0))) (hn : o + n * sz ≤ cur.size)
    (hK : ∀ cur' w', w'.heap[g]? = some (.cells cur' t' (0, 0)) → cur'.size = cur.size → (∀ j, j < o → cur'[j]? = cur[j]?) → w.grownBy w' (some g) → wpList P ops Q rest (a.put op.dst (.tuple #[])) w') : wpList P ops Q (op :: rest) a w := by
  refine wpList_plain hgd fun K' hK' => ?_
  obtain ⟨cur', w', hr, k1, k2, k3, k4, _⟩ := run_clear_row (P := P) (ty := op.type) ht hz hsz hpos h1 w g o n c cur t' hg hn
  unfold Oper.wp execOp
  simp only [hop, resolve, invoke, builtin, Sem.run_bind, Sem.run_pure, Result.andThen_ok, List.map_toArray, List.map_cons, List.map_nil, hs, hr]
  exact hK' _ _ (hK cur' w' k1 k2 k3 k4)
theorem CountAt.far {w w' : World} {nB oB mb k : Nat} {es : List (Int × Value)} {S : Nat → Prop} (h : CountAt w nB oB mb es k) (ha : Alter S w w') (h1 : ¬ S nB) (h2 : ¬ S oB) (h3 : ¬ S mb) (h4 : ∀ j, j < 4 → ¬ S j) : CountAt w' nB oB mb es k :=
  ⟨h.n.of_block (ha.block _ h.n.lt h1), h.o.of_block (ha.block _ h.o.lt h2), h.m.of_block (ha.block _ h.m.lt h3), h.g.belowN (n := 4) (ha.below h.g.size h4) (Nat.le_refl _)⟩
theorem firstI_take {ap : Int × Int → Bool} {ks : List (Int × Int)} {i : Nat} (h : firstI ap ks = some i) : i < ks.length ∧ (ks.take (i + 1)).filter (fun q => !ap q) = ks.take i := by
  unfold firstI at h
  obtain ⟨hi, h1, h2⟩ := List.findIdx?_eq_some_iff_getElem.1 h
  refine ⟨hi, ?_⟩
  rw [List.take_succ_eq_append_getElem hi, List.filter_append]
  have e1 : (ks.take i).filter (fun q => !ap q) = ks.take i := by
    rw [List.filter_eq_self]
    intro x hx
    obtain ⟨j, hj, rfl⟩ := List.getElem_of_mem hx
    have hj' : j < i := by simp at hj; omega
    have := h2 j hj'
    rw [List.getElem_take]
    simpa using this
  rw [e1]
  simp [h1]
theorem firstI_none {ap : Int × Int → Bool} {ks : List (Int × Int)} (h : firstI ap ks = none) : ks.filter (fun q => !ap q) = ks := by
  rw [List.filter_eq_self]
  intro x hx
  have := List.findIdx?_eq_none_iff.1 h x hx
  simpa using this
theorem filter_take_succ {ap : Int × Int → Bool} {ks : List (Int × Int)} {j : Nat} (hj : j < ks.length) : (ks.take (j + 1)).filter (fun q => !ap q) = (ks.take j).filter (fun q => !ap q) ++ (if ap ks[j] = true then [] else [ks[j]]) := by
  rw [List.take_succ_eq_append_getElem hj, List.filter_append]
  cases h : ap ks[j] <;> simp [h]
/-- Between two rounds: a elements are kept, b are seen. -/
structure DelAt (w wr : World) (g cap N base nB oB mb : Nat) (es : List (Int × Value)) (ks : List (Int × Int)) (ap : Int × Int → Bool) (a b : Nat) (L : List (Int × Int)) : Prop where
  own : Own pairE 98 wr base (.slice (some ⟨g, 0, none⟩) N cap) L
  len : L.length = N
  ab : a < b
  bN : b ≤ N
  kept : L.take a = (ks.take b).filter (fun q => !ap q)
  rest : L.drop b = ks.drop b
  cnt : CountAt wr nB oB mb es b
  alt : Alter (fun k => k = nB ∨ k = g) w wr
set_option maxRecDepth 100000 in
set_option maxHeartbeats 2000000 in
theorem deleteFunc_any (v : Value) (ks : List (Int × Int)) (ap : Int × Int → Bool) (nB oB mb base : Nat) (es : List (Int × Value)) (w : World) (h : CountAt w nB oB mb es 0) (hn4 : 4 ≤ nB) (hb4 : 4 ≤ base) (hO : Own pairE 98 w base v ks) (hlen : ks.length ≤ 100000000000)
    (hbx : ∀ q ∈ ks, BoxesOf es ap q) :
    Calls Tryz.prog 150 #[v, .func (.func 172) #[] #[.pointer (some ⟨nB, 0, none⟩), .pointer (some ⟨oB, 0, none⟩)]] w fun e w' => ∃ v', e = .returned v' ∧ Own pairE 98 w' base v' (ks.filter (fun q => !ap q)) ∧ CountAt w' nB oB mb es ks.length ∧ Alter (fun b => b = nB ∨ v.ownBlock = some b) w w' := by
  have hne : v.ownBlock ≠ some nB := own_not_cells hO h.n (by decide)
  have HI := indexFunc_any v ks ap nB oB mb base es w h hn4 hO hlen hbx
  unfold firstV firstN at HI
  cases hf : firstI ap ks with
  | none =>
    rw [hf] at HI
    simp only at HI
    have HI := Lib.hid HI
    have HO := Lib.hid hO
    have HF := Lib.hid hf
    have HNE := Lib.hid hne
    clear h hO hbx hf hne hlen
    obtain ⟨sv, hsv⟩ : ∃ sv, sv = v := ⟨_, rfl⟩
    have HSV := Lib.hid hsv
    rw [← hsv] at HI ⊢
    clear hsv
    go_enter Tryz.func150, Tryz.ntmps150
    go_wp2_with (go_at_call 175; refine HI.out.mono ?_; rintro e w1 ⟨rfl, h1⟩; have H1 := Lib.hid h1; clear h1)
    go_ret
    obtain ⟨hC, hA⟩ := H1.out
    refine ⟨sv, rfl, ?_, hC, hA.mono (fun _ _ e => .inl e)⟩
    rw [firstI_none HF.out, HSV.out]
    exact own_block HO.out fun k hk hlt => hA.block k hlt (fun e => HNE.out (by rw [hk, e]))
  | some i0 =>
    rw [hf] at HI
    simp only at HI
    obtain ⟨hi0, hfk⟩ := firstI_take hf
    obtain ⟨g, cap, cur, rfl, hbg, hcur, hcap, _, _, _⟩ := own_at hO (by omega)
    obtain ⟨N, hN⟩ : ∃ N, N = ks.length := ⟨_, rfl⟩
    rw [← hN] at HI hO hi0 hlen hcap ⊢
    have hgn : g ≠ nB := fun e => hne (by rw [e]; rfl)
    have hgo : g ≠ oB := fun e => own_not_cells hO h.o (by decide) (by rw [e]; rfl)
    have hgm : g ≠ mb := fun e => by
      have := h.m.ne_cells (show CellsAt w g cur 98 from hcur)
      exact this e.symm
    have h1 : ((i0 : Int) == -1) = false := by first | (simp; done) | (simp; omega)
    have HI := Lib.hid HI
    have HO := Lib.hid hO
    have HN := Lib.hid hN
    have HBX := Lib.hid hbx
    have HFK := Lib.hid hfk
    have HNE := Lib.hid hne
    have hg4 : ∀ j, j < 4 → j ≠ g := fun j hj => by omega
    clear h hO hbx hf hfk hne hN hcur
    go_enter Tryz.func150, Tryz.ntmps150
    go_wp2_with (first
      | (go_at_call 175; refine HI.out.mono ?_; rintro e w1 ⟨rfl, h2⟩; have H1 := Lib.hid h2; clear h2)
      | fail)
    go_loopw [5, 6] (fun x y wr => ∃ (a b : Nat) (L : List (Int × Int)), x = .int .i64 a ∧ y = .int .i64 b ∧ DelAt w wr g cap N base nB oB mb es ks ap a b L) (fun _ y _ => N - (intOf y).toNat)
    case atStart =>
      obtain ⟨hC, hA⟩ := H1.out
      have hne : Value.ownBlock (.slice (some ⟨g, 0, none⟩) N cap) ≠ some nB := by rw [HN.out]; exact HNE.out
      exact ⟨i0, i0 + 1, ks, rfl, by go_num, own_block HO.out fun k hk hlt => hA.block k hlt (fun e => hne (by rw [hk, e])), HN.out.symm, by omega, by omega, HFK.out.symm, rfl, hC, hA.mono (fun _ _ e => .inl e)⟩
    case round =>
      clear H1
      obtain ⟨a, b, L, rfl, rfl, hD⟩ := hrel
      have hab := hD.ab
      have hbN := hD.bN
      have hLN := hD.len
      have HD := Lib.hid hD
      clear hD
      by_cases hb : b < N
      · have hbL : b < L.length := by omega
        have hbk : b < ks.length := by rw [← HN.out]; exact hb
        have hq : L[b] = ks[b] := by
          have := congrArg (fun z => z[0]?) HD.out.rest
          simp [List.getElem?_drop, hbL, hbk] at this
          exact this
        obtain ⟨g1, cap1, cur1, eS, _, hcur1, hcap1, _, _, hcat⟩ := own_at HD.out.own (by omega)
        simp only [Value.slice.injEq, Option.some.injEq, Addr.mk.injEq, and_true] at eS
        obtain ⟨rfl, eN, rfl⟩ := eS
        clear eN
        have gl := lt_of_block hcur1
        have ix : ∀ W, (Instr.indexAt 185 (.slice (some ⟨g, 0, none⟩) N cap) (.int .i64 (b : Int))).run Tryz.prog W = .ok (.pointer (some ⟨g, b * 2, none⟩)) W := fun W => by have := idx_pair (A := some ⟨g, 0, none⟩) (c := cap) rfl hb W; rwa [Nat.zero_add] at this
        have iy : ∀ W, (Instr.indexAt 185 (.slice (some ⟨g, 0, none⟩) N cap) (.int .i64 (a : Int))).run Tryz.prog W = .ok (.pointer (some ⟨g, a * 2, none⟩)) W := fun W => by have := idx_pair (A := some ⟨g, 0, none⟩) (c := cap) rfl (show a < N by omega) W; rwa [Nat.zero_add] at this
        have q0 : wr.cell? ⟨g, b * 2, none⟩ = some (.int .u32 L[b].1) := CellsAt.at (w := wr) hcur1 _ (hcat b hbL 0 _ rfl)
        have q1 : wr.cell? ⟨g, b * 2 + 1, none⟩ = some (.int .u32 L[b].2) := CellsAt.at (w := wr) hcur1 _ (hcat b hbL 1 _ rfl)
        rw [hq] at q0 q1
        obtain ⟨X, Y, hX, hY, hxy⟩ := HBX.out ks[b] (List.getElem_mem hbk)
        obtain ⟨q, hqk⟩ : ∃ q, q = ks[b] := ⟨_, rfl⟩
        rw [← hqk] at q0 q1 hX hY hxy hq
        have HQ := Lib.hid hqk
        have HLQ := Lib.hid hq
        have HAp := fun W h => apart_any q X Y nB oB mb b es W h hn4 (by omega) hX hY
        rw [← hxy] at HAp
        have ln := HD.out.cnt.n.lt
        clear hcur1 hcat hcap1 hX hY hqk hq hxy
        have AFTER : ∀ w2, CountAt w2 nB oB mb es (b + 1) ∧ Alter (fun k => k = nB) (wr.alloc (.cells #[.int .u32 q.1, .int .u32 q.2] 98)) w2 → Own pairE 98 w2 base (.slice (some ⟨g, 0, none⟩) N cap) L ∧ Alter (fun k => k = nB ∨ k = g) w w2 ∧ CellsAt w2 wr.heap.size #[.int .u32 q.1, .int .u32 q.2] 98 := by
          rintro w2 ⟨hC, hA⟩
          refine ⟨own_block (w := wr.alloc _) (HD.out.own.alloc _) fun k hk hlt => hA.block k hlt (fun e => by simp [Value.ownBlock] at hk; omega), ?_, ?_⟩
          · exact (alter_alloc HD.out.alt _).trans hA (fun k _ e => .inl e)
          · exact CellsAt.of_block (w := wr.alloc _) (CellsAt.new _ _ _) (hA.block _ (by simp) (by omega))
        by_cases hap : ap q = true
        · rw [hap] at HAp
          go_wp2_with fail
          refine (HAp _ (HD.out.cnt.below ((Below.refl _ _).alloc (Nat.le_refl _) _))).mono ?_
          rintro e w2 ⟨rfl, h2⟩
          obtain ⟨hO2, hA2, hX2⟩ := AFTER w2 h2
          have H2 := Lib.hid (And.intro hO2 (And.intro hA2 h2.1))
          clear AFTER h2 hO2 hA2 hX2
          go_wp2
          go_roundw
          case rel =>
            obtain ⟨hO2, hA2, hC2⟩ := H2.out
            refine ⟨a, b + 1, L, rfl, by go_num, hO2, hLN, by omega, by omega, ?_, ?_, hC2, hA2⟩
            · rw [filter_take_succ hbk, ← HQ.out, if_pos hap, List.append_nil]; exact HD.out.kept
            · rw [← List.drop_drop, ← List.drop_drop, HD.out.rest]
          case measure => simp [intOf]; omega
        · have hap' : ap q = false := by simpa using hap
          rw [hap'] at HAp
          go_wp2_with fail
          refine (HAp _ (HD.out.cnt.below ((Below.refl _ _).alloc (Nat.le_refl _) _))).mono ?_
          rintro e w2 ⟨rfl, h2⟩
          obtain ⟨hO2, hA2, hX2⟩ := AFTER w2 h2
          have hC2 := h2.1
          have H2 := Lib.hid (And.intro hO2 (And.intro hA2 hC2))
          have l2 := hX2.lt
          have x0 : w2.cell? ⟨wr.heap.size, 0, none⟩ = some (.int .u32 q.1) := hX2.at 0 rfl
          have x1 : w2.cell? ⟨wr.heap.size, 1, none⟩ = some (.int .u32 q.2) := hX2.at 1 rfl
          obtain ⟨g2, cap2, cur2, eS, _, hcur2, hcap2, _, hs2, _⟩ := own_at hO2 (by omega)
          simp only [Value.slice.injEq, Option.some.injEq, Addr.mk.injEq, and_true] at eS
          obtain ⟨rfl, eN, rfl⟩ := eS
          clear eN
          have gl2 := lt_of_block hcur2
          have hK2 : CellsAt w2 g cur2 98 := hcur2
          have hsz : a * 2 + 1 < cur2.size := by
            have : (a + 1) * 2 ≤ cap * 2 := Nat.mul_le_mul_right 2 (by omega)
            have hs' : cur2.size = cap * 2 := hs2
            omega
          have k0 : w2.cell? ⟨g, a * 2, none⟩ = some cur2[a * 2] := hK2.at _ (Array.getElem?_eq_getElem (by omega))
          have k1 : w2.cell? ⟨g, a * 2 + 1, none⟩ = some cur2[a * 2 + 1] := hK2.at _ (Array.getElem?_eq_getElem hsz)
          have fz : ∀ j, w2.frozen? ⟨g, j, none⟩ = false := fun j => hK2.froz j
          generalize cur2[a * 2] = u0 at k0
          generalize cur2[a * 2 + 1] = u1 at k1
          clear AFTER h2 hO2 hA2 hX2 hcur2 hK2 hsz hs2 hcap2 hC2
          go_wp2
          go_roundw
          case rel =>
            obtain ⟨hO2, hA2, hC2⟩ := H2.out
            have haL : a < L.length := by omega
            refine ⟨a + 1, b + 1, L.set a q, by go_num, by go_num, own_put2 hO2 haL q, by simpa using hLN, by omega, by omega, ?_, ?_, ?_, alter_set (alter_set hA2 (.inl (.inr rfl)) _) (.inl (.inr rfl)) _⟩
            · rw [filter_take_succ hbk, ← HQ.out, if_neg hap, List.take_succ_eq_append_getElem (by simpa using haL), List.getElem_set_self, List.take_set_of_le (Nat.le_refl _), HD.out.kept]
            · rw [List.drop_set_of_lt (by omega), ← List.drop_drop, ← List.drop_drop, HD.out.rest]
            · refine hC2.far (S := fun k => k = g) (alter_set (S := fun k => k = g) (alter_set (S := fun k => k = g) (Alter.refl _ _) (.inl rfl) _) (.inl rfl) _) (fun e => hgn e.symm) (fun e => hgo e.symm) (fun e => hgm e.symm) hg4
          case measure => simp [intOf]; omega
      · obtain ⟨g1, cap1, cur1, eS, _, hcur1, hcap1, _, hs1, _⟩ := own_at HD.out.own (by omega)
        simp only [Value.slice.injEq, Option.some.injEq, Addr.mk.injEq, and_true] at eS
        obtain ⟨rfl, eN, rfl⟩ := eS
        clear eN
        have hbn : b = N := by omega
        have hsl := fun W => slice_from Tryz.underlying185 2 Tryz.sizeOf98 g 0 N cap a (by omega) (by omega) W
        have hst := fun W => slice_to Tryz.underlying185 2 Tryz.sizeOf98 g 0 N cap a (by omega) W
        have hfit : a * 2 + (N - a) * 2 ≤ cur1.size := by
          have hs' : cur1.size = cap * 2 := hs1
          omega
        have hcur := hcur1
        have HBN := Lib.hid hbn
        clear hbn hs1
        obtain ⟨cur', w', hcl, hw1, hw2, hw3, hw4, _⟩ := run_clear_row (P := Tryz.prog) (ty := 0) Tryz.underlying185 Tryz.zeroValue98 (sz := 2) rfl (by decide) (by simp [Value.oneCell', Value.cells]) wr g (a * 2) (N - a) (cap - a) cur1 _ hcur hfit
        have HW := Lib.hid (And.intro hw1 (And.intro hw2 (And.intro hw3 hw4)))
        have HCUR := Lib.hid hcur
        clear hw1 hw2 hw3 hw4 hcur hcur1 hfit
        go_wp2
        go_ret
        obtain ⟨hw1, hw2, hw3, hw4⟩ := HW.out
        have hag : Alter (fun k => k = g) wr w' := Alter.of_grown hw4 rfl
        have hfil : ks.filter (fun q => !ap q) = L.take a := by
          have := HD.out.kept
          rw [HBN.out, HN.out, List.take_length] at this
          exact this.symm
        refine ⟨.slice (some ⟨g, 0, none⟩) a cap, rfl, ?_, ?_, HD.out.alt.trans hag (fun k _ e => .inr e) |>.mono (fun k _ e => ?_)⟩
        · rw [hfil]
          have h0 := own_front HD.out.own (by omega) (show a ≤ L.length by omega)
          rcases h0.2 with ⟨e1, _⟩ | ⟨g', cap', cur', e1, _, hg', hc', hm', hs', ht'⟩
          · cases e1
          · simp only [Value.slice.injEq, Option.some.injEq, Addr.mk.injEq, and_true] at e1
            obtain ⟨rfl, e2, rfl⟩ := e1
            rw [HCUR.out] at hg'
            simp only [Option.some.injEq, Obj.cells.injEq, true_and, and_true] at hg'
            subst hg'
            refine ⟨h0.1, .inr ⟨g, cap, cur', by rw [← e2], Nat.le_trans (by omega) hbg, hw1, by omega, hm', by rw [hw2]; exact hs', ?_⟩⟩
            refine Eq.trans ?_ ht'
            have hla : (L.take a).length = a := by simp; omega
            refine List.ext_getElem? fun j => ?_
            rw [List.getElem?_take, List.getElem?_take]
            split
            · rename_i hj
              have hj2 : j < a * 2 := by simpa [pairE, hla] using hj
              rw [Array.getElem?_toList, Array.getElem?_toList]
              exact hw3 j hj2
            · rfl
        · have := HD.out.cnt
          rw [HBN.out, HN.out] at this
          rw [HN.out]
          exact this.far hag (fun e => hgn e.symm) (fun e => hgo e.symm) (fun e => hgm e.symm) hg4
        · exact e.imp id (fun e => by rw [e]; rfl)
end Go.Proofs.YtnhaiecbjipodaaGreatDoor
/- (*store.Store).Remove: the walk. -/
namespace Go.Proofs.YtnhaiecbjipodaaGreatDoor
open Go.RowKit Go.Shelf Go.Proofs
attribute [local go_sem] Grow.cell Grow.froz Grow.lt lt_s1 lt_s2 lt_s3 lt_s4 lt_s5
theorem getM_del (es : List (Int × Value)) (k k' : Int) : getM (delM es k) k' = if k' = k then none else getM es k' := by
  unfold getM delM
  by_cases hk : k' = k
  · subst hk
    rw [if_pos rfl, Option.map_eq_none_iff, List.find?_eq_none]
    intro x hx
    simpa using (List.mem_filter.1 hx).2
  · rw [if_neg hk, List.find?_filter]
    congr 2
    funext x
    by_cases hx : x.1 = k'
    · simp [hx, hk]
    · simp [hx]
set_option maxRecDepth 100000 in
set_option maxHeartbeats 4000000 in
theorem rem_hit (p : Nat) (k : Int) (w : World) (F : Nat → Prop) (l : List Body) (h : StoreAt w p F l) (i : Nat) (hil : i < l.length) (hi : idx l k = some i) :
    Calls Tryz.prog 92 #[.pointer (some ⟨p, 0, none⟩), .int .u32 k] w fun e w' => e = .returned (.int .i64 0) ∧ StoreAt w' p F (remL l i) ∧ Alter F w w' := by
  obtain ⟨v, m, h⟩ := h
  have hp := h.blk.lt
  have hlen := h.len
  rcases h.ok with ⟨_, rfl⟩ | ⟨mb, es, rfl, hF, hm, hg⟩
  · simp [idx] at hi
  obtain ⟨g, cap, cur, rfl, _, hcur, hc, hmx, hs, hat⟩ := own_at h.own (by omega)
  obtain ⟨m, hn⟩ : ∃ m, l.length = m + 1 := ⟨l.length - 1, by omega⟩
  have hml : m < l.length := by omega
  obtain ⟨x, hx⟩ : ∃ x, x = l[m] := ⟨_, rfl⟩
  have c0 : w.cell? ⟨p, 0, none⟩ = some (.slice (some ⟨g, 0, none⟩) (m + 1) cap) := by rw [← hn]; exact h.blk.at 0 rfl
  have f0 : w.frozen? ⟨p, 0, none⟩ = false := h.blk.froz 0
  have c1 : w.cell? ⟨p, 1, none⟩ = some (.map (some mb)) := h.blk.at 1 rfl
  have HL : (Instr.lookup 72 (.map (some mb)) (.int .u32 k) true).run Tryz.prog w = .ok (.tuple #[.int .i64 i, .bool true]) w := by
    have := at_look hm k
    rw [hg, hi] at this
    exact this
  have hgl : g < w.heap.size := lt_of_block hcur
  have ix : ∀ W, (Instr.indexAt 38 (.slice (some ⟨g, 0, none⟩) (m + 1) cap) (.int .i64 (i : Int))).run Tryz.prog W = .ok (.pointer (some ⟨g, i * 10, none⟩)) W := fun W => by
    have := idx_body (A := some ⟨g, 0, none⟩) (b := g) (off := 0) (c := cap) rfl (show i < m + 1 by omega) W
    rwa [Nat.zero_add] at this
  have iy : ∀ W, (Instr.indexAt 38 (.slice (some ⟨g, 0, none⟩) (m + 1) cap) (.int .i64 (m : Int))).run Tryz.prog W = .ok (.pointer (some ⟨g, m * 10, none⟩)) W := fun W => by
    have := idx_body (A := some ⟨g, 0, none⟩) (b := g) (off := 0) (c := cap) rfl (show m < m + 1 by omega) W
    rwa [Nat.zero_add] at this
  have HX := Lib.hid (And.intro h (And.intro hn (And.intro hil (And.intro hi (And.intro hF (And.intro hm (And.intro hg hx)))))))
  have hK : CellsAt w g cur 27 := hcur
  have hcs : ∀ j, j < 10 → ∃ u, cur[i * 10 + j]? = some u := fun j hj => by
    have : (i + 1) * 10 ≤ cap * 10 := Nat.mul_le_mul_right 10 (by omega)
    have hs' : cur.size = cap * 10 := hs
    exact ⟨_, Array.getElem?_eq_getElem (by omega)⟩
  obtain ⟨u0, e0⟩ := hcs 0 (by omega)
  obtain ⟨u1, e1⟩ := hcs 1 (by omega)
  obtain ⟨u2, e2⟩ := hcs 2 (by omega)
  obtain ⟨u3, e3⟩ := hcs 3 (by omega)
  obtain ⟨u4, e4⟩ := hcs 4 (by omega)
  obtain ⟨u5, e5⟩ := hcs 5 (by omega)
  obtain ⟨u6, e6⟩ := hcs 6 (by omega)
  obtain ⟨u7, e7⟩ := hcs 7 (by omega)
  obtain ⟨u8, e8⟩ := hcs 8 (by omega)
  obtain ⟨u9, e9⟩ := hcs 9 (by omega)
  have k0 : w.cell? ⟨g, i * 10, none⟩ = some u0 := hK.at (i * 10) e0
  have k1 : w.cell? ⟨g, i * 10 + 1, none⟩ = some u1 := hK.at _ e1
  have k2 : w.cell? ⟨g, i * 10 + 2, none⟩ = some u2 := hK.at _ e2
  have k3 : w.cell? ⟨g, i * 10 + 3, none⟩ = some u3 := hK.at _ e3
  have k4 : w.cell? ⟨g, i * 10 + 4, none⟩ = some u4 := hK.at _ e4
  have k5 : w.cell? ⟨g, i * 10 + 5, none⟩ = some u5 := hK.at _ e5
  have k6 : w.cell? ⟨g, i * 10 + 6, none⟩ = some u6 := hK.at _ e6
  have k7 : w.cell? ⟨g, i * 10 + 7, none⟩ = some u7 := hK.at _ e7
  have k8 : w.cell? ⟨g, i * 10 + 8, none⟩ = some u8 := hK.at _ e8
  have k9 : w.cell? ⟨g, i * 10 + 9, none⟩ = some u9 := hK.at _ e9
  have fz : ∀ j, w.frozen? ⟨g, j, none⟩ = false := fun j => hK.froz j
  have tx : TenAt w g (m * 10) x := by
    rw [hx]
    exact ten_of (fun j u hu => hK.at _ (hat m hml j u hu))
  obtain ⟨t0, t1, t2, t3, t4, t5, t6, t7, t8, t9⟩ := tx
  have hm4 : m < 4096 := Nat.lt_of_succ_le (show m + 1 ≤ 4096 by rw [← hn]; exact hlen)
  have hmc : m ≤ cap := Nat.le_of_succ_le (show m + 1 ≤ cap by rw [← hn]; exact hc)
  have hmc' : (m : Int) ≤ cap := Int.ofNat_le.2 hmc
  clear hcs e0 e1 e2 e3 e4 e5 e6 e7 e8 e9 h hn hil hi hF hm hg hat hcur hc hmx hs hlen hK hx
  go_enter Tryz.func92, Tryz.ntmps92
  go_upto_region 7 with fail
  refine wp_region_grow_tail 13 (by kernel_rfl) (by kernel_rfl) ?_
  simp only [List.take_succ_cons, List.take_zero]
  repeat (first | go_big_quiet_skip | (go_big_quiet_want; go_big_quiet_op; first | go_big_quiet_on))
  refine wpQuiet_nil ?_
  rintro _ ⟨g1, rfl⟩
  simp only [List.drop_succ_cons, List.drop_zero]
  have hb1 : Below w.heap.size w g1.world := (by repeat (first | with_reducible exact Below.refl _ _ | with_reducible refine bel_alloc ?_ _ | with_reducible refine bel_drewN ?_ _ | with_reducible refine bel_drew ?_ | with_reducible refine bel_grow ?_ _ | with_reducible refine bel_set ?_ (by first | omega | (simp; done) | (simp; omega)) _))
  go_upto_region 8 with fail
  obtain ⟨W, hW⟩ : ∃ W, W = put10 g1.world g (i * 10) x := ⟨_, rfl⟩
  change Code.wp _ _ _ _ (put10 g1.world g (i * 10) x)
  rw [← hW]
  obtain ⟨h, hn, hil', hi, hF, hm, hg, hx⟩ := HX.out
  have h1 := h.alter (Alter.of_below hb1 (fun _ => False)) (fun _ _ h => h)
  have hpg : p ≠ g := fun e => h.ne (by rw [e]; rfl)
  have hmg : mb ≠ g := fun e => by
    obtain ⟨_, _, cur, e2, _, h4, _⟩ := own_at h.own (by omega)
    simp only [Value.slice.injEq, Option.some.injEq, Addr.mk.injEq, and_true] at e2
    obtain ⟨rfl, _⟩ := e2
    exact hm.ne_cells h4 e
  have hFg : F g := h.fo g rfl
  have hfp := h.fp
  have A7 : Alter F w W := by
    rw [hW]
    unfold put10
    repeat (first | refine alter_set ?_ (.inl hFg) _ | exact Alter.of_below hb1 F)
  have hO7 : Own bodyE 27 W 0 (.slice (some ⟨g, 0, none⟩) l.length cap) (l.set i x) := by rw [hW]; exact own_put10 h1.own hil' x
  have hB7 : CellsAt W p #[.slice (some ⟨g, 0, none⟩) (m + 1) cap, .map (some mb)] 78 := by rw [hW, ← hn]; exact h1.blk.of_block (put10_other hpg)
  have hm7 : MapAt atKey W mb es := by rw [hW]; exact (hm.of_block (hb1.block mb hm.lt)).of_block (put10_other hmg)
  have t7 : TenAt W g (i * 10) x := by
    obtain ⟨g', cap', cur', e2, _, h4, _, _, _, h5⟩ := own_at hO7 (by simp; omega)
    simp only [Value.slice.injEq, Option.some.injEq, Addr.mk.injEq, and_true] at e2
    obtain ⟨rfl, _⟩ := e2
    refine ten_of (fun j u hu => ?_)
    have hK7 : CellsAt W g cur' 27 := h4
    refine hK7.at _ (h5 i (by simpa using hil') j u ?_)
    rw [List.getElem_set_self]
    exact hu
  obtain ⟨t70, _⟩ := t7
  have HY := Lib.hid (And.intro A7 (And.intro hO7 (And.intro hB7 (And.intro hm7 (And.intro hpg (And.intro hmg hfp))))))
  have d0 : W.cell? ⟨p, 0, none⟩ = some (.slice (some ⟨g, 0, none⟩) (m + 1) cap) := hB7.at 0 rfl
  have d1 : W.cell? ⟨p, 1, none⟩ = some (.map (some mb)) := hB7.at 1 rfl
  have qp := hB7.lt
  have qg : g < W.heap.size := World.block_lt_of_cell? W _ t70
  clear hW A7 hO7 hB7 hm7 h h1 hn hil' hi hF hm hg hx hpg hmg hFg hfp
  refine wp_region_grow_tail 13 (by kernel_rfl) (by kernel_rfl) ?_
  simp only [List.take_succ_cons, List.take_zero]
  repeat (first | go_big_quiet_skip | (go_big_quiet_want; go_big_quiet_op; first | go_big_quiet_on))
  refine wpQuiet_nil ?_
  rintro _ ⟨g2, rfl⟩
  simp only [List.drop_succ_cons, List.drop_zero]
  obtain ⟨A7, hO7, hB7, hm7, hpg, hmg, hfp⟩ := HY.out
  have hm8 := hm7.of_block (g2.below.block mb hm7.lt)
  refine wpList_store (K := atKey) rfl (.tmp 43) (.tmp 51) (.tmp 52) 72 3 rfl Tryz.underlying72 mb es x.key (.int .i64 i) rfl rfl rfl hm8 ?_
  intro w4 hm4 hg4 hs4
  have hmp : mb ≠ p := hm7.ne_cells hB7
  have hB4 : CellsAt w4 p #[.slice (some ⟨g, 0, none⟩) (m + 1) cap, .map (some mb)] 78 := (hB7.grow g2).of_block (hg4.block p (hB7.grow g2).lt (fun e => hmp (by simpa using e.symm)))
  have d40 : w4.cell? ⟨p, 0, none⟩ = some (.slice (some ⟨g, 0, none⟩) (m + 1) cap) := hB4.at 0 rfl
  have d41 : w4.cell? ⟨p, 1, none⟩ = some (.map (some mb)) := hB4.at 1 rfl
  have f40 : w4.frozen? ⟨p, 0, none⟩ = false := hB4.froz 0
  have q4 := hB4.lt
  have HM : MapAt atKey (w4.setCell ⟨p, 0, none⟩ (.slice (some ⟨g, 0, none⟩) m cap)) mb _ := hm4.of_block (Below.heap_setCell _ _ _ _ hmp)
  have it : ∀ W, (Instr.slice 38 (.slice (some ⟨g, 0, none⟩) (m + 1) cap) none (some (.int .i64 (m : Int))) none).run Tryz.prog W = .ok (.slice (some ⟨g, 0, none⟩) m cap) W := fun W => slice_to Tryz.underlying38 10 Tryz.sizeOf27 g 0 (m + 1) cap m hmc W
  obtain ⟨w5, hdel, hm5, hg5, _⟩ := run_delete (K := atKey) (ty := 0) HM Tryz.underlying72 k
  change (Builtin.delete_ #[72, 23] 0 #[.map (some mb), .int .u32 k]).run Tryz.prog (w4.setCell ⟨p, 0, none⟩ (.slice (some ⟨g, 0, none⟩) m cap)) = _ at hdel
  have HZ := Lib.hid (And.intro hg4 (And.intro hB4 (And.intro hm5 (And.intro hg5 hmp))))
  clear hs4 hg4 hB4 HM hmp A7 hO7 hB7 hm7 hpg hmg hfp hm8 hm4 hm5 hg5 HL ix iy hmc' c0 c1 f0 k0 k1 k2 k3 k4 k5 k6 k7 k8 k9 fz t0 t1 t2 t3 t4 t5 t6 t7 t8 t9 d0 d1 t70
  go_wp2
  go_ret
  obtain ⟨A7, hO7, hB7, hm7, hpg, hmg, hfp⟩ := HY.out
  obtain ⟨hg4, hB4, hm5, hg5, hmp⟩ := HZ.out
  obtain ⟨h, hn, hil', hi, hF, hm, hg, hx⟩ := HX.out
  have A4 : Alter F W w4 := (Alter.of_below g2.below F).trans (T := F) (Alter.of_grown hg4 hF) (fun _ _ h => h)
  have A5 : Alter F W w5 := (alter_set (S := F) A4 (.inl hfp) (.slice (some ⟨g, 0, none⟩) m cap)).trans (T := F) (Alter.of_grown hg5 hF) (fun _ _ h => h)
  have hFx : x = l.getLastD ⟨0, 0, 0, 0, 0, 0, 0, 0, 0, 0⟩ := by
    rw [hx, List.getLastD_eq_getLast?, List.getLast?_eq_getElem?, List.getElem?_eq_getElem (by omega)]
    simp only [Option.getD_some]
    congr 1
    omega
  have hrem : remL l i = (l.set i x).take m := by
    unfold remL
    rw [List.dropLast_eq_take, List.length_set, ← hFx]
    congr 1
    omega
  refine ⟨rfl, ⟨.slice (some ⟨g, 0, none⟩) m cap, .map (some mb), ⟨?_, hfp, ?_, h.fo, remL_keys h.nodup hil', by rw [remL_len]; omega, .inr ⟨mb, _, rfl, hF, hm5, fun k' => ?_⟩⟩⟩, A7.trans A5 (fun _ _ h => h)⟩
  · have := (hB4.set 0 (.slice (some ⟨g, 0, none⟩) m cap)).of_block (w' := w5) (hg5.block p (by simp; exact hB4.lt) (fun e => hmp (by simpa using e.symm)))
    exact this.eq (by simp)
  · rw [hrem]
    have h8 : Own bodyE 27 w5 0 (.slice (some ⟨g, 0, none⟩) l.length cap) (l.set i x) := by
      refine own_block hO7 fun q hq hql => ?_
      simp [Value.ownBlock] at hq
      subst hq
      have e1 : w4.heap[g]? = W.heap[g]? := (hg4.block g (Nat.lt_of_lt_of_le hql g2.le) (fun e => hmg (by simpa using e.symm))).trans (g2.below.block g hql)
      have e2 : (w4.setCell ⟨p, 0, none⟩ (.slice (some ⟨g, 0, none⟩) m cap)).heap[g]? = w4.heap[g]? := Below.heap_setCell _ _ _ _ (fun e => hpg e.symm)
      exact (hg5.block g (by simp; exact Nat.lt_of_lt_of_le (Nat.lt_of_lt_of_le hql g2.le) hg4.size) (fun e => hmg (by simpa using e.symm))).trans (e2.trans e1)
    exact own_front h8 (by rw [List.length_set]; omega) (by rw [List.length_set]; omega)
  · have hk : k = l[i].key := (idx_some hi).2.symm
    have hlast : x.key = (l[l.length - 1]'(by omega)).key := by rw [hx]; congr 2; omega
    rw [getM_del, getM_put, hg, idx_rem h.nodup hil' k', ← hk, ← hlast]
    by_cases h1 : k' = k
    · simp [h1]
    · by_cases h2 : k' = x.key
      · rw [if_neg h1, if_neg h1, if_pos h2, if_pos h2]
        rfl
      · simp [h1, h2]
end Go.Proofs.YtnhaiecbjipodaaGreatDoor
/- The world's Remove, Get, Impulse. -/
namespace Go.Proofs.YtnhaiecbjipodaaGreatDoor
open Go.RowKit Go.Shelf Go.Proofs
attribute [local go_sem] Grow.cell Grow.froz Grow.lt lt_s1 lt_s2 lt_s3 lt_s4 lt_s5
theorem idx_lt {l : List Body} {k : Int} {i : Nat} (h : idx l k = some i) : i < l.length := (idx_some h).1
def remR (l : List Body) (k : Int) : List Body := match idx l k with | some i => remL l i | none => l
theorem storeRem_any (p : Nat) (k : Int) (w : World) (F : Nat → Prop) (l : List Body) (h : StoreAt w p F l) :
    Calls Tryz.prog 92 #[.pointer (some ⟨p, 0, none⟩), .int .u32 k] w fun e w' => e = .returned (.int .i64 (getE l k)) ∧ StoreAt w' p F (remR l k) ∧ Alter F w w' := by
  unfold getE remR
  cases hi : idx l k with
  | none =>
    refine (rem_none p k w F l h hi).mono ?_
    rintro e w' ⟨rfl, rfl⟩
    exact ⟨rfl, h, Alter.refl _ _⟩
  | some i => exact rem_hit p k w F l h i (idx_lt hi) hi
set_option maxHeartbeats 1000000 in
theorem worldRem_any (p : Nat) (k : Int) (w : World) (F : Nat → Prop) (l : List Body) (h : StoreAt w p F l) :
    Calls Tryz.prog 55 #[.pointer (some ⟨p, 0, none⟩), .int .u32 k] w fun e w' => e = .returned (.int .i64 (getE l k)) ∧ StoreAt w' p F (remR l k) ∧ Alter F w w' := by
  have HR := Lib.hid (storeRem_any p k w F l h)
  have hp := h.lt
  obtain ⟨c, hc⟩ : ∃ c, c = getE l k := ⟨_, rfl⟩
  rw [← hc] at HR ⊢
  clear h hc
  go_enter Tryz.func55, Tryz.ntmps55
  go_wp2_with (first
    | (go_at_call 31; refine (of_any _ _).mono ?_; rintro e w' ⟨rfl, rfl⟩)
    | (go_at_call 92; refine HR.out.mono ?_; rintro e w2 ⟨rfl, h2⟩; have H2 := Lib.hid h2; clear h2))
  go_ret
  exact ⟨rfl, H2.out⟩
abbrev zeroBody : Body := ⟨0, 0, 0, 0, 0, 0, 0, 0, 0, 0⟩
theorem storeGet_any (p : Nat) (k : Int) (w : World) (F : Nat → Prop) (l : List Body) (h : StoreAt w p F l) :
    Calls Tryz.prog 142 #[.pointer (some ⟨p, 0, none⟩), .int .u32 k] w fun e w' => e = .returned (.tuple #[.agg (getB l k).arr, .int .i64 (getE l k)]) ∧ Below w.heap.size w w' := by
  unfold getE getB
  cases hi : idx l k with
  | none => exact get_none p k w F l h hi
  | some i =>
    have := idx_lt hi
    simp only [Option.bind_some, List.getElem?_eq_getElem this, Option.getD_some]
    exact get_hit p k w F l h i this hi
set_option maxHeartbeats 1000000 in
theorem worldGet_any (p : Nat) (k : Int) (w : World) (F : Nat → Prop) (l : List Body) (h : StoreAt w p F l) :
    Calls Tryz.prog 94 #[.pointer (some ⟨p, 0, none⟩), .int .u32 k] w fun e w' => e = .returned (.tuple #[.agg (getB l k).arr, .int .i64 (getE l k)]) ∧ Below w.heap.size w w' := by
  have hp := h.lt
  have HG := Lib.hid (storeGet_any p k (w.alloc (.cells zeroBody.arr 27)) F l (h.below (bel_alloc (Below.refl _ _) _)))
  obtain ⟨c, hc⟩ : ∃ c, c = getE l k := ⟨_, rfl⟩
  obtain ⟨b, hb⟩ : ∃ b, b = getB l k := ⟨_, rfl⟩
  rw [← hc, ← hb] at HG ⊢
  clear h hc hb
  go_enter Tryz.func94, Tryz.ntmps94
  go_wp2_with (first
    | (go_at_call 31; refine (of_any _ _).mono ?_; rintro e w' ⟨rfl, rfl⟩)
    | (go_at_call 142; refine HG.out.mono ?_; rintro e w2 ⟨rfl, hb2⟩; obtain ⟨g2, rfl⟩ := Grow.of hb2; clear hb2; have hK : CellsAt g2.world w.heap.size zeroBody.arr 27 := (by repeat (first | with_reducible exact CellsAt.newAt (by first | rfl | (simp; done) | omega) rfl | with_reducible refine CellsAt.alloc ?_ _ | with_reducible refine CellsAt.drewN ?_ _ | with_reducible refine CellsAt.drew ?_ | with_reducible refine CellsAt.grow ?_ _ | with_reducible refine CellsAt.far ?_ (by first | omega | (simp; done) | (simp; omega)) _)); have lK := hK.lt; have fz : ∀ o, g2.world.frozen? ⟨w.heap.size, o, none⟩ = false := fun o => hK.froz o))
  refine bodyPost_ret (v := .tuple #[.agg b.arr, .int .i64 c]) (ret_cells w.heap.size b.arr 27 ?_ ?_) rfl ⟨rfl, (by repeat (first | with_reducible exact Below.refl _ _ | with_reducible refine bel_alloc ?_ _ | with_reducible refine bel_drewN ?_ _ | with_reducible refine bel_drew ?_ | with_reducible refine bel_grow ?_ _ | with_reducible refine bel_set ?_ (by first | omega | (simp; done) | (simp; omega)) _))⟩
  · exact ((((((((((hK.set 0 _).set 1 _).set 2 _).set 3 _).set 4 _).set 5 _).set 6 _).set 7 _).set 8 _).set 9 _).eq (by simp)
  · intro W K
    have kk1 : W.cell? ⟨w.heap.size, 0, none⟩ = some (.int .u32 b.key) := K.at 0 rfl
    have kk2 : W.cell? ⟨w.heap.size, 1, none⟩ = some (.int .i32 b.radius) := K.at 1 rfl
    have kk3 : W.cell? ⟨w.heap.size, 2, none⟩ = some (.int .i32 b.ax) := K.at 2 rfl
    have kk4 : W.cell? ⟨w.heap.size, 3, none⟩ = some (.int .i32 b.ay) := K.at 3 rfl
    have kk5 : W.cell? ⟨w.heap.size, 4, none⟩ = some (.int .i32 b.inv) := K.at 4 rfl
    have kk6 : W.cell? ⟨w.heap.size, 5, none⟩ = some (.int .i32 b.bounce) := K.at 5 rfl
    have kk7 : W.cell? ⟨w.heap.size, 6, none⟩ = some (.int .i32 b.px) := K.at 6 rfl
    have kk8 : W.cell? ⟨w.heap.size, 7, none⟩ = some (.int .i32 b.py) := K.at 7 rfl
    have kk9 : W.cell? ⟨w.heap.size, 8, none⟩ = some (.int .i32 b.vx) := K.at 8 rfl
    have kk10 : W.cell? ⟨w.heap.size, 9, none⟩ = some (.int .i32 b.vy) := K.at 9 rfl
    simp [results, Tryz.results94, go_sem, *]
theorem push_ok {b : Body} {x y : Int} (h : errOf b = 0) : errOf (pushB b x y) = 0 := by
  rw [errOf_zero] at *
  obtain ⟨h1, h2, h3, h4, h5, h6⟩ := h
  have c1 := clampI_le (n := pushV b.vx x b.inv) (l := 16777216) (by omega)
  have c2 := clampI_le (n := pushV b.vy y b.inv) (l := 16777216) (by omega)
  exact ⟨h1, h2, h3, h4, h5, c1.1, c1.2, c2.1, c2.2⟩
def impR (l : List Body) (k x y : Int) : List Body := match idx l k with | some i => l.set i (pushB (l.getD i zeroBody) x y) | none => l
set_option maxRecDepth 100000 in
set_option maxHeartbeats 2000000 in
theorem impulse_hit (p : Nat) (k x y : Int) (w : World) (F : Nat → Prop) (l : List Body) (h : StoreAt w p F l) (hok : ∀ b ∈ l, errOf b = 0) (x0 : -2147483648 ≤ x) (x1 : x ≤ 2147483647) (y0 : -2147483648 ≤ y) (y1 : y ≤ 2147483647) (i : Nat) (hi : idx l k = some i) :
    Calls Tryz.prog 61 #[.pointer (some ⟨p, 0, none⟩), .int .u32 k, .agg #[.int .i32 x, .int .i32 y]] w fun e w' => e = .returned (.int .i64 0) ∧ StoreAt w' p F (l.set i (pushB (l.getD i zeroBody) x y)) ∧ Alter F w w' := by
  have hil := idx_lt hi
  have hp := h.lt
  have hkey := (idx_some hi).2
  have HG := fun W (hb : Below w.heap.size w W) => worldGet_any p k W F l (h.below hb)
  have hge : getB l k = l[i] := by unfold getB; rw [hi]; simp [hil]
  have hre : getE l k = 0 := by unfold getE; rw [hi]; rfl
  have hgd : l.getD i zeroBody = l[i] := by simp [hil]
  have hok1 := hok l[i] (List.getElem_mem hil)
  rw [hge, hre] at HG
  rw [hgd]
  generalize hbb : l[i] = b at *
  obtain ⟨e1, e2, e3, e4, e5, e6⟩ := errOf_zero.1 hok1
  have HP := fun W => push_any b.key b.radius b.ax b.ay b.inv b.bounce b.px b.py b.vx b.vy x y W e3.1 e3.2 e6.1 e6.2.1 e6.2.2.1 e6.2.2.2 x0 x1 y0 y1
  have hpk := push_ok (x := x) (y := y) hok1
  have hpkey : (pushB b x y).key = k := hkey
  obtain ⟨q, hq⟩ : ∃ q, q = pushB b x y := ⟨_, rfl⟩
  change ∀ W, Calls _ _ _ W (fun e w' => e = .returned (.tuple #[.agg (pushB b x y).arr, .bool (pushC b x y)]) ∧ _) at HP
  rw [← hq] at HP hpk hpkey ⊢
  obtain ⟨pc, hpc⟩ : ∃ pc, pc = pushC b x y := ⟨_, rfl⟩
  rw [← hpc] at HP
  have HS := fun W (hb : Below w.heap.size w W) => set_hit p q W F l (h.below hb) hpk i hil (by rw [hpkey]; exact hi)
  have HG := Lib.hid HG
  have HS := Lib.hid HS
  clear h hok hi hge hre hgd hok1 e1 e2 e3 e4 e5 e6 hpk hpkey hq hpc hbb hkey hil
  go_enter Tryz.func61, Tryz.ntmps61
  go_upto_region 4 with (go_at_call 94; refine (HG.out _ (by repeat (first | with_reducible exact Below.refl _ _ | with_reducible refine bel_alloc ?_ _ | with_reducible refine bel_drewN ?_ _ | with_reducible refine bel_drew ?_ | with_reducible refine bel_grow ?_ _ | with_reducible refine bel_set ?_ (by first | omega | (simp; done) | (simp; omega)) _))).mono ?_; rintro e w1 ⟨rfl, hb⟩; obtain ⟨g1, rfl⟩ := Grow.of hb; clear hb)
  go_upto_region 5 with (go_at_call 95; refine (HP _).mono ?_; rintro e w1 ⟨rfl, hb⟩; obtain ⟨g2, rfl⟩ := Grow.of hb; clear hb; have hK : CellsAt g2.world g1.world.heap.size b.arr 27 := (by repeat (first | with_reducible exact CellsAt.newAt (by first | rfl | (simp; done) | omega) rfl | with_reducible refine CellsAt.alloc ?_ _ | with_reducible refine CellsAt.drewN ?_ _ | with_reducible refine CellsAt.drew ?_ | with_reducible refine CellsAt.grow ?_ _ | with_reducible refine CellsAt.far ?_ (by first | omega | (simp; done) | (simp; omega)) _)); have lK := hK.lt; have fz : ∀ o, g2.world.frozen? ⟨g1.world.heap.size, o, none⟩ = false := fun o => hK.froz o)
  have lp1 : p < (w.alloc (Obj.cells #[Value.int IntKind.i32 x, Value.int IntKind.i32 y] 25)).heap.size := by simp; omega
  have zz11 : w.heap.size < g1.world.heap.size := Nat.lt_of_lt_of_le (by first | omega | (simp; done) | (simp; omega)) g1.le
  have K : CellsAt (put10 g2.world g1.world.heap.size 0 q) g1.world.heap.size q.arr 27 := ((((((((((hK.set 0 (.int .u32 q.key)).set 1 (.int .i32 q.radius)).set 2 (.int .i32 q.ax)).set 3 (.int .i32 q.ay)).set 4 (.int .i32 q.inv)).set 5 (.int .i32 q.bounce)).set 6 (.int .i32 q.px)).set 7 (.int .i32 q.py)).set 8 (.int .i32 q.vx)).set 9 (.int .i32 q.vy)).eq (by simp)
  have hB : Below w.heap.size w (put10 g2.world g1.world.heap.size 0 q) := by unfold put10; exact (by repeat (first | with_reducible exact Below.refl _ _ | with_reducible refine bel_alloc ?_ _ | with_reducible refine bel_drewN ?_ _ | with_reducible refine bel_drew ?_ | with_reducible refine bel_grow ?_ _ | with_reducible refine bel_set ?_ (by first | omega | (simp; done) | (simp; omega)) _))
  rw [show ((((((((((g2.world.setCell ⟨g1.world.heap.size, 0, none⟩ (Value.int IntKind.u32 q.key)).setCell ⟨g1.world.heap.size, 1, none⟩ (Value.int IntKind.i32 q.radius)).setCell ⟨g1.world.heap.size, 2, none⟩ (Value.int IntKind.i32 q.ax)).setCell ⟨g1.world.heap.size, 3, none⟩ (Value.int IntKind.i32 q.ay)).setCell ⟨g1.world.heap.size, 4, none⟩ (Value.int IntKind.i32 q.inv)).setCell ⟨g1.world.heap.size, 5, none⟩ (Value.int IntKind.i32 q.bounce)).setCell ⟨g1.world.heap.size, 6, none⟩ (Value.int IntKind.i32 q.px)).setCell ⟨g1.world.heap.size, 7, none⟩ (Value.int IntKind.i32 q.py)).setCell ⟨g1.world.heap.size, 8, none⟩ (Value.int IntKind.i32 q.vx)).setCell ⟨g1.world.heap.size, 9, none⟩ (Value.int IntKind.i32 q.vy)) = put10 g2.world g1.world.heap.size 0 q from rfl]
  have lW := hB.size
  generalize put10 g2.world g1.world.heap.size 0 q = W at *
  have lp2 : p < W.heap.size := by omega
  have kk12 : W.cell? ⟨g1.world.heap.size, 0, none⟩ = some (.int .u32 q.key) := K.at 0 rfl
  have kk13 : W.cell? ⟨g1.world.heap.size, 1, none⟩ = some (.int .i32 q.radius) := K.at 1 rfl
  have kk14 : W.cell? ⟨g1.world.heap.size, 2, none⟩ = some (.int .i32 q.ax) := K.at 2 rfl
  have kk15 : W.cell? ⟨g1.world.heap.size, 3, none⟩ = some (.int .i32 q.ay) := K.at 3 rfl
  have kk16 : W.cell? ⟨g1.world.heap.size, 4, none⟩ = some (.int .i32 q.inv) := K.at 4 rfl
  have kk17 : W.cell? ⟨g1.world.heap.size, 5, none⟩ = some (.int .i32 q.bounce) := K.at 5 rfl
  have kk18 : W.cell? ⟨g1.world.heap.size, 6, none⟩ = some (.int .i32 q.px) := K.at 6 rfl
  have kk19 : W.cell? ⟨g1.world.heap.size, 7, none⟩ = some (.int .i32 q.py) := K.at 7 rfl
  have kk20 : W.cell? ⟨g1.world.heap.size, 8, none⟩ = some (.int .i32 q.vx) := K.at 8 rfl
  have kk21 : W.cell? ⟨g1.world.heap.size, 9, none⟩ = some (.int .i32 q.vy) := K.at 9 rfl
  clear hK fz lK
  have lK := K.lt
  refine wp_region_grow_tail 5 (by kernel_rfl) (by kernel_rfl) ?_
  simp only [List.take_succ_cons, List.take_zero]
  repeat (first | go_big_quiet_skip | (go_big_quiet_want; go_big_quiet_op; first | go_big_quiet_on))
  refine wpQuiet_nil ?_
  rintro _ ⟨g3, rfl⟩
  simp only [List.drop_succ_cons, List.drop_zero]
  go_wp2_with (go_at_call 96; refine (HS.out _ (bel_grow hB g3)).mono ?_; rintro e w2 ⟨rfl, h2⟩; have H2 := Lib.hid h2; clear h2)
  go_ret
  exact ⟨rfl, H2.out.1, (Alter.of_below (bel_grow hB g3) _).trans H2.out.2 (fun _ _ h => h)⟩
theorem impulse_none (p : Nat) (k x y : Int) (w : World) (F : Nat → Prop) (l : List Body) (h : StoreAt w p F l) (hi : idx l k = none) :
    Calls Tryz.prog 61 #[.pointer (some ⟨p, 0, none⟩), .int .u32 k, .agg #[.int .i32 x, .int .i32 y]] w fun e w' => e = .returned (.int .i64 11) ∧ Below w.heap.size w w' := by
  have hp := h.lt
  have HG := fun W (hb : Below w.heap.size w W) => worldGet_any p k W F l (h.below hb)
  have hre : getE l k = 11 := by unfold getE; rw [hi]; rfl
  rw [hre] at HG
  have HG := Lib.hid HG
  obtain ⟨b, hb⟩ : ∃ b, b = getB l k := ⟨_, rfl⟩
  rw [← hb] at HG
  clear h hre hi hb
  go_enter Tryz.func61, Tryz.ntmps61
  go_wp2_with (go_at_call 94; refine (HG.out _ (by repeat (first | with_reducible exact Below.refl _ _ | with_reducible refine bel_alloc ?_ _ | with_reducible refine bel_drewN ?_ _ | with_reducible refine bel_drew ?_ | with_reducible refine bel_grow ?_ _ | with_reducible refine bel_set ?_ (by first | omega | (simp; done) | (simp; omega)) _))).mono ?_; rintro e w1 ⟨rfl, hb⟩; obtain ⟨g1, rfl⟩ := Grow.of hb; clear hb)
  go_ret
  exact ⟨rfl, (by repeat (first | with_reducible exact Below.refl _ _ | with_reducible refine bel_alloc ?_ _ | with_reducible refine bel_drewN ?_ _ | with_reducible refine bel_drew ?_ | with_reducible refine bel_grow ?_ _ | with_reducible refine bel_set ?_ (by first | omega | (simp; done) | (simp; omega)) _))⟩
end Go.Proofs.YtnhaiecbjipodaaGreatDoor
/- The world's replace. -/
namespace Go.Proofs.YtnhaiecbjipodaaGreatDoor
open Go.RowKit Go.Shelf Go.Proofs
attribute [local go_sem] Grow.cell Grow.froz Grow.lt lt_s1 lt_s2 lt_s3 lt_s4 lt_s5
def replL (vs : List Body) : List Body := vs.foldl addR []
theorem replL_take {vs : List Body} {k : Nat} (hk : k < vs.length) : replL (vs.take (k + 1)) = addR (replL (vs.take k)) vs[k] := by
  unfold replL
  rw [List.take_succ_eq_append_getElem hk, List.foldl_append]
  rfl
set_option maxRecDepth 100000 in
set_option maxHeartbeats 2000000 in
theorem replace_any (p : Nat) (v : Value) (vs : List Body) (w : World) (F : Nat → Prop) (l : List Body) (h : StoreAt w p F l) (hv : Reads bodyE w v vs) (hs : ∀ k, v.ownBlock = some k → ¬ F k) :
    Calls Tryz.prog 41 #[.pointer (some ⟨p, 0, none⟩), v] w fun e w' => e = .returned (.tuple #[]) ∧ ∃ F', StoreAt w' p F' (replL vs) ∧ Alter F w w' ∧ ∀ k, F' k → F k ∨ w.heap.size ≤ k := by
  obtain ⟨v0, m0, h⟩ := h
  have hp := h.blk.lt
  have hFp := h.fp
  have fz : ∀ o, w.frozen? ⟨p, o, none⟩ = false := fun o => h.blk.froz o
  have HB := Lib.hid h.blk
  have c0 : w.cell? ⟨p, 0, none⟩ = some v0 := h.blk.at 0 rfl
  have c1 : w.cell? ⟨p, 1, none⟩ = some m0 := h.blk.at 1 rfl
  have HV := Lib.hid hv
  have HNS := Lib.hid hs
  obtain ⟨N, hN⟩ : ∃ N, N = vs.length := ⟨_, rfl⟩
  have hNb := hv.1
  rw [← hN] at hNb
  obtain ⟨A, c, b1, o1, rfl, hA, hx⟩ := hv.bodies
  rw [← hN]
  have hA := Lib.hid hA
  have hx := Lib.hid hx
  have HN := Lib.hid hN
  clear h hv hs hN
  go_enter Tryz.func41, Tryz.ntmps41
  go_wp2
  have K : CellsAt ((w.setCell ⟨p, 0, none⟩ (.slice none 0 0)).setCell ⟨p, 1, none⟩ (.map none)) p #[.slice none 0 0, .map none] 78 := ((HB.out.set 0 _).set 1 _).eq (by simp)
  have HA : Alter F w ((w.setCell ⟨p, 0, none⟩ (.slice none 0 0)).setCell ⟨p, 1, none⟩ (.map none)) := alter_set (alter_set (Alter.refl _ _) (.inl hFp) _) (.inl hFp) _
  have KS := Lib.hid K
  have HA := Lib.hid HA
  clear K
  generalize ((w.setCell ⟨p, 0, none⟩ (.slice none 0 0)).setCell ⟨p, 1, none⟩ (.map none)) = W at *
  go_loopw [12] (fun i wr => ∃ k : Nat, k ≤ N ∧ i = .int .i64 k ∧ ∃ F', StoreAt wr p F' (replL (vs.take k)) ∧ Alter F w wr ∧ ∀ k, F' k → F k ∨ w.heap.size ≤ k) (fun i _ => N - (intOf i).toNat)
  case atStart =>
    refine ⟨0, by omega, rfl, fun k => k = p, ⟨.slice none 0 0, .map none, KS.out, rfl, ?_, ?_, ?_, ?_, .inl ⟨rfl, ?_⟩⟩, HA.out, fun k e => ?_⟩
    · exact Own.nil _ _ _ _
    · intro k hk; simp [Value.ownBlock] at hk
    · simp [replL]
    · simp [replL]
    · simp [replL]
    · subst e; exact .inl hFp
  case round =>
    obtain ⟨k, hk, rfl, F', hS, hAl, hF'⟩ := hrel
    have hpr := hS.lt
    by_cases hlt : k < N
    · have hlv : k < vs.length := by rw [← HN.out]; exact hlt
      obtain ⟨eA, zA⟩ := hA.out (by omega)
      have ix := fun w => idx_body (c := c) eA hlv w
      rw [← HN.out] at ix
      have hne : ¬ F b1 := HNS.out b1 (by rw [eA]; rfl)
      clear eA
      have hbk := hAl.block b1 zA hne
      obtain ⟨q0, q1, q2, q3, q4, q5, q6, q7, q8, q9⟩ : TenAt wr b1 (o1 + k * 10) vs[k] := by
        obtain ⟨q0, q1, q2, q3, q4, q5, q6, q7, q8, q9⟩ := hx.out k hlv
        exact ⟨(World.cell?_of_block hbk).trans q0, (World.cell?_of_block hbk).trans q1, (World.cell?_of_block hbk).trans q2, (World.cell?_of_block hbk).trans q3, (World.cell?_of_block hbk).trans q4, (World.cell?_of_block hbk).trans q5, (World.cell?_of_block hbk).trans q6, (World.cell?_of_block hbk).trans q7, (World.cell?_of_block hbk).trans q8, (World.cell?_of_block hbk).trans q9⟩
      clear hbk hne
      obtain ⟨x, hxk⟩ : ∃ x, x = vs[k] := ⟨_, rfl⟩
      rw [← hxk] at q0 q1 q2 q3 q4 q5 q6 q7 q8 q9
      have HK := Lib.hid hxk
      clear hxk
      have HS := Lib.hid hS
      have HAL := Lib.hid hAl
      have HF := Lib.hid hF'
      clear hS hAl hF'
      go_upto_region 4 with fail
      refine wp_region_grow_tail 5 (by kernel_rfl) (by kernel_rfl) ?_
      simp only [List.take_succ_cons, List.take_zero]
      repeat (first | go_big_quiet_skip | (go_big_quiet_want; go_big_quiet_op; first | go_big_quiet_on))
      refine wpQuiet_nil ?_
      rintro _ ⟨g1, rfl⟩
      simp only [List.drop_succ_cons, List.drop_zero]
      have hb1 : Below wr.heap.size wr g1.world := (by repeat (first | with_reducible exact Below.refl _ _ | with_reducible refine bel_alloc ?_ _ | with_reducible refine bel_drewN ?_ _ | with_reducible refine bel_drew ?_ | with_reducible refine bel_grow ?_ _ | with_reducible refine bel_set ?_ (by first | omega | (simp; done) | (simp; omega)) _))
      have HAD := Lib.hid (storeAdd_r p x g1.world F' _ (HS.out.below hb1))
      obtain ⟨cc, hcc⟩ : ∃ cc, cc = addE (replL (vs.take k)) x := ⟨_, rfl⟩
      rw [← hcc] at HAD
      clear hcc
      have HB1 := Lib.hid hb1
      clear hb1
      go_wp2_with (go_at_call 32; refine HAD.out.mono ?_; rintro e w2 ⟨rfl, h2⟩; have H2 := Lib.hid h2; clear h2)
      go_roundw
      case rel =>
        obtain ⟨F2, h2, h3, h4⟩ := H2.out
        have hsz := HAL.out.size
        have hs1 := HB1.out.size
        refine ⟨k + 1, by omega, by go_num, F2, by rw [replL_take hlv, ← HK.out]; exact h2, (HAL.out.trans (Alter.of_below HB1.out F) (fun _ _ h => h)).trans h3 (fun j hj h => ?_), fun j hj => ?_⟩
        · rcases HF.out j h with h | h
          · exact h
          · omega
        · rcases h4 j hj with h | h
          · exact HF.out j h
          · right; omega
      case measure => simp [intOf]; omega
    · have hkl : k = vs.length := by have := HN.out; omega
      have HS := Lib.hid hS
      have HAL := Lib.hid hAl
      have HF := Lib.hid hF'
      have HK := Lib.hid hkl
      clear hS hAl hF' hkl
      go_wp2
      go_end0
      have := HS.out
      rw [HK.out, List.take_length] at this
      exact ⟨rfl, F', this, HAL.out, HF.out⟩
end Go.Proofs.YtnhaiecbjipodaaGreatDoor
/- pairs.Find. -/
namespace Go.Proofs.YtnhaiecbjipodaaGreatDoor
open Go.RowKit Go.Shelf Go.Proofs
attribute [local go_sem] Grow.cell Grow.froz Grow.lt lt_s1 lt_s2 lt_s3 lt_s4 lt_s5
def bksOf (b : Body) : List Int := (cellsL (boxI b)).map bucketI
/-- The buckets behind the insertion of these bodies. -/
def bkF (l : List Body) (n : Nat) : List Int := (l.filter fun b => decide ((n : Int) ∈ bksOf b)).map Body.key
def noBody : Body := ⟨0, 0, 0, 0, 0, 0, 0, 0, 0, 0⟩
def bdOf (l : List Body) (k : Int) : Body := (l.find? fun b => decide (b.key = k)).getD noBody
def apF (l : List Body) (q : Int × Int) : Bool := !overlapI (boxI (bdOf l q.1)) (boxI (bdOf l q.2))
theorem bkF_len (l : List Body) (n : Nat) : (bkF l n).length ≤ l.length := by
  unfold bkF
  rw [List.length_map]
  exact List.length_filter_le _ _
theorem bkF_succ {l : List Body} {k : Nat} (hk : k < l.length) : bkF (l.take (k + 1)) = insB (bkF (l.take k)) l[k].key (bksOf l[k]) := by
  funext n
  unfold bkF insB
  rw [List.take_succ_eq_append_getElem hk, List.filter_append]
  by_cases h : (n : Int) ∈ bksOf l[k]
  · simp [h]
  · simp [h]
theorem box_fit {b : Body} (h : Placed b) : (boxI b).Fit ∧ emptyB (boxI b) = false := by
  obtain ⟨⟨x0, x1⟩, y0, y1⟩ := ext_bd h
  obtain ⟨_, _, _, ⟨p0, p1⟩, q0, q1⟩ := h
  unfold BoxI.Fit emptyB boxI
  simp
  omega
theorem bdOf_mem {l : List Body} (hd : (l.map Body.key).Nodup) {b : Body} (hb : b ∈ l) : bdOf l b.key = b := by
  obtain ⟨j, hj, rfl⟩ := List.getElem_of_mem hb
  have h := idx_get hd hj
  unfold idx at h
  unfold bdOf
  rw [List.find?_eq_some_iff_getElem (b := l[j]) |>.2]
  · rfl
  · obtain ⟨_, _, h2⟩ := List.findIdx?_eq_some_iff_getElem.1 h
    exact ⟨by simp, j, hj, rfl, fun i hi => by simpa using h2 i hi⟩
theorem mem_outL {bk : Nat → List Int} {q : Int × Int} : q ∈ outL bk 1024 ↔ ∃ n, n < 1024 ∧ ∃ i j, ∃ (hi : i < (bk n).length) (hj : j < i), (bk n)[i] ≠ (bk n)[j]'(by omega) ∧ q = pairO (bk n)[i] ((bk n)[j]'(by omega)) := by
  unfold outL midL innerL
  simp only [List.mem_flatMap, List.mem_range, List.mem_map, List.mem_filter, decide_eq_true_eq]
  constructor
  · rintro ⟨n, hn, i, hi, y, ⟨hy, hne⟩, rfl⟩
    obtain ⟨j, hj, rfl⟩ := List.getElem_of_mem hy
    have hji : j < i := by simp at hj; omega
    rw [List.getD_eq_getElem?_getD, List.getElem?_eq_getElem hi] at hne ⊢
    rw [List.getElem_take] at hne ⊢
    exact ⟨n, hn, i, j, hi, hji, hne, rfl⟩
  · rintro ⟨n, hn, i, j, hi, hj, hne, rfl⟩
    refine ⟨n, hn, i, hi, (bk n)[j]'(by omega), ⟨by rw [List.mem_iff_getElem]; exact ⟨j, by simp; omega, by simp⟩, ?_⟩, ?_⟩
    · rw [List.getD_eq_getElem?_getD, List.getElem?_eq_getElem hi]; exact hne
    · rw [List.getD_eq_getElem?_getD, List.getElem?_eq_getElem hi]; rfl
theorem outL_keys {l : List Body} {q : Int × Int} (h : q ∈ outL (bkF l) 1024) : ∃ a ∈ l, ∃ b ∈ l, q = (a.key, b.key) := by
  obtain ⟨n, _, i, j, hi, hj, _, rfl⟩ := mem_outL.1 h
  have hmem : ∀ x ∈ bkF l n, ∃ a ∈ l, x = a.key := fun x hx => by
    unfold bkF at hx
    obtain ⟨a, ha, rfl⟩ := List.mem_map.1 hx
    exact ⟨a, (List.mem_filter.1 ha).1, rfl⟩
  obtain ⟨a, ha, ea⟩ := hmem _ (List.getElem_mem hi)
  obtain ⟨b, hb, eb⟩ := hmem _ (List.getElem_mem (show j < (bkF l n).length by omega))
  unfold pairO
  rw [ea, eb]
  rcases Int.le_total a.key b.key with h | h
  · exact ⟨a, ha, b, hb, by rw [Int.min_eq_left h, Int.max_eq_right h]⟩
  · exact ⟨b, hb, a, ha, by rw [Int.min_eq_right h, Int.max_eq_left h]⟩
attribute [local go_sem] zeroGrid
set_option maxRecDepth 100000 in
set_option maxHeartbeats 2000000 in
theorem find_walk (v : Value) (l : List Body) (w : World) (hl : Reads bodyE w v l) (hn : l.length ≤ 4096) (hV : ∀ b ∈ l, Placed b) (hd : (l.map Body.key).Nodup) (hG : Glob w) :
    Calls Tryz.prog 120 #[v] w fun e w' => ∃ (v' : Value) (ks : List (Int × Int)), e = .returned (.tuple #[v', .int .i64 ((ks.length : Nat) : Int)]) ∧ ks.Nodup ∧ (∀ q, q ∈ ks ↔ q ∈ outL (bkF l) 1024) ∧ ks.Pairwise (fun a b => ltOf cmpP b a = false) ∧ Own pairE 98 w' w.heap.size v' (ks.filter fun q => !apF l q) ∧ Below w.heap.size w w' := by
  have q := hl.1
  obtain ⟨A, c, b1, o1, rfl, hA, hx⟩ := hl.bodies
  have HBX := Lib.hid (boxes_any _ l w hl hV hd)
  have hA := Lib.hid hA
  have hx := Lib.hid hx
  have HV := Lib.hid hV
  have HD := Lib.hid hd
  have HG := Lib.hid hG
  have hg4 := hG.size
  clear hl hV hd hG
  go_enter Tryz.func120, Tryz.ntmps120
  go_wp2_with (go_at_call 147; refine HBX.out.mono ?_; rintro e w1 ⟨es, rfl, hm1, hes, hb1⟩; have HM1 := Lib.hid hm1; have HES := Lib.hid hes; have HB1 := Lib.hid hb1; clear hm1 hes hb1 HBX)
  have hz1 := HB1.out.size
  have hm1s := HM1.out.lt
  go_loopw [14] (fun i wr => ∃ (k : Nat), k ≤ l.length ∧ i = .int .i64 k ∧ GridAt wr w1.heap.size (bkF (l.take k)) ∧ Below w1.heap.size w1 wr) (fun i _ => l.length - (intOf i).toNat)
  case atStart => exact ⟨0, by omega, rfl, by have := GridAt.zero w1; exact this, (by repeat (first | with_reducible exact Below.refl _ _ | with_reducible refine bel_alloc ?_ _ | with_reducible refine bel_drewN ?_ _ | with_reducible refine bel_drew ?_ | with_reducible refine bel_grow ?_ _ | with_reducible refine bel_set ?_ (by first | omega | (simp; done) | (simp; omega)) _))⟩
  case round =>
    obtain ⟨k, hk, rfl, hgr, hbel⟩ := hrel
    have HR := Lib.hid hgr
    have HB := Lib.hid hbel
    have hps := hgr.lt
    clear hgr hbel
    by_cases hlt : k < l.length
    · obtain ⟨eA, zA⟩ := hA.out (by omega)
      have ix := fun w => idx_body (c := c) eA hlt w
      clear eA
      obtain ⟨q0, q1, q2, q3, q4, q5, q6, q7, q8, q9⟩ := ((hx.out k hlt).below HB1.out).below HB.out
      have hP := HV.out l[k] (List.getElem_mem hlt)
      have hE := HES.out l[k] (List.getElem_mem hlt)
      obtain ⟨x, hxk⟩ : ∃ x, x = l[k] := ⟨_, rfl⟩
      rw [← hxk] at q0 q1 q2 q3 q4 q5 q6 q7 q8 q9 hP hE
      have HK := Lib.hid hxk
      have HP := Lib.hid hP
      have hbA : Below w1.heap.size w1 (wr.alloc (.cells x.arr 27)) := HB.out.alloc HB.out.size _
      have lb := look_box (HM1.out.grow hbA) hE
      have hGA : Glob (wr.alloc (.cells x.arr 27)) := (HG.out.below HB1.out).below hbA
      have hgA := HR.out.below (bel_alloc (Below.refl _ _) (.cells x.arr 27))
      have HI := Lib.hid (insert_any w1.heap.size x.key (boxI x) (wr.alloc (.cells x.arr 27)) (bkF (l.take k)) (box_fit HP.out).1 (box_fit HP.out).2 hGA (by omega) (fun n => by have := bkF_len (l.take k) n; simp at this; omega) hgA)
      have HBA := Lib.hid hbA
      clear hxk hP hE hbA hGA hgA
      go_wp2_with (go_at_call 148; refine HI.out.mono ?_; rintro e w3 ⟨rfl, hg3, hb3⟩; have H3 := Lib.hid (And.intro hg3 hb3); clear hg3 hb3)
      go_roundw
      case rel =>
        obtain ⟨hg3, hb3⟩ := H3.out
        exact ⟨k + 1, by omega, by go_num, by rw [bkF_succ hlt, ← HK.out]; exact hg3, HBA.out.trans hb3⟩
      case measure => simp [intOf]; omega
    · have hkl : k = l.length := by omega
      have HN := Lib.hid hkl
      clear hkl
      go_upto_region 9 with (go_at_call 149; refine (counting_any _ _).mono ?_; rintro e w' ⟨rfl, rfl⟩)
      obtain ⟨W2, hW2⟩ : ∃ W2, W2 = (wr.alloc (.cells #[.map (some w.heap.size)] 213)).alloc (.cells #[.int .i64 0] 3) := ⟨_, rfl⟩
      rw [← hW2]
      have hb2 : Below wr.heap.size wr W2 := by rw [hW2]; exact bel_alloc (bel_alloc (Below.refl _ _) _) _
      have hgr : GridAt W2 w1.heap.size (bkF l) := by
        have := HR.out.below hb2
        rw [HN.out, List.take_length] at this
        exact this
      have hbw : Below w.heap.size w W2 := (HB1.out.trans (HB.out.mono hz1)).trans (hb2.mono (by omega))
      have hC2 : CountAt W2 (wr.heap.size + 1) wr.heap.size w.heap.size es 0 := by
        refine ⟨?_, ?_, (HM1.out.grow HB.out).grow hb2, HG.out.below hbw⟩
        · have := CellsAt.new (wr.alloc (.cells #[.map (some w.heap.size)] 213)) #[.int .i64 0] 3
          rw [hW2]
          simpa using this
        · rw [hW2]; exact (CellsAt.new _ _ _).alloc _
      have hz2 : W2.heap.size = wr.heap.size + 1 + 1 := by rw [hW2]; simp
      have HC2 := Lib.hid hC2
      have HGR := Lib.hid hgr
      have HBW := Lib.hid hbw
      have HQ : ∀ q : Int × Int, q ∈ outL (bkF l) 1024 → BoxesOf es (apF l) q := fun q hq => by
        obtain ⟨a, ha, b, hb, rfl⟩ := outL_keys hq
        exact ⟨boxI a, boxI b, HES.out a ha, HES.out b hb, by unfold apF; simp only [bdOf_mem HD.out ha, bdOf_mem HD.out hb]⟩
      have HQ := Lib.hid HQ
      clear hW2 hb2 hgr hbw hC2
      go_wp2_with (first
        | (go_at_call 151; refine (candidates_any w1.heap.size W2 (bkF l) (fun n _ => Nat.le_trans (bkF_len l n) hn) HGR.out).mono ?_; rintro e w3 ⟨v3, ks, rfl, h3⟩; have H3 := Lib.hid h3; clear h3)
        | (go_at_call 150; refine (deleteFunc_any v3 ks (apF l) (wr.heap.size + 1) wr.heap.size w.heap.size W2.heap.size es w3 (HC2.out.below H3.out.2.2.2.2) (by omega) (by omega) H3.out.2.2.2.1 (by have h1 := List.Nodup.length_le_of_subset H3.out.1 (fun q hq => (H3.out.2.1 q).1 hq); have h2 := outL_len (bkF l) (fun n _ => Nat.le_trans (bkF_len l n) hn) 1024 (Nat.le_refl _); omega) (fun q hq => HQ.out q ((H3.out.2.1 q).1 hq))).mono ?_; rintro e w4 ⟨v4, rfl, h4⟩; have H4 := Lib.hid h4; clear h4))
      refine (counted_any (wr.heap.size + 1) ((ks.length : Nat) : Int) w4 (H4.out.2.1.n.at 0 rfl)).mono ?_
      rintro e w' ⟨rfl, rfl⟩
      go_wp2
      obtain ⟨h4a, h4b, h4c⟩ := H4.out
      obtain ⟨h3a, h3b, h3c, h3d, h3e⟩ := H3.out
      refine bodyPost_ret (v := .tuple #[v4, .int .i64 ((ks.length : Nat) : Int)]) (by simp [results, Tryz.results120, go_sem]) rfl ⟨v4, ks, rfl, h3a, h3b, h3c, own_base h4a (by omega), ?_⟩
      have hA : Alter (fun b => b = wr.heap.size + 1 ∨ v3.ownBlock = some b) W2 w' := (Alter.of_below h3e _).trans h4c (fun k _ e => e)
      refine HBW.out.trans (hA.below (by omega) fun k hk e => ?_)
      rcases e with e | e
      · omega
      · have := h3d.base_le k e; omega
end Go.Proofs.YtnhaiecbjipodaaGreatDoor
/- contacts: the collector, its method pair. -/
namespace Go.Proofs.YtnhaiecbjipodaaGreatDoor
open Go.RowKit Go.Shelf Go.Proofs
attribute [local go_sem] Grow.cell Grow.froz Grow.lt lt_s1 lt_s2 lt_s3 lt_s4 lt_s5
abbrev Con.arr (c : Con) : Array Value := #[.int .u32 c.lo, .int .u32 c.hi, .int .i32 c.nx, .int .i32 c.ny, .int .i32 c.dep]
def conE : Enc Con := ⟨5, fun c => [.int .u32 c.lo, .int .u32 c.hi, .int .i32 c.nx, .int .i32 c.ny, .int .i32 c.dep], fun _ => rfl, fun c u hu => by
  simp at hu
  rcases hu with rfl | rfl | rfl | rfl | rfl <;> rfl, by decide⟩
theorem conInfo : (Tryz.prog.info? 100).map (fun i => (i.zero, i.size, i.bytes)) = some (some (.agg #[.int .u32 0, .int .u32 0, .int .i32 0, .int .i32 0, .int .i32 0]), 5, 20) := by kernel_rfl
/-- A collector in memory. -/
structure CollAt (w : World) (p mb base : Nat) (es : List (Int × Value)) (v : Value) (out : List Con) : Prop where
  blk : CellsAt w p #[.map (some mb), v] 184
  own : Own conE 100 w base v out
  m : MapAt atKey w mb es
theorem CollAt.below {w w' : World} {p mb base : Nat} {es : List (Int × Value)} {v : Value} {out : List Con} (h : CollAt w p mb base es v out) (hb : Below w.heap.size w w') : CollAt w' p mb base es v out :=
  ⟨h.blk.below hb h.blk.lt, h.own.below hb, h.m.grow hb⟩
theorem look_body {w : World} {mb : Nat} {es : List (Int × Value)} (h : MapAt atKey w mb es) {k : Int} {b : Body} (hk : getM es k = some (.agg b.arr)) :
    (Instr.lookup 182 (.map (some mb)) (.int .u32 k) false).run Tryz.prog w = .ok (.agg b.arr) w := by
  have := run_lookup (K := atKey) h Tryz.underlying182 (Tryz.zeroValue27 w) k false
  rw [hk] at this
  exact this
set_option maxRecDepth 100000 in
set_option maxHeartbeats 4000000 in
theorem pairNo_any (p mb base : Nat) (es : List (Int × Value)) (v : Value) (out : List Con) (a b : Body) (w : World) (h : CollAt w p mb base es v out) (hA : getM es a.key = some (.agg a.arr)) (hB : getM es b.key = some (.agg b.arr)) (ha : Placed a) (hb : Placed b) (hk : a.key < b.key) (ht : touchI a b = false) :
    Calls Tryz.prog 122 #[.pointer (some ⟨p, 0, none⟩), .agg #[.int .u32 a.key, .int .u32 b.key]] w fun e w' => e = .returned (.tuple #[]) ∧ CollAt w' p mb base es v out ∧ Below w.heap.size w w' := by
  have HC := fun W => contactNo_any a b W ha hb hk ht
  have lp := h.blk.lt
  obtain ⟨W, hW⟩ : ∃ W, W = w.alloc (.cells #[.int .u32 a.key, .int .u32 b.key] 98) := ⟨_, rfl⟩
  have hbW : Below w.heap.size w W := by rw [hW]; exact bel_alloc (Below.refl _ _) _
  have hX : CellsAt W w.heap.size #[.int .u32 a.key, .int .u32 b.key] 98 := by rw [hW]; exact CellsAt.new _ _ _
  have hcW := h.below hbW
  have lX := hX.lt
  have lpW := hcW.blk.lt
  have HL : ∀ w' : World, (w'.cell? ⟨p, 0, none⟩ = some (.map (some mb)) ∧ w'.cell? ⟨w.heap.size, 0, none⟩ = some (.int .u32 a.key) ∧ w'.cell? ⟨w.heap.size, 1, none⟩ = some (.int .u32 b.key) ∧ Below W.heap.size W w') → (Instr.lookup 182 (.map (some mb)) (.int .u32 a.key) false).run Tryz.prog w' = .ok (.agg a.arr) w' := fun w' hS => look_body (hcW.m.grow hS.2.2.2) hA
  have HM : ∀ w' : World, (w'.cell? ⟨p, 0, none⟩ = some (.map (some mb)) ∧ w'.cell? ⟨w.heap.size, 0, none⟩ = some (.int .u32 a.key) ∧ w'.cell? ⟨w.heap.size, 1, none⟩ = some (.int .u32 b.key) ∧ Below W.heap.size W w') → (Instr.lookup 182 (.map (some mb)) (.int .u32 b.key) false).run Tryz.prog w' = .ok (.agg b.arr) w' := fun w' hS => look_body (hcW.m.grow hS.2.2.2) hB
  have HK : ∀ w' : World, Below W.heap.size W w' → (w'.cell? ⟨p, 0, none⟩ = some (.map (some mb)) ∧ w'.cell? ⟨w.heap.size, 0, none⟩ = some (.int .u32 a.key) ∧ w'.cell? ⟨w.heap.size, 1, none⟩ = some (.int .u32 b.key) ∧ Below W.heap.size W w') := fun w' hb => ⟨(hb.cell (p := ⟨p, 0, none⟩) lpW).trans (hcW.blk.at 0 rfl), (hb.cell (p := ⟨w.heap.size, 0, none⟩) lX).trans (hX.at 0 rfl), (hb.cell (p := ⟨w.heap.size, 1, none⟩) lX).trans (hX.at 1 rfl), hb⟩
  have HCW := Lib.hid hcW
  have HBW := Lib.hid hbW
  clear h hA hB hcW hbW hX ha hb hk ht
  go_enter Tryz.func122, Tryz.ntmps122
  go_upto_region 1 with fail
  rw [← hW]
  clear hW
  go_cut [4, 5] (fun x f wx => ∃ X, x = .pointer (some ⟨X, 0, none⟩) ∧ f = .bool false ∧ W.heap.size ≤ X ∧ CellsAt wx X #[.int .u32 0, .int .u32 0, .int .i32 0, .int .i32 0, .int .i32 0] 100 ∧ Below W.heap.size W wx)
  case first =>
    go_region_held3 (fun w' : World => w'.cell? ⟨p, 0, none⟩ = some (.map (some mb)) ∧ w'.cell? ⟨w.heap.size, 0, none⟩ = some (.int .u32 a.key) ∧ w'.cell? ⟨w.heap.size, 1, none⟩ = some (.int .u32 b.key) ∧ Below W.heap.size W w') (exact HK _ (by repeat (first | with_reducible exact Below.refl _ _ | with_reducible refine bel_alloc ?_ _ | with_reducible refine bel_drewN ?_ _ | with_reducible refine bel_drew ?_ | with_reducible refine bel_grow ?_ _ | with_reducible refine bel_set ?_ (by first | omega | (simp; done) | (simp; omega)) _)))
      (first
        | (go_at_call 152; refine (HC _).mono ?_; rintro e w1 ⟨rfl, hb1⟩; obtain ⟨g1, rfl⟩ := Grow.of hb1; clear hb1))
    all_goals
      go_wp2
      go_meet
      first
        | exact ⟨_, rfl, rfl, g1.below.size, CellsAt.new _ _ _, (by repeat (first | with_reducible exact Below.refl _ _ | with_reducible refine bel_alloc ?_ _ | with_reducible refine bel_drewN ?_ _ | with_reducible refine bel_drew ?_ | with_reducible refine bel_grow ?_ _ | with_reducible refine bel_set ?_ (by first | omega | (simp; done) | (simp; omega)) _))⟩
        | exact ⟨_, rfl, rfl, Nat.le_refl _, (((((((by repeat (first | with_reducible exact CellsAt.newAt (by first | rfl | (simp; done) | omega) rfl | with_reducible refine CellsAt.alloc ?_ _ | with_reducible refine CellsAt.drewN ?_ _ | with_reducible refine CellsAt.drew ?_ | with_reducible refine CellsAt.grow ?_ _ | with_reducible refine CellsAt.far ?_ (by first | omega | (simp; done) | (simp; omega)) _)) : CellsAt g1.world W.heap.size #[.int .u32 0, .int .u32 0, .int .i32 0, .int .i32 0, .int .i32 0] 100).set 0 _).set 1 _).set 2 _).set 3 _).set 4 _).eq (by simp), (by repeat (first | with_reducible exact Below.refl _ _ | with_reducible refine bel_alloc ?_ _ | with_reducible refine bel_drewN ?_ _ | with_reducible refine bel_drew ?_ | with_reducible refine bel_grow ?_ _ | with_reducible refine bel_set ?_ (by first | omega | (simp; done) | (simp; omega)) _))⟩
  case rest =>
  obtain ⟨X, rfl, rfl, hXW, hXc, hbx⟩ := hcut
  clear HL HM HK HC
  have HB := Lib.hid hbx
  clear hXc hbx
  go_wp2
  go_end0
  exact ⟨rfl, HCW.out.below HB.out, HBW.out.trans (HB.out.mono (by omega))⟩
set_option maxRecDepth 100000 in
set_option maxHeartbeats 4000000 in
theorem pairYes_any (p mb base : Nat) (es : List (Int × Value)) (v : Value) (out : List Con) (a b : Body) (w : World) (hbase : p < base) (hbw : base ≤ w.heap.size) (hlen : out.length ≤ 100000000000) (h : CollAt w p mb base es v out) (hA : getM es a.key = some (.agg a.arr)) (hB : getM es b.key = some (.agg b.arr)) (ha : Placed a) (hb : Placed b) (hk : a.key < b.key) (ht : touchI a b = true) :
    Calls Tryz.prog 122 #[.pointer (some ⟨p, 0, none⟩), .agg #[.int .u32 a.key, .int .u32 b.key]] w fun e w' => e = .returned (.tuple #[]) ∧ ∃ v', CollAt w' p mb base es v' (out ++ [conOf a b]) ∧ Alter (fun k => k = p ∨ v.ownBlock = some k) w w' := by
  have HC := fun W => contactYes_any a b W ha hb hk ht
  obtain ⟨C, hC⟩ : ∃ C, C = conOf a b := ⟨_, rfl⟩
  rw [← hC] at HC
  have HCC := Lib.hid hC
  clear hC
  have lp := h.blk.lt
  obtain ⟨W, hW⟩ : ∃ W, W = w.alloc (.cells #[.int .u32 a.key, .int .u32 b.key] 98) := ⟨_, rfl⟩
  have hbW : Below w.heap.size w W := by rw [hW]; exact bel_alloc (Below.refl _ _) _
  have hX : CellsAt W w.heap.size #[.int .u32 a.key, .int .u32 b.key] 98 := by rw [hW]; exact CellsAt.new _ _ _
  have hcW := h.below hbW
  have lX := hX.lt
  have lpW := hcW.blk.lt
  have HL : ∀ w' : World, (w'.cell? ⟨p, 0, none⟩ = some (.map (some mb)) ∧ w'.cell? ⟨w.heap.size, 0, none⟩ = some (.int .u32 a.key) ∧ w'.cell? ⟨w.heap.size, 1, none⟩ = some (.int .u32 b.key) ∧ Below W.heap.size W w') → (Instr.lookup 182 (.map (some mb)) (.int .u32 a.key) false).run Tryz.prog w' = .ok (.agg a.arr) w' := fun w' hS => look_body (hcW.m.grow hS.2.2.2) hA
  have HM : ∀ w' : World, (w'.cell? ⟨p, 0, none⟩ = some (.map (some mb)) ∧ w'.cell? ⟨w.heap.size, 0, none⟩ = some (.int .u32 a.key) ∧ w'.cell? ⟨w.heap.size, 1, none⟩ = some (.int .u32 b.key) ∧ Below W.heap.size W w') → (Instr.lookup 182 (.map (some mb)) (.int .u32 b.key) false).run Tryz.prog w' = .ok (.agg b.arr) w' := fun w' hS => look_body (hcW.m.grow hS.2.2.2) hB
  have HK : ∀ w' : World, Below W.heap.size W w' → (w'.cell? ⟨p, 0, none⟩ = some (.map (some mb)) ∧ w'.cell? ⟨w.heap.size, 0, none⟩ = some (.int .u32 a.key) ∧ w'.cell? ⟨w.heap.size, 1, none⟩ = some (.int .u32 b.key) ∧ Below W.heap.size W w') := fun w' hb => ⟨(hb.cell (p := ⟨p, 0, none⟩) lpW).trans (hcW.blk.at 0 rfl), (hb.cell (p := ⟨w.heap.size, 0, none⟩) lX).trans (hX.at 0 rfl), (hb.cell (p := ⟨w.heap.size, 1, none⟩) lX).trans (hX.at 1 rfl), hb⟩
  have HCW := Lib.hid hcW
  have HBW := Lib.hid hbW
  clear h hA hB hcW hbW hX ha hb hk ht
  go_enter Tryz.func122, Tryz.ntmps122
  go_upto_region 1 with fail
  rw [← hW]
  clear hW
  go_cut [4, 5] (fun x f wx => ∃ X, x = .pointer (some ⟨X, 0, none⟩) ∧ f = .bool true ∧ W.heap.size ≤ X ∧ CellsAt wx X #[.int .u32 C.lo, .int .u32 C.hi, .int .i32 C.nx, .int .i32 C.ny, .int .i32 C.dep] 100 ∧ Below W.heap.size W wx)
  case first =>
    go_region_held3 (fun w' : World => w'.cell? ⟨p, 0, none⟩ = some (.map (some mb)) ∧ w'.cell? ⟨w.heap.size, 0, none⟩ = some (.int .u32 a.key) ∧ w'.cell? ⟨w.heap.size, 1, none⟩ = some (.int .u32 b.key) ∧ Below W.heap.size W w') (exact HK _ (by repeat (first | with_reducible exact Below.refl _ _ | with_reducible refine bel_alloc ?_ _ | with_reducible refine bel_drewN ?_ _ | with_reducible refine bel_drew ?_ | with_reducible refine bel_grow ?_ _ | with_reducible refine bel_set ?_ (by first | omega | (simp; done) | (simp; omega)) _)))
      (first
        | (go_at_call 152; refine (HC _).mono ?_; rintro e w1 ⟨rfl, hb1⟩; obtain ⟨g1, rfl⟩ := Grow.of hb1; clear hb1))
    all_goals
      go_wp2
      go_meet
      first
        | exact ⟨_, rfl, rfl, g1.below.size, CellsAt.new _ _ _, (by repeat (first | with_reducible exact Below.refl _ _ | with_reducible refine bel_alloc ?_ _ | with_reducible refine bel_drewN ?_ _ | with_reducible refine bel_drew ?_ | with_reducible refine bel_grow ?_ _ | with_reducible refine bel_set ?_ (by first | omega | (simp; done) | (simp; omega)) _))⟩
        | exact ⟨_, rfl, rfl, Nat.le_refl _, (((((((by repeat (first | with_reducible exact CellsAt.newAt (by first | rfl | (simp; done) | omega) rfl | with_reducible refine CellsAt.alloc ?_ _ | with_reducible refine CellsAt.drewN ?_ _ | with_reducible refine CellsAt.drew ?_ | with_reducible refine CellsAt.grow ?_ _ | with_reducible refine CellsAt.far ?_ (by first | omega | (simp; done) | (simp; omega)) _)) : CellsAt g1.world W.heap.size #[.int .u32 0, .int .u32 0, .int .i32 0, .int .i32 0, .int .i32 0] 100).set 0 _).set 1 _).set 2 _).set 3 _).set 4 _).eq (by simp), (by repeat (first | with_reducible exact Below.refl _ _ | with_reducible refine bel_alloc ?_ _ | with_reducible refine bel_drewN ?_ _ | with_reducible refine bel_drew ?_ | with_reducible refine bel_grow ?_ _ | with_reducible refine bel_set ?_ (by first | omega | (simp; done) | (simp; omega)) _))⟩
  case rest =>
  obtain ⟨X, rfl, rfl, hXW, hXc, hbx⟩ := hcut
  clear HL HM HK HC
  have hcc := HCW.out.below hbx
  obtain ⟨A, c, rfl⟩ := hcc.own.form
  obtain ⟨N, hN⟩ : ∃ N, N = out.length := ⟨_, rfl⟩
  have pc := hcc.blk.lt
  have xc := hXc.lt
  have hXp : X ≠ p := by omega
  have d1 : wc.cell? ⟨p, 1, none⟩ = some (.slice A N c) := by rw [hN]; exact hcc.blk.at 1 rfl
  have f1 : wc.frozen? ⟨p, 1, none⟩ = false := hcc.blk.froz 1
  have hvp : Value.ownBlock (.slice A N c) ≠ some p := by rw [hN]; exact own_not_cells hcc.own hcc.blk (by decide)
  have hvX : Value.ownBlock (.slice A N c) ≠ some X := by
    rw [hN]; intro e
    have := own_lt HCW.out.own X e
    omega
  have hvb : ∀ k, Value.ownBlock (.slice A N c) = some k → base ≤ k := by rw [hN]; exact fun k hk => hcc.own.base_le k hk
  have hvm : Value.ownBlock (.slice A N c) ≠ some mb := by
    rw [hN]
    obtain ⟨es', c', h3, _⟩ := hcc.m
    exact own_not_map hcc.own h3
  have kk1 : wc.cell? ⟨X, 0, none⟩ = some (.int .u32 C.lo) := hXc.at 0 rfl
  have kk2 : wc.cell? ⟨X, 1, none⟩ = some (.int .u32 C.hi) := hXc.at 1 rfl
  have kk3 : wc.cell? ⟨X, 2, none⟩ = some (.int .i32 C.nx) := hXc.at 2 rfl
  have kk4 : wc.cell? ⟨X, 3, none⟩ = some (.int .i32 C.ny) := hXc.at 3 rfl
  have kk5 : wc.cell? ⟨X, 4, none⟩ = some (.int .i32 C.dep) := hXc.at 4 rfl
  have hbwc : Below w.heap.size w wc := HBW.out.trans (hbx.mono HBW.out.size)
  have FIN : ∀ (w5 : World) (A6 : Option Addr) (n6 c6 : Nat), Own conE 100 w5 base (.slice A6 n6 c6) (out ++ [C]) → wc.drew.grownBy w5 (Value.ownBlock (.slice A N c)) → (Value.ownBlock (.slice A6 n6 c6) = Value.ownBlock (.slice A N c) ∨ Value.ownBlock (.slice A6 n6 c6) = some (wc.drew.heap.size + 1)) →
      CollAt (w5.setCell ⟨p, 1, none⟩ (.slice A6 n6 c6)) p mb base es (.slice A6 n6 c6) (out ++ [C]) ∧ Alter (fun k => k = p ∨ Value.ownBlock (.slice A N c) = some k) w (w5.setCell ⟨p, 1, none⟩ (.slice A6 n6 c6)) := by
    intro w5 A6 n6 c6 hO6 hg5 hk5
    have hB5 : CellsAt w5 p #[.map (some mb), .slice A N c] 184 := by rw [hN]; rw [hN] at hg5 hvp; exact CellsAt.of_block (w := wc) hcc.blk (hg5.block p pc (fun e => hvp e.symm))
    have hm5 : MapAt atKey w5 mb es := MapAt.of_block (w := wc) hcc.m (hg5.block mb hcc.m.lt (fun e => hvm e.symm))
    have h6 : Value.ownBlock (.slice A6 n6 c6) ≠ some p := by
      rcases hk5 with h | h
      · rw [h]; exact hvp
      · rw [h]; intro e
        have : wc.heap.size + 1 = p := by simpa using e
        omega
    have hmp := hm5.ne_cells hB5
    refine ⟨⟨(hB5.set 1 _).eq (by simp), own_block hO6 fun k hk _ => Below.heap_setCell _ _ _ _ (fun e => h6 (by rw [hk]; exact congrArg some e)), hm5.of_block (Below.heap_setCell _ _ _ _ hmp)⟩, ?_⟩
    have h7 : Alter (fun k => k = p ∨ Value.ownBlock (.slice A N c) = some k) w wc.drew := alter_drew (Alter.of_below hbwc _)
    exact alter_set (h7.trans (Alter.of_grown_none (S := fun k => k = p ∨ Value.ownBlock (.slice A N c) = some k) hg5 (fun k hk => .inr hk)) (fun _ _ h => h)) (.inl (.inl rfl)) _
  have HK : ∀ w' : World, wc.drew.grownBy w' (Value.ownBlock (.slice A N c)) → (w'.cell? ⟨X, 0, none⟩ = some (.int .u32 C.lo) ∧ w'.cell? ⟨X, 1, none⟩ = some (.int .u32 C.hi) ∧ w'.cell? ⟨X, 2, none⟩ = some (.int .i32 C.nx) ∧ w'.cell? ⟨X, 3, none⟩ = some (.int .i32 C.ny) ∧ w'.cell? ⟨X, 4, none⟩ = some (.int .i32 C.dep)) := fun w' hg => by
    have e1 : ∀ o, w'.cell? ⟨X, o, none⟩ = wc.cell? ⟨X, o, none⟩ := fun o => World.cell?_of_block (hg.block _ xc (fun e => hvX e.symm))
    exact ⟨(e1 0).trans (hXc.at 0 rfl), (e1 1).trans (hXc.at 1 rfl), (e1 2).trans (hXc.at 2 rfl), (e1 3).trans (hXc.at 3 rfl), (e1 4).trans (hXc.at 4 rfl)⟩
  have HS : ∀ w' u, wc.drew.grownBy w' (Value.ownBlock (.slice A N c)) → (fun w' : World => w'.cell? ⟨X, 0, none⟩ = some (.int .u32 C.lo) ∧ w'.cell? ⟨X, 1, none⟩ = some (.int .u32 C.hi) ∧ w'.cell? ⟨X, 2, none⟩ = some (.int .i32 C.nx) ∧ w'.cell? ⟨X, 3, none⟩ = some (.int .i32 C.ny) ∧ w'.cell? ⟨X, 4, none⟩ = some (.int .i32 C.dep)) (w'.setCell ⟨p, 1, none⟩ u) := fun w' u hg => by
    have e1 : ∀ o, (w'.setCell ⟨p, 1, none⟩ u).cell? ⟨X, o, none⟩ = wc.cell? ⟨X, o, none⟩ := fun o => (World.cell?_of_block (Below.heap_setCell w' ⟨p, 1, none⟩ u X hXp)).trans (World.cell?_of_block (hg.block _ xc (fun e => hvX e.symm)))
    exact ⟨(e1 0).trans (hXc.at 0 rfl), (e1 1).trans (hXc.at 1 rfl), (e1 2).trans (hXc.at 2 rfl), (e1 3).trans (hXc.at 3 rfl), (e1 4).trans (hXc.at 4 rfl)⟩
  have HF5 : ∀ w' : World, wc.drew.grownBy w' (Value.ownBlock (.slice A N c)) → w'.cell? ⟨p, 1, none⟩ = some (.slice A N c) ∧ w'.frozen? ⟨p, 1, none⟩ = false ∧ p < w'.heap.size := fun w' hg => by
    have hB5 : CellsAt w' p #[.map (some mb), .slice A N c] 184 := by rw [hN]; rw [hN] at hg hvp; exact CellsAt.of_block (w := wc) hcc.blk (hg.block p pc (fun e => hvp e.symm))
    exact ⟨hB5.at 1 rfl, hB5.froz 1, hB5.lt⟩
  have HO := Lib.hid hcc.own
  have HN := Lib.hid hN
  have hlN : N ≤ 100000000000 := by omega
  have hbW4 : base ≤ wc.drew.heap.size := Nat.le_trans hbw (Nat.le_trans HBW.out.size hbx.size)
  clear hcc hvX hvb hvm hbwc hXc hbx hN hlen
  go_upto_region 3 with fail
  go_region_law
    (first
      | (refine step_own (W := wc.drew) rfl conE base (.tmp 29) (.tmp 31) 59 100 _ 20 (by rfl) Tryz.underlying59 conInfo rfl (by decide) (.slice A N c) out C C.arr rfl rfl rfl (by rw [HN.out]; exact HO.out.below (bel_drew (Below.refl _ _))) hbW4 (by rw [← HN.out]; omega) ?_; intro v1 w5 hO6 hg5 hk5; obtain ⟨A6, n6, c6, rfl⟩ : ∃ A6 n6 c6, v1 = .slice A6 n6 c6 := (have ⟨A6, c6, e6⟩ := hO6.form; ⟨A6, _, c6, e6⟩); obtain ⟨d5, f5, l5⟩ := HF5 _ hg5))
  all_goals
    have HE := FIN _ _ _ _ hO6 hg5 hk5
    clear FIN
    go_wp2
    go_end0
    rw [← HCC.out]
    exact ⟨rfl, ⟨_, HE.1⟩, by rw [← HN.out]; exact HE.2⟩
end Go.Proofs.YtnhaiecbjipodaaGreatDoor
