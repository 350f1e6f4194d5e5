/- billiardtop.WholeFull: the walk. -/
import Derived.Test.YtnhaiecbjipodaaGreatDoorB32
namespace Go.Proofs.YtnhaiecbjipodaaGreatDoor
open Go.RowKit Go.Shelf Go.Proofs Go.MapKept
attribute [local go_sem] Grow.cell Grow.froz Grow.lt lt_s1 lt_s2 lt_s3 lt_s4 lt_s5
def fullL (key : Int) (k : Nat) : List Body := (List.range k).map fun i : Nat => ballB ((key + (i : Int)) % 4294967296) 0 0
theorem fullL_len (key : Int) (k : Nat) : (fullL key k).length = k := by simp [fullL]
theorem fullL_succ (key : Int) (k : Nat) : fullL key (k + 1) = fullL key k ++ [ballB ((key + (k : Int)) % 4294967296) 0 0] := by
  unfold fullL
  rw [List.range_succ, List.map_append]
  rfl
theorem ball_ok (x : Int) : errOf (ballB x 0 0) = 0 := rfl
theorem fullL_sane (key : Int) (k : Nat) : SaneL (fullL key k) := by
  intro b hb
  obtain ⟨i, _, rfl⟩ := List.mem_map.1 hb
  refine ⟨ball_ok _, ?_, ?_⟩
  · show 0 ≤ (key + (i : Int)) % 4294967296
    omega
  · show (key + (i : Int)) % 4294967296 ≤ 4294967295
    omega
theorem idx_is {l : List Body} {k : Int} : (idx l k).isSome = true ↔ ∃ b ∈ l, b.key = k := by
  unfold idx
  rw [List.findIdx?_isSome]
  simp
theorem full_idx (key x : Int) (k : Nat) (h0 : 0 ≤ x) (h1 : x ≤ 4294967295) (hk : k ≤ 4096) : (idx (fullL key k) x).isSome = decide ((x - key) % 4294967296 < k) := by
  rw [Bool.eq_iff_iff, idx_is, decide_eq_true_eq]
  constructor
  · rintro ⟨b, hb, rfl⟩
    obtain ⟨i, hi, rfl⟩ := List.mem_map.1 hb
    have hi := List.mem_range.1 hi
    show ((key + (i : Int)) % 4294967296 - key) % 4294967296 < k
    omega
  · intro h
    have hm : ((x - key) % 4294967296).toNat < k := by omega
    refine ⟨ballB ((key + (((x - key) % 4294967296).toNat : Int)) % 4294967296) 0 0, List.mem_map.2 ⟨((x - key) % 4294967296).toNat, List.mem_range.2 hm, rfl⟩, ?_⟩
    show (key + (((x - key) % 4294967296).toNat : Int)) % 4294967296 = x
    omega
theorem full_addE (key : Int) {k : Nat} (hk : k < 4096) : addE (fullL key k) (ballB ((key + (k : Int)) % 4294967296) 0 0) = 0 := by
  have h := full_idx key ((key + (k : Int)) % 4294967296) k (by omega) (by omega) (by omega)
  rw [decide_eq_false (by omega)] at h
  unfold addE
  rw [if_neg (by rw [ball_ok]; decide)]
  rw [show (ballB ((key + (k : Int)) % 4294967296) 0 0).key = (key + (k : Int)) % 4294967296 from rfl, h, if_neg (by decide), if_neg (by rw [fullL_len]; omega)]
theorem full_addR (key : Int) {k : Nat} (hk : k < 4096) : addR (fullL key k) (ballB ((key + (k : Int)) % 4294967296) 0 0) = fullL key (k + 1) := by
  unfold addR
  rw [if_pos (full_addE key hk), fullL_succ]
def wantF (key : Int) (b : Body) : Int := if errOf b = 0 then (if (b.key - key) % 4294967296 < 4096 then 10 else 12) else errOf b
theorem full_want (key : Int) (b : Body) (hb : b.Fit) : addE (fullL key 4096) b = wantF key b ∧ addR (fullL key 4096) b = fullL key 4096 := by
  have h := full_idx key b.key 4096 hb.key.1 hb.key.2 (by omega)
  have e : addE (fullL key 4096) b = wantF key b := by
    unfold addE wantF
    by_cases he : errOf b = 0
    · rw [if_neg (by simpa using he), if_pos he, h]
      by_cases hlt : (b.key - key) % 4294967296 < 4096
      · rw [if_pos (decide_eq_true (by exact hlt)), if_pos hlt]
      · rw [if_neg (by simpa using hlt), if_neg hlt, if_pos (by rw [fullL_len]; omega)]
    · rw [if_pos he, if_neg he]
  refine ⟨e, ?_⟩
  unfold addR
  rw [if_neg]
  rw [e]
  unfold wantF
  split
  · split <;> decide
  · assumption
theorem want_ways (key : Int) (b : Body) : ((errOf b == 0) = true ∧ decide ((b.key - key) % 4294967296 < 4096) = true ∧ wantF key b = 10) ∨ ((errOf b == 0) = true ∧ decide ((b.key - key) % 4294967296 < 4096) = false ∧ wantF key b = 12) ∨ ((errOf b == 0) = false ∧ wantF key b = errOf b) := by
  unfold wantF
  by_cases he : errOf b = 0
  · by_cases hlt : (b.key - key) % 4294967296 < 4096
    · left; simp [he, hlt]
    · right; left; rw [if_pos he, if_neg hlt]; exact ⟨by simp [he], decide_eq_false hlt, rfl⟩
  · right; right; rw [if_neg he]; exact ⟨by simp [he], rfl⟩
set_option maxRecDepth 100000 in
set_option maxHeartbeats 4000000 in
theorem wholeFull_any (key : Int) (b : Body) (hb : b.Fit) (w : World) (hg : Glob w) : Calls Tryz.prog 4 #[.int .u32 key, .agg b.arr] w fun e w' => e = .returned (.bool true) ∧ Below w.heap.size w w' := by
  have HGL := Lib.hid hg
  have HFW := Lib.hid (full_want key b hb)
  have HBF := Lib.hid hb
  have HAW := Lib.hid fun W hW => awake28_any W hW
  have HCK : ∀ W, Calls Tryz.prog 17 #[.agg #[.int .u32 b.key, .int .i32 b.radius, .int .i32 b.ax, .int .i32 b.ay, .int .i32 b.inv, .int .i32 b.bounce, .int .i32 b.px, .int .i32 b.py, .int .i32 b.vx, .int .i32 b.vy]] W fun e w' => e = .returned (.int .i64 (errOf b)) ∧ Below W.heap.size W w' := fun W => refCheck_fl b.key b.radius b.ax b.ay b.inv b.bounce b.px b.py b.vx b.vy W
  have HCK := Lib.hid HCK
  clear hg hb
  go_enter Tryz.func4, Tryz.ntmps4
  go_wp2_with fail
  refine (HAW.out _ (HGL.out.alloc _)).mono ?_
  rintro e w1 ⟨rfl, hb⟩
  obtain ⟨g1, rfl⟩ := Grow.of hb
  clear hb
  go_wp2_with fail
  refine (scriptWorld_any (.slice none 0 0) [] _ (HGL.out.below (by repeat (first | with_reducible exact Below.refl _ _ | with_reducible refine bel_alloc ?_ _ | with_reducible refine bel_drewN ?_ _ | with_reducible refine bel_drew ?_ | with_reducible refine bel_grow ?_ _ | with_reducible refine bel_set ?_ (by first | omega | (simp; done) | (simp; omega)) _))) (Reads.none _ _) (fun k hk => by simp [Value.ownBlock] at hk) (fun o ho => by cases ho) (by simp)).mono ?_
  rintro e w2 ⟨p, F, rfl, h2, hf2, hb2⟩
  have hb1 : Below w.heap.size w ((w.alloc (.cells b.arr 27))) := (by repeat (first | with_reducible exact Below.refl _ _ | with_reducible refine bel_alloc ?_ _ | with_reducible refine bel_drewN ?_ _ | with_reducible refine bel_drew ?_ | with_reducible refine bel_grow ?_ _ | with_reducible refine bel_set ?_ (by first | omega | (simp; done) | (simp; omega)) _))
  have hBL : Below (w.heap.size + 1) (w.alloc (.cells b.arr 27)) w2 := by
    have h1 : Below (w.heap.size + 1) (w.alloc (.cells b.arr 27)) g1.world := by have := g1.below; simpa using this
    exact h1.trans (hb2.mono (by simpa using h1.size))
  have hz2 := hBL.size
  simp at hz2
  have hF : ∀ k, F k → w.heap.size + 1 ≤ k := fun k hk => by have := hf2 k hk; have := g1.le; simp at this; omega
  have H2 := Lib.hid h2
  have HB := Lib.hid hBL
  have HF := Lib.hid hF
  have HKB : CellsAt (w.alloc (.cells b.arr 27)) w.heap.size b.arr 27 := CellsAt.newAt rfl rfl
  have HKB := Lib.hid HKB
  clear h2 hf2 hb2 hBL hF hb1
  go_wp2_with fail
  go_loopw [6] (fun i wr => ∃ (k : Nat) (F' : Nat → Prop), k ≤ 4096 ∧ i = .int .u32 k ∧ StoreAt wr p F' (fullL key k) ∧ (∀ j, F' j → w.heap.size + 1 ≤ j) ∧ Below (w.heap.size + 1) (w.alloc (.cells b.arr 27)) wr) (fun i _ => 4096 - (intOf i).toNat)
  case atStart => exact ⟨0, F, by omega, rfl, H2.out, HF.out, HB.out⟩
  case round =>
    obtain ⟨k, F', hk, rfl, hS, hF', hB'⟩ := hrel
    have HS := Lib.hid hS
    have HF' := Lib.hid hF'
    have HB' := Lib.hid hB'
    have hzw := hB'.size
    simp at hzw
    clear hS hF' hB'
    by_cases hlt : k < 4096
    · have hlt' : (k : Int) < 4096 := by omega
      have ew : IntKind.u32.wrap (key + (k : Int)) = (key + (k : Int)) % 4294967296 := IntKind.wrap_u32 _
      go_wp2_with fail
      refine (ball_fl _ _ _ _).mono ?_
      rintro e w1 ⟨rfl, hb⟩
      obtain ⟨g3, rfl⟩ := Grow.of hb
      clear hb
      have hadd := worldAdd_any p (ballB ((key + (k : Int)) % 4294967296) 0 0) g3.world F' (fullL key k) (HS.out.below g3.below)
      rw [full_addE key hlt, full_addR key hlt] at hadd
      have HADD := Lib.hid hadd
      clear hadd
      go_wp2_with fail
      refine HADD.out.mono ?_
      rintro e w4 ⟨rfl, F4, h4, ha4, hf4⟩
      have H4 := Lib.hid h4
      have HF4 : ∀ j, F4 j → w.heap.size + 1 ≤ j := fun j hj => by
        rcases hf4 j hj with h | h
        · exact HF'.out j h
        · have := g3.le; omega
      have HF4 := Lib.hid HF4
      have HB4 := Lib.hid ((HB'.out.trans (g3.below.mono hzw)).trans (ha4.below (by have := g3.le; omega) (fun j hj hf => by have := HF'.out j hf; omega)))
      clear h4 ha4 hf4
      go_wp2_with fail
      go_roundw
      case rel => exact ⟨k + 1, F4, by omega, by go_num, H4.out, HF4.out, HB4.out⟩
      case measure => simp [intOf]; omega
    · obtain rfl : k = 4096 := by omega
      have kb := HKB.out.below HB'.out (by omega)
      have lb := kb.lt
      have kk1 : wr.cell? ⟨w.heap.size, 0, none⟩ = some (.int .u32 b.key) := kb.at 0 rfl
      have kk2 : wr.cell? ⟨w.heap.size, 1, none⟩ = some (.int .i32 b.radius) := kb.at 1 rfl
      have kk3 : wr.cell? ⟨w.heap.size, 2, none⟩ = some (.int .i32 b.ax) := kb.at 2 rfl
      have kk4 : wr.cell? ⟨w.heap.size, 3, none⟩ = some (.int .i32 b.ay) := kb.at 3 rfl
      have kk5 : wr.cell? ⟨w.heap.size, 4, none⟩ = some (.int .i32 b.inv) := kb.at 4 rfl
      have kk6 : wr.cell? ⟨w.heap.size, 5, none⟩ = some (.int .i32 b.bounce) := kb.at 5 rfl
      have kk7 : wr.cell? ⟨w.heap.size, 6, none⟩ = some (.int .i32 b.px) := kb.at 6 rfl
      have kk8 : wr.cell? ⟨w.heap.size, 7, none⟩ = some (.int .i32 b.py) := kb.at 7 rfl
      have kk9 : wr.cell? ⟨w.heap.size, 8, none⟩ = some (.int .i32 b.vx) := kb.at 8 rfl
      have kk10 : wr.cell? ⟨w.heap.size, 9, none⟩ = some (.int .i32 b.vy) := kb.at 9 rfl
      have hadd := worldAdd_any p b wr F' (fullL key 4096) HS.out
      rw [HFW.out.1, HFW.out.2] at hadd
      have HADD := Lib.hid hadd
      have HKB2 := Lib.hid kb
      clear hadd kb HFW
      go_wp2_with fail
      refine HADD.out.mono ?_
      rintro e w4 ⟨rfl, F4, h4, ha4, hf4⟩
      have HF4 : ∀ j, F4 j → w.heap.size + 1 ≤ j := fun j hj => by
        rcases hf4 j hj with h | h
        · exact HF'.out j h
        · omega
      have kb := HKB2.out.alter ha4 (fun hf => by have := HF'.out _ hf; omega)
      have HB4 := Lib.hid (HB'.out.trans (ha4.below hzw (fun j hj hf => by have := HF'.out j hf; omega)))
      have H4 := Lib.hid h4
      have lb := kb.lt
      have kk11 : w4.cell? ⟨w.heap.size, 0, none⟩ = some (.int .u32 b.key) := kb.at 0 rfl
      have kk12 : w4.cell? ⟨w.heap.size, 1, none⟩ = some (.int .i32 b.radius) := kb.at 1 rfl
      have kk13 : w4.cell? ⟨w.heap.size, 2, none⟩ = some (.int .i32 b.ax) := kb.at 2 rfl
      have kk14 : w4.cell? ⟨w.heap.size, 3, none⟩ = some (.int .i32 b.ay) := kb.at 3 rfl
      have kk15 : w4.cell? ⟨w.heap.size, 4, none⟩ = some (.int .i32 b.inv) := kb.at 4 rfl
      have kk16 : w4.cell? ⟨w.heap.size, 5, none⟩ = some (.int .i32 b.bounce) := kb.at 5 rfl
      have kk17 : w4.cell? ⟨w.heap.size, 6, none⟩ = some (.int .i32 b.px) := kb.at 6 rfl
      have kk18 : w4.cell? ⟨w.heap.size, 7, none⟩ = some (.int .i32 b.py) := kb.at 7 rfl
      have kk19 : w4.cell? ⟨w.heap.size, 8, none⟩ = some (.int .i32 b.vx) := kb.at 8 rfl
      have kk20 : w4.cell? ⟨w.heap.size, 9, none⟩ = some (.int .i32 b.vy) := kb.at 9 rfl
      have HKB4 := Lib.hid kb
      have hBW : Below w.heap.size w w4 := (bel_alloc (Below.refl _ _) _).trans (HB4.out.mono (by omega))
      have HBW := Lib.hid hBW
      clear h4 ha4 hf4 kb hBW HF4
      go_wp2_with fail
      refine (HCK.out _).mono ?_
      rintro e w5 ⟨rfl, hb5⟩
      obtain ⟨g5, rfl⟩ := Grow.of hb5
      clear hb5
      have ew2 : IntKind.u32.wrap (b.key - key) = (b.key - key) % 4294967296 := IntKind.wrap_u32 _
      have HSN := Lib.hid fun W (hb : Below w4.heap.size w4 W) => worldSnap_any p W F4 (fullL key 4096) (H4.out.below hb) (fullL_sane key 4096)
      have HVW := Lib.hid fun W (hb : Below w4.heap.size w4 W) => worldView_s p W F4 (fullL key 4096) (H4.out.below hb)
      have HLN := Lib.hid (show (sortB (fullL key 4096)).length = 4096 by rw [(sortB_perm _).length_eq, fullL_len])
      have HWY := want_ways key b
      have zz21 : w.heap.size < g5.world.heap.size := Nat.lt_of_lt_of_le (by first | omega | (simp; done) | (simp; omega)) g5.le
      rcases HWY with ⟨t1, t2, hwv⟩ | ⟨t1, t2, hwv⟩ | ⟨t1, hwv⟩
      all_goals
        rw [hwv]
        have HT1 := Lib.hid hwv
        clear hwv
        go_wp2_with fail
        refine (HSN.out _ (by exact g5.below)).mono ?_
        rintro e w6 ⟨v6, rfl, h6, hb6⟩
        obtain ⟨A6, c6, hv6⟩ := h6.2.form
        rw [bytesL_len, HLN.out] at hv6
        subst hv6
        have HB6 := Lib.hid (g5.below.trans (hb6.mono g5.below.size))
        clear h6 hb6
        go_wp2_with fail
        refine (HVW.out _ HB6.out).mono ?_
        rintro e w7 ⟨v7, rfl, h7, hb7⟩
        obtain ⟨A7, c7, hv7⟩ := h7.form
        rw [HLN.out] at hv7
        subst hv7
        have HB7 := Lib.hid (HBW.out.trans ((HB6.out.trans (hb7.mono HB6.out.size)).mono HBW.out.size))
        clear h7 hb7
        go_wp2_with fail
        go_ret
        exact ⟨rfl, HB7.out⟩
theorem wholeFull_all (w : World) (hg : Glob w) (key : Int) (_h : (Lit.int .u32 key).wf = true) (b : Body) (hb : b.Fit) : Calls Tryz.prog 4 #[.int .u32 key, .agg b.cells] w fun e w' => e = .returned (.bool true) ∧ Below w.heap.size w w' := wholeFull_any key b hb w hg
end Go.Proofs.YtnhaiecbjipodaaGreatDoor
