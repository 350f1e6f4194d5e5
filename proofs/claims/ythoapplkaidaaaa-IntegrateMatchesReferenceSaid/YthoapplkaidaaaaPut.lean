/- The contract of the reference's Put. -/
import Derived.Test.YthoapplkaidaaaaStore
import Derived.Test.YthoapplkaidaaaaRows
namespace Go.Proofs.Ythoapplkaidaaaa
open Go.RowKit
attribute [local go_sem] Grow.cell Grow.froz Grow.lt
attribute [local go_sem high] body_eq
set_option linter.unusedSimpArgs false

theorem bodyInfo : (Try.prog.info? 37).map (fun i => (i.zero, i.size, i.bytes)) = some (some (.agg #[.int .u32 0, .int .i32 0, .int .i32 0, .int .i32 0, .int .i32 0, .int .i32 0, .int .i32 0, .int .i32 0, .int .i32 0, .int .i32 0]), 10, 40) := by kernel_rfl

theorem box_ten {w wr : World} {b : Body} (h : Below (w.heap.size + 1) (w.alloc (.cells b.cells 37)) wr) : BoxAt wr w.heap.size b := by
  have hb : wr.heap[w.heap.size]? = some (.cells b.cells 37 (0, 0)) := by
    rw [h.block w.heap.size (by omega)]
    exact heap_alloc_new w _
  exact box_of hb
theorem TenAt.below_box {w wr : World} {o : Obj} {p q : Nat} {x : Body} (h : TenAt w p q x) (hb : Below (w.heap.size + 1) (w.alloc o) wr) : TenAt wr p q x := by
  have z : p < w.heap.size := World.block_lt_of_cell? w _ h.1
  refine h.below ?_
  exact ((Below.refl _ _).alloc (Nat.le_refl _) o).trans (hb.mono (by omega))

theorem bel_box {w wr : World} {o : Obj} (h : Below (w.heap.size + 1) (w.alloc o) wr) : Below w.heap.size w wr := (new_ok o).trans (h.mono (by omega))
theorem putL_no {l a : List Body} {b : Body} {gone : Bool} {k : Nat} (h : (a, false) = (l.take k).foldl (putStep b) ([], gone)) (hk : k = l.length) : a ++ [b] = putL l b gone := by
  subst hk
  rw [List.take_length] at h
  unfold putL
  rw [← h]; rfl
theorem putL_yes {l a : List Body} {b : Body} {gone : Bool} {k : Nat} (h : (a, true) = (l.take k).foldl (putStep b) ([], gone)) (hk : k = l.length) : a = putL l b gone := by
  subst hk
  rw [List.take_length] at h
  unfold putL
  rw [← h]; rfl

set_option maxHeartbeats 4000000 in
theorem put_any (v : Value) (l : List Body) (b : Body) (gone : Bool) (w : World) (hl : Reads bodyE w v l) (hn : l.length ≤ 1000000) :
    Calls Try.prog 36 #[v, .agg b.cells, .bool gone] w fun e w' => ∃ v', e = .returned v' ∧ Reads bodyE w' v' (putL l b gone) ∧ Below w.heap.size w w' := by
  obtain ⟨A, c, b1, o1, rfl, hA, hx⟩ := hl.bodies
  have hA := Lib.hid hA
  have hx := Lib.hid hx
  clear hl
  show Calls _ _ #[_, .agg #[.int .u32 b.key, .int .i32 b.radius, .int .i32 b.ax, .int .i32 b.ay, .int .i32 b.inv, .int .i32 b.bounce, .int .i32 b.px, .int .i32 b.py, .int .i32 b.vx, .int .i32 b.vy], _] w _
  go_enter Try.func36, Try.ntmps36
  go_wp2
  go_loopw [7, 8, 9] (fun v d i wr => ∃ k : Nat, k ≤ l.length ∧ i = .int .i64 k ∧ ∃ s : List Body × Bool, s = (l.take k).foldl (putStep b) ([], gone) ∧ d = .bool s.2 ∧ Own bodyE 37 wr (w.heap.size + 1) v s.1 ∧ Below (w.heap.size + 1) (w.alloc (.cells b.cells 37)) wr) (fun _ _ i _ => l.length - (intOf i).toNat)
  case atStart => exact ⟨0, by omega, rfl, ([], gone), rfl, rfl, Own.nil _ _ _ _, Below.refl _ _⟩
  case round =>
    obtain ⟨k, hk, rfl, ⟨a, d⟩, hs, rfl, hown, hbel⟩ := hrel
    have HS := Lib.hid hs
    clear hs
    have hlen : a.length ≤ k + 1 := by
      have h1 := put_len b (l.take k) ([], gone)
      rw [← HS.out] at h1
      have h2 : pend gone ≤ 1 := by cases gone <;> decide
      simp at h1
      omega
    have hz := hbel.size
    simp at hz
    have tB : BoxAt wr w.heap.size b := box_ten hbel
    by_cases hlt : k < l.length
    · obtain ⟨eA, zA⟩ := hA.out (by omega)
      have ix := fun w => idx_body (c := c) eA hlt w
      clear eA
      have tX : TenAt wr b1 (o1 + k * 10) l[k] := (hx.out k hlt).below_box hbel
      obtain ⟨q0, q1, q2, q3, q4, q5, q6, q7, q8, q9⟩ := tX
      obtain ⟨r0, r1, r2, r3, r4, r5, r6, r7, r8, r9⟩ := tB
      have zA' : b1 < wr.heap.size := by omega
      have zB' : w.heap.size < wr.heap.size := by omega
      by_cases heq : l[k].key = b.key
      · have HK := Lib.hid heq
        clear heq
        have hke : (l[k].key == b.key) = true := by have := HK.out; simpa using this
        cases d
        · by_cases hge : b.key ≤ l[k].key
          · have HG := Lib.hid hge
            go_wp2
            refine wp_region_grow (by kernel_rfl) (by kernel_rfl) ?_
            repeat (first | go_big_quiet_skip | (go_big_quiet_want; go_big_quiet_op; first | go_big_quiet_on))
            refine wpQuiet_nil ?_
            rintro _ ⟨g, rfl⟩
            go_wp2_with (at_builtin; refine own_append bodyE (w.heap.size + 1) rfl (.tmp 29) (.tmp 31) 22 37 _ 40 rfl Try.underlying22 bodyInfo rfl (by decide) _ a b _ rfl rfl rfl (hown.below g.below) (hbel.trans (g.below.mono hz)) (Nat.le_trans hz g.below.size) (by first | omega | (simp; omega)) ?_; intro v1 w1 own2 bel2 gr2 sz2)
            clear q0 q1 q2 q3 q4 q5 q6 q7 q8 q9 r0 r1 r2 r3 r4 r5 r6 r7 r8 r9 zA' zB'
            obtain ⟨q0, q1, q2, q3, q4, q5, q6, q7, q8, q9⟩ := (hx.out k hlt).below_box bel2
            obtain ⟨r0, r1, r2, r3, r4, r5, r6, r7, r8, r9⟩ := box_ten bel2
            have zA' : b1 < w1.heap.size := by omega
            have zB' : w.heap.size < w1.heap.size := by omega
            refine wp_region_grow (by kernel_rfl) (by kernel_rfl) ?_
            repeat (first | go_big_quiet_skip | (go_big_quiet_want; go_big_quiet_op; first | go_big_quiet_on))
            refine wpQuiet_nil ?_
            rintro _ ⟨g2, rfl⟩
            go_wp2
            go_roundw
            case rel => exact ⟨k + 1, by omega, by go_num, ((a ++ [b]), true), by rw [take_fold b _ hlt, ← HS.out]; simp [putStep, decide_eq_true HG.out, HK.out], rfl, own2.below g2.below, bel2.trans (g2.below.mono sz2)⟩
            case measure => simp [intOf]; omega
          · exact absurd (Int.le_of_eq HK.out.symm) hge
        · by_cases hge : b.key ≤ l[k].key
          · have HG := Lib.hid hge
            go_wp2
            refine wp_region_grow (by kernel_rfl) (by kernel_rfl) ?_
            repeat (first | go_big_quiet_skip | (go_big_quiet_want; go_big_quiet_op; first | go_big_quiet_on))
            refine wpQuiet_nil ?_
            rintro _ ⟨g, rfl⟩
            go_wp2_with fail
            have own2 := hown.below g.below
            have bel2 := hbel.trans (g.below.mono hz)
            have sz2 := Nat.le_trans hz g.below.size
            generalize g.world = w1 at own2 bel2 sz2 ⊢
            clear q0 q1 q2 q3 q4 q5 q6 q7 q8 q9 r0 r1 r2 r3 r4 r5 r6 r7 r8 r9 zA' zB'
            obtain ⟨q0, q1, q2, q3, q4, q5, q6, q7, q8, q9⟩ := (hx.out k hlt).below_box bel2
            obtain ⟨r0, r1, r2, r3, r4, r5, r6, r7, r8, r9⟩ := box_ten bel2
            have zA' : b1 < w1.heap.size := by omega
            have zB' : w.heap.size < w1.heap.size := by omega
            refine wp_region_grow (by kernel_rfl) (by kernel_rfl) ?_
            repeat (first | go_big_quiet_skip | (go_big_quiet_want; go_big_quiet_op; first | go_big_quiet_on))
            refine wpQuiet_nil ?_
            rintro _ ⟨g2, rfl⟩
            go_wp2
            go_roundw
            case rel => exact ⟨k + 1, by omega, by go_num, (a, true), by rw [take_fold b _ hlt, ← HS.out]; simp [putStep, decide_eq_true HG.out, HK.out], rfl, own2.below g2.below, bel2.trans (g2.below.mono sz2)⟩
            case measure => simp [intOf]; omega
          · exact absurd (Int.le_of_eq HK.out.symm) hge
      · have HK := Lib.hid heq
        clear heq
        have hke : (l[k].key == b.key) = false := by have := HK.out; simpa using this
        cases d
        · by_cases hge : b.key ≤ l[k].key
          · have HG := Lib.hid hge
            go_wp2
            refine wp_region_grow (by kernel_rfl) (by kernel_rfl) ?_
            repeat (first | go_big_quiet_skip | (go_big_quiet_want; go_big_quiet_op; first | go_big_quiet_on))
            refine wpQuiet_nil ?_
            rintro _ ⟨g, rfl⟩
            go_wp2_with (at_builtin; refine own_append bodyE (w.heap.size + 1) rfl (.tmp 29) (.tmp 31) 22 37 _ 40 rfl Try.underlying22 bodyInfo rfl (by decide) _ a b _ rfl rfl rfl (hown.below g.below) (hbel.trans (g.below.mono hz)) (Nat.le_trans hz g.below.size) (by first | omega | (simp; omega)) ?_; intro v1 w1 own2 bel2 gr2 sz2)
            clear q0 q1 q2 q3 q4 q5 q6 q7 q8 q9 r0 r1 r2 r3 r4 r5 r6 r7 r8 r9 zA' zB'
            obtain ⟨q0, q1, q2, q3, q4, q5, q6, q7, q8, q9⟩ := (hx.out k hlt).below_box bel2
            obtain ⟨r0, r1, r2, r3, r4, r5, r6, r7, r8, r9⟩ := box_ten bel2
            have zA' : b1 < w1.heap.size := by omega
            have zB' : w.heap.size < w1.heap.size := by omega
            refine wp_region_grow (by kernel_rfl) (by kernel_rfl) ?_
            repeat (first | go_big_quiet_skip | (go_big_quiet_want; go_big_quiet_op; first | go_big_quiet_on))
            refine wpQuiet_nil ?_
            rintro _ ⟨g2, rfl⟩
            go_wp2_with (at_builtin; refine own_append bodyE (w.heap.size + 1) rfl (.tmp 41) (.tmp 46) 22 37 _ 40 rfl Try.underlying22 bodyInfo rfl (by decide) _ (a ++ [b]) l[k] _ rfl rfl rfl (own2.below g2.below) (bel2.trans (g2.below.mono sz2)) (Nat.le_trans sz2 g2.below.size) (by first | omega | (simp; omega)) ?_; intro v3 w3 own3 bel3 gr3 sz3)
            go_roundw
            case rel => exact ⟨k + 1, by omega, by go_num, ((a ++ [b]) ++ [l[k]], true), by rw [take_fold b _ hlt, ← HS.out]; simp [putStep, decide_eq_true HG.out, HK.out], rfl, own3, bel3⟩
            case measure => simp [intOf]; omega
          · have HG := Lib.hid hge
            go_wp2
            refine wp_region_grow (by kernel_rfl) (by kernel_rfl) ?_
            repeat (first | go_big_quiet_skip | (go_big_quiet_want; go_big_quiet_op; first | go_big_quiet_on))
            refine wpQuiet_nil ?_
            rintro _ ⟨g, rfl⟩
            go_wp2_with fail
            have own2 := hown.below g.below
            have bel2 := hbel.trans (g.below.mono hz)
            have sz2 := Nat.le_trans hz g.below.size
            generalize g.world = w1 at own2 bel2 sz2 ⊢
            clear q0 q1 q2 q3 q4 q5 q6 q7 q8 q9 r0 r1 r2 r3 r4 r5 r6 r7 r8 r9 zA' zB'
            obtain ⟨q0, q1, q2, q3, q4, q5, q6, q7, q8, q9⟩ := (hx.out k hlt).below_box bel2
            obtain ⟨r0, r1, r2, r3, r4, r5, r6, r7, r8, r9⟩ := box_ten bel2
            have zA' : b1 < w1.heap.size := by omega
            have zB' : w.heap.size < w1.heap.size := by omega
            refine wp_region_grow (by kernel_rfl) (by kernel_rfl) ?_
            repeat (first | go_big_quiet_skip | (go_big_quiet_want; go_big_quiet_op; first | go_big_quiet_on))
            refine wpQuiet_nil ?_
            rintro _ ⟨g2, rfl⟩
            go_wp2_with (at_builtin; refine own_append bodyE (w.heap.size + 1) rfl (.tmp 41) (.tmp 46) 22 37 _ 40 rfl Try.underlying22 bodyInfo rfl (by decide) _ a l[k] _ rfl rfl rfl (own2.below g2.below) (bel2.trans (g2.below.mono sz2)) (Nat.le_trans sz2 g2.below.size) (by first | omega | (simp; omega)) ?_; intro v3 w3 own3 bel3 gr3 sz3)
            go_roundw
            case rel => exact ⟨k + 1, by omega, by go_num, (a ++ [l[k]], false), by rw [take_fold b _ hlt, ← HS.out]; simp [putStep, decide_eq_false (Int.not_le.2 HG.out), HK.out], rfl, own3, bel3⟩
            case measure => simp [intOf]; omega
        · by_cases hge : b.key ≤ l[k].key
          · have HG := Lib.hid hge
            go_wp2
            refine wp_region_grow (by kernel_rfl) (by kernel_rfl) ?_
            repeat (first | go_big_quiet_skip | (go_big_quiet_want; go_big_quiet_op; first | go_big_quiet_on))
            refine wpQuiet_nil ?_
            rintro _ ⟨g, rfl⟩
            go_wp2_with fail
            have own2 := hown.below g.below
            have bel2 := hbel.trans (g.below.mono hz)
            have sz2 := Nat.le_trans hz g.below.size
            generalize g.world = w1 at own2 bel2 sz2 ⊢
            clear q0 q1 q2 q3 q4 q5 q6 q7 q8 q9 r0 r1 r2 r3 r4 r5 r6 r7 r8 r9 zA' zB'
            obtain ⟨q0, q1, q2, q3, q4, q5, q6, q7, q8, q9⟩ := (hx.out k hlt).below_box bel2
            obtain ⟨r0, r1, r2, r3, r4, r5, r6, r7, r8, r9⟩ := box_ten bel2
            have zA' : b1 < w1.heap.size := by omega
            have zB' : w.heap.size < w1.heap.size := by omega
            refine wp_region_grow (by kernel_rfl) (by kernel_rfl) ?_
            repeat (first | go_big_quiet_skip | (go_big_quiet_want; go_big_quiet_op; first | go_big_quiet_on))
            refine wpQuiet_nil ?_
            rintro _ ⟨g2, rfl⟩
            go_wp2_with (at_builtin; refine own_append bodyE (w.heap.size + 1) rfl (.tmp 41) (.tmp 46) 22 37 _ 40 rfl Try.underlying22 bodyInfo rfl (by decide) _ a l[k] _ rfl rfl rfl (own2.below g2.below) (bel2.trans (g2.below.mono sz2)) (Nat.le_trans sz2 g2.below.size) (by first | omega | (simp; omega)) ?_; intro v3 w3 own3 bel3 gr3 sz3)
            go_roundw
            case rel => exact ⟨k + 1, by omega, by go_num, (a ++ [l[k]], true), by rw [take_fold b _ hlt, ← HS.out]; simp [putStep, decide_eq_true HG.out, HK.out], rfl, own3, bel3⟩
            case measure => simp [intOf]; omega
          · have HG := Lib.hid hge
            go_wp2
            refine wp_region_grow (by kernel_rfl) (by kernel_rfl) ?_
            repeat (first | go_big_quiet_skip | (go_big_quiet_want; go_big_quiet_op; first | go_big_quiet_on))
            refine wpQuiet_nil ?_
            rintro _ ⟨g, rfl⟩
            go_wp2_with fail
            have own2 := hown.below g.below
            have bel2 := hbel.trans (g.below.mono hz)
            have sz2 := Nat.le_trans hz g.below.size
            generalize g.world = w1 at own2 bel2 sz2 ⊢
            clear q0 q1 q2 q3 q4 q5 q6 q7 q8 q9 r0 r1 r2 r3 r4 r5 r6 r7 r8 r9 zA' zB'
            obtain ⟨q0, q1, q2, q3, q4, q5, q6, q7, q8, q9⟩ := (hx.out k hlt).below_box bel2
            obtain ⟨r0, r1, r2, r3, r4, r5, r6, r7, r8, r9⟩ := box_ten bel2
            have zA' : b1 < w1.heap.size := by omega
            have zB' : w.heap.size < w1.heap.size := by omega
            refine wp_region_grow (by kernel_rfl) (by kernel_rfl) ?_
            repeat (first | go_big_quiet_skip | (go_big_quiet_want; go_big_quiet_op; first | go_big_quiet_on))
            refine wpQuiet_nil ?_
            rintro _ ⟨g2, rfl⟩
            go_wp2_with (at_builtin; refine own_append bodyE (w.heap.size + 1) rfl (.tmp 41) (.tmp 46) 22 37 _ 40 rfl Try.underlying22 bodyInfo rfl (by decide) _ a l[k] _ rfl rfl rfl (own2.below g2.below) (bel2.trans (g2.below.mono sz2)) (Nat.le_trans sz2 g2.below.size) (by first | omega | (simp; omega)) ?_; intro v3 w3 own3 bel3 gr3 sz3)
            go_roundw
            case rel => exact ⟨k + 1, by omega, by go_num, (a ++ [l[k]], true), by rw [take_fold b _ hlt, ← HS.out]; simp [putStep, decide_eq_false (Int.not_le.2 HG.out), HK.out], rfl, own3, bel3⟩
            case measure => simp [intOf]; omega
    · have hkl : k = l.length := by omega
      have HN := Lib.hid hkl
      clear hkl
      obtain ⟨r0, r1, r2, r3, r4, r5, r6, r7, r8, r9⟩ := tB
      have hlen2 : a.length ≤ 1000001 := by omega
      cases d
      · go_wp2_with (at_builtin; refine own_append bodyE (w.heap.size + 1) rfl (.tmp 50) (.tmp 52) 22 37 _ 40 rfl Try.underlying22 bodyInfo rfl (by decide) _ a b _ rfl rfl rfl (hown) (hbel) (hz) (by first | omega | (simp; omega)) ?_; intro v1 w1 own1 bel1 gr1 sz1)
        go_ret
        exact ⟨v1, rfl, (putL_no HS.out HN.out) ▸ own1.reads (by simp; omega), bel_box bel1⟩
      · go_wp2
        go_ret
        exact ⟨_, rfl, (putL_yes HS.out HN.out) ▸ hown.reads (by omega), bel_box hbel⟩
end Go.Proofs.Ythoapplkaidaaaa
