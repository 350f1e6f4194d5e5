/- Contracts of the program's functions, by walks, and plain facts beside them: Word, Pack. -/
import Derived.Test.YtnhaiecbjipodaaGreatDoorB14
import Derived.Test.YtnhaiecbjipodaaGreatDoorB02
import Derived.WalkKit
import Derived.WalkSpells
import Derived.WalkLawsBesides
import Derived.Deep.QuietTactic
import Derived.BigQuiet
import Derived.Lib.Hide
/- The contracts of the small functions of codec and of its reference: words of four bytes, the fields of a body. -/
namespace Go.Proofs.YtnhaiecbjipodaaGreatDoor
open Go.RowKit
attribute [local go_sem] Grow.cell Grow.froz Grow.lt

theorem new_bytes (w : World) (l : List Int) : ∀ j u, l[j]? = some u → (w.alloc (.cells (l.map (Value.int .u8)).toArray byteT)).cell? ((⟨w.heap.size, 0, none⟩ : Addr).add j) = some (.int .u8 u) := by
  intro j u h
  rw [show (⟨w.heap.size, 0, none⟩ : Addr).add j = ⟨w.heap.size, j, none⟩ from by unfold Addr.add; split <;> simp_all]
  have hc := heap_alloc_new w (.cells (l.map (Value.int .u8)).toArray byteT)
  unfold World.cell?
  rw [hc]
  simp [h]
set_option maxHeartbeats 400000 in
theorem size_any (n : Nat) (w : World) (h : n ≤ 4294967296) : Calls Tryz.prog 43 #[.int .i64 n] w fun e w' => e = .returned (.int .i64 ((8 + n * 40 : Nat) : Int)) ∧ w = w' := by
  go_enter Tryz.func43, Tryz.ntmps43
  go_wp2
  go_ret
  exact ⟨ret_int (by omega), rfl⟩

/-- An i32 as a u32. -/
def ug (n : Int) : Int := n % 4294967296
/-- A u32 as an i32. -/
def sg (n : Int) : Int := (n + 2147483648) % 4294967296 - 2147483648
theorem ug_fit (n : Int) : 0 ≤ ug n ∧ ug n ≤ 4294967295 := by unfold ug; omega
theorem sg_fit (n : Int) : -2147483648 ≤ sg n ∧ sg n ≤ 2147483647 := by unfold sg; omega
theorem sg_ug {n : Int} (h : -2147483648 ≤ n ∧ n ≤ 2147483647) : sg (ug n) = n := by unfold sg ug; omega
theorem ug_sg {n : Int} (h : 0 ≤ n ∧ n ≤ 4294967295) : ug (sg n) = n := by unfold sg ug; omega

set_option maxHeartbeats 400000 in
theorem pack1_any (n : Int) (w : World) : Calls Tryz.prog 86 #[.int .i32 n] w fun e w' => e = .returned (.int .u32 (ug n)) ∧ w = w' := by
  go_enter Tryz.func86, Tryz.ntmps86
  go_wp2
  go_ret
  exact ⟨rfl, rfl⟩

set_option maxHeartbeats 400000 in
theorem get_any (b off n c : Nat) (x0 x1 x2 x3 : Int) (w : World) (hn : 4 ≤ n) (h0 : 0 ≤ x0 ∧ x0 ≤ 255) (h1 : 0 ≤ x1 ∧ x1 ≤ 255) (h2 : 0 ≤ x2 ∧ x2 ≤ 255) (h3 : 0 ≤ x3 ∧ x3 ≤ 255)
    (c0 : w.cell? ⟨b, off, none⟩ = some (.int .u8 x0)) (c1 : w.cell? ⟨b, off + 1, none⟩ = some (.int .u8 x1)) (c2 : w.cell? ⟨b, off + 2, none⟩ = some (.int .u8 x2)) (c3 : w.cell? ⟨b, off + 3, none⟩ = some (.int .u8 x3)) :
    Calls Tryz.prog 42 #[.slice (some ⟨b, off, none⟩) n c] w fun e w' => e = .returned (.int .u32 (num4 x0 x1 x2 x3)) ∧ ∃ k, w' = w.drewN k := by
  have q0 : (0 : Int) < (n : Int) := by omega
  have q1 : (1 : Int) < (n : Int) := by omega
  have q2 : (2 : Int) < (n : Int) := by omega
  have q3 : (3 : Int) < (n : Int) := by omega
  obtain ⟨a0, b0⟩ := h0
  obtain ⟨a1, b1⟩ := h1
  obtain ⟨a2, b2⟩ := h2
  obtain ⟨a3, b3⟩ := h3
  go_enter Tryz.func42, Tryz.ntmps42
  go_wp2
  go_quiet (fail)
  go_wp2
  go_ret
  refine ⟨ret_int ?_, _, rfl⟩
  rw [bits_join .u32 32 (by decide) wraps_u32 24 (x0 * 16777216) (x1 * 65536) (by omega) (by omega) (by omega) (by omega) (by omega) (by omega),
    bits_join .u32 32 (by decide) wraps_u32 16 (x0 * 16777216 + x1 * 65536) (x2 * 256) (by omega) (by omega) (by omega) (by omega) (by omega) (by omega),
    bits_join .u32 32 (by decide) wraps_u32 8 (x0 * 16777216 + x1 * 65536 + x2 * 256) x3 (by omega) (by omega) (by omega) (by omega) (by omega) (by omega)]
  unfold num4; omega

set_option maxHeartbeats 400000 in
theorem number_any (b off n c : Nat) (x0 x1 x2 x3 : Int) (w : World) (hn : 4 ≤ n) (h0 : 0 ≤ x0 ∧ x0 ≤ 255) (h1 : 0 ≤ x1 ∧ x1 ≤ 255) (h2 : 0 ≤ x2 ∧ x2 ≤ 255) (h3 : 0 ≤ x3 ∧ x3 ≤ 255)
    (c0 : w.cell? ⟨b, off, none⟩ = some (.int .u8 x0)) (c1 : w.cell? ⟨b, off + 1, none⟩ = some (.int .u8 x1)) (c2 : w.cell? ⟨b, off + 2, none⟩ = some (.int .u8 x2)) (c3 : w.cell? ⟨b, off + 3, none⟩ = some (.int .u8 x3)) :
    Calls Tryz.prog 104 #[.slice (some ⟨b, off, none⟩) n c] w fun e w' => e = .returned (.int .i64 (num4 x0 x1 x2 x3)) ∧ ∃ k, w' = w.drewN k := by
  have q0 : (0 : Int) < (n : Int) := by omega
  have q1 : (1 : Int) < (n : Int) := by omega
  have q2 : (2 : Int) < (n : Int) := by omega
  have q3 : (3 : Int) < (n : Int) := by omega
  obtain ⟨a0, b0⟩ := h0
  obtain ⟨a1, b1⟩ := h1
  obtain ⟨a2, b2⟩ := h2
  obtain ⟨a3, b3⟩ := h3
  go_enter Tryz.func104, Tryz.ntmps104
  go_wp2
  go_quiet (fail)
  go_wp2
  go_ret
  exact ⟨ret_int (by unfold num4; omega), _, rfl⟩

set_option maxHeartbeats 400000 in
theorem cput_any (v : Value) (l : List Int) (n : Int) (base : Nat) (w : World) (h : OF w base v l) (hb : base ≤ w.heap.size) (h0 : 0 ≤ n) (h1 : n ≤ 4294967295) (hl : l.length ≤ 140737488350000) :
    Calls Tryz.prog 46 #[v, .int .u32 n] w fun e w' => ∃ v', e = .returned v' ∧ OB w' base v' (l ++ word4 n) ∧ Below base w w' ∧ base ≤ w'.heap.size := by
  have H := Lib.hid h
  obtain ⟨A, c, rfl⟩ := h.form
  clear h
  go_enter Tryz.func46, Tryz.ntmps46
  go_wp2_with (at_builtin; go_loud (refine bytes_append base rfl (.tmp 5) (.tmp 17) rfl _ l (word4 n) rfl ⟨w.heap.size, 0, none⟩ 4 rfl (word4_fit h0 h1) (by simp [word4]) (new_bytes _ _) (H.out.below (new_ok _)) ((Below.refl base w).alloc hb _) (by simp; omega) (by rw [word4_len]; omega) ?_); intro v1 w1 HO HB hz hz1)
  go_ret
  exact ⟨v1, rfl, HO, HB, hz⟩

set_option maxHeartbeats 400000 in
theorem signed_any (b off n c : Nat) (x0 x1 x2 x3 : Int) (w : World) (hn : 4 ≤ n) (h0 : 0 ≤ x0 ∧ x0 ≤ 255) (h1 : 0 ≤ x1 ∧ x1 ≤ 255) (h2 : 0 ≤ x2 ∧ x2 ≤ 255) (h3 : 0 ≤ x3 ∧ x3 ≤ 255)
    (c0 : w.cell? ⟨b, off, none⟩ = some (.int .u8 x0)) (c1 : w.cell? ⟨b, off + 1, none⟩ = some (.int .u8 x1)) (c2 : w.cell? ⟨b, off + 2, none⟩ = some (.int .u8 x2)) (c3 : w.cell? ⟨b, off + 3, none⟩ = some (.int .u8 x3)) :
    Calls Tryz.prog 105 #[.slice (some ⟨b, off, none⟩) n c] w fun e w' => e = .returned (.int .i32 (sg (num4 x0 x1 x2 x3))) ∧ ∃ k, w' = w.drewN k := by
  have hr : 0 ≤ num4 x0 x1 x2 x3 ∧ num4 x0 x1 x2 x3 ≤ 4294967295 := by unfold num4; omega
  have C := number_any b off n c x0 x1 x2 x3 w hn h0 h1 h2 h3 c0 c1 c2 c3
  generalize num4 x0 x1 x2 x3 = y at *
  obtain ⟨r0, r1⟩ := hr
  clear c0 c1 c2 c3 h0 h1 h2 h3
  by_cases hy : 2147483648 ≤ y
  · go_enter Tryz.func105, Tryz.ntmps105
    go_wp2_with (go_at_call 104; refine C.mono ?_; rintro e w' ⟨rfl, k, rfl⟩)
    go_ret
    exact ⟨ret_int (by unfold sg; omega), _, rfl⟩
  · go_enter Tryz.func105, Tryz.ntmps105
    go_wp2_with (go_at_call 104; refine C.mono ?_; rintro e w' ⟨rfl, k, rfl⟩)
    go_ret
    exact ⟨ret_int (by unfold sg; omega), _, rfl⟩

set_option maxHeartbeats 400000 in
theorem word_any (n : Int) (w : World) (h0 : -2147483648 ≤ n) (h1 : n ≤ 4294967295) :
    Calls Tryz.prog 103 #[.int .i64 n] w fun e w' => e = .returned (.slice (some ⟨w.heap.size, 0, none⟩) 4 4) ∧ w' = w.alloc (.cells ((word4 (ug n)).map (Value.int .u8)).toArray byteT) := by
  by_cases hn : n < 0
  · have e : ug n = n + 4294967296 := by unfold ug; omega
    have E := Lib.hid e
    clear e
    go_enter Tryz.func103, Tryz.ntmps103
    go_wp2
    go_ret
    refine ⟨rfl, ?_⟩
    rw [E.out]
    simp only [word4, List.map]
    done
  · have e : ug n = n := by unfold ug; omega
    have E := Lib.hid e
    clear e
    go_enter Tryz.func103, Tryz.ntmps103
    go_wp2
    go_ret
    refine ⟨rfl, ?_⟩
    rw [E.out]
    simp only [word4, List.map]
    done

set_option maxHeartbeats 1000000 in
theorem unpack1_any (p : Nat) (n : Int) (i : Nat) (x y : Int) (w : World) (hn : n = i) (hi : i + 1 < 10) (c0 : w.cell? ⟨p, i, none⟩ = some (.int .u32 x)) (c1 : w.cell? ⟨p, i + 1, none⟩ = some (.int .u32 y)) :
    Calls Tryz.prog 84 #[.int .i64 n, .pointer (some ⟨p, 0, none⟩)] w fun e w' => e = .returned (.agg #[.int .i32 (sg x), .int .i32 (sg y)]) ∧ Below w.heap.size w w' := by
  subst hn
  have hp : p < w.heap.size := World.block_lt_of_cell? w _ c0
  have i0 : (i : Int) < 10 := by omega
  have i1 : (i : Int) + 1 < 10 := by omega
  go_enter Tryz.func84, Tryz.ntmps84
  go_wp2
  go_region
  all_goals
    go_wp2
    refine bodyPost_ret (v := .agg #[.int .i32 (sg x), .int .i32 (sg y)]) (by simp [results, Tryz.results84, go_sem, sg, wrap32]) rfl ⟨rfl, bel_drew (new_ok _)⟩
end Go.Proofs.YtnhaiecbjipodaaGreatDoor
/- The contracts of codec.pack and codec.unpack. -/
namespace Go.Proofs.YtnhaiecbjipodaaGreatDoor
open Go.RowKit
attribute [local go_sem] Grow.cell Grow.froz Grow.lt

def fieldsL (b : Body) : List Int := [b.key, ug b.radius, ug b.ax, ug b.ay, ug b.inv, ug b.bounce, ug b.px, ug b.py, ug b.vx, ug b.vy]
def bodyOf (f0 f1 f2 f3 f4 f5 f6 f7 f8 f9 : Int) : Body := ⟨f0, sg f1, sg f2, sg f3, sg f4, sg f5, sg f6, sg f7, sg f8, sg f9⟩
theorem pack1_st (n : Int) (w : World) : Calls Tryz.prog 86 #[.int .i32 n] w fun e w' => e = .returned (.int .u32 (ug n)) ∧ w' = w := (pack1_any n w).mono fun _ _ ⟨a, b⟩ => ⟨a, b.symm⟩
set_option maxHeartbeats 4000000 in
theorem pack_any (k r ax ay m o px py vx vy : Int) (w : World) :
    Calls Tryz.prog 47 #[.agg #[.int .u32 k, .int .i32 r, .int .i32 ax, .int .i32 ay, .int .i32 m, .int .i32 o, .int .i32 px, .int .i32 py, .int .i32 vx, .int .i32 vy]] w fun e w' => e = .returned (.agg #[.int .u32 k, .int .u32 (ug r), .int .u32 (ug ax), .int .u32 (ug ay), .int .u32 (ug m), .int .u32 (ug o), .int .u32 (ug px), .int .u32 (ug py), .int .u32 (ug vx), .int .u32 (ug vy)]) ∧ Below w.heap.size w w' := by
  go_enter Tryz.func47, Tryz.ntmps47
  go_wp2_with fail
  refine wp_region_drew_tail 45 (by kernel_rfl) (by kernel_rfl) ?_
  simp only [List.take_succ_cons, List.take_zero]
  repeat (first | go_big_quiet_skip | (go_big_quiet_want; go_big_quiet_op; first | go_big_quiet_on | (go_big_quiet_call ((exact Calls.quiet_of_same (pack1_st _ _))))))
  refine wpQuiet_nil ?_
  rintro _ ⟨nq, rfl⟩
  simp only [List.drop_succ_cons, List.drop_zero]
  go_wp2
  refine bodyPost_ret (v := .agg #[.int .u32 k, .int .u32 (ug r), .int .u32 (ug ax), .int .u32 (ug ay), .int .u32 (ug m), .int .u32 (ug o), .int .u32 (ug px), .int .u32 (ug py), .int .u32 (ug vx), .int .u32 (ug vy)]) (by simp [results, Tryz.results47, go_sem]) rfl ⟨rfl, ?_⟩
  repeat (first | with_reducible exact Below.refl _ _ | with_reducible refine Below.setCell ?_ (by simp only; omega) _ | with_reducible refine bel_drewN ?_ _ | with_reducible refine bel_alloc ?_ _)
theorem nat_2 : (2 : Int) = ((2 : Nat) : Int) := rfl
theorem nat_6 : (6 : Int) = ((6 : Nat) : Int) := rfl
theorem nat_8 : (8 : Int) = ((8 : Nat) : Int) := rfl
theorem alloc2_cell {w : World} {cs : Array Value} {t : TypeId} {B : Obj} (g : Grow ((w.alloc (.cells cs t)).alloc B)) {j : Nat} {v : Value} (h : cs[j]? = some v) : g.world.cell? ⟨w.heap.size, j, none⟩ = some v := by
  rw [Grow.cell g (by simp; omega)]
  have hc : ((w.alloc (.cells cs t)).alloc B).heap[w.heap.size]? = some (.cells cs t) := by
    rw [Below.heap_alloc _ _ _ (by simp)]
    exact heap_alloc_new w _
  unfold World.cell?
  rw [hc]
  exact h
set_option maxHeartbeats 4000000 in
theorem unpack_any (f0 f1 f2 f3 f4 f5 f6 f7 f8 f9 : Int) (w : World) :
    Calls Tryz.prog 44 #[.agg #[.int .u32 f0, .int .u32 f1, .int .u32 f2, .int .u32 f3, .int .u32 f4, .int .u32 f5, .int .u32 f6, .int .u32 f7, .int .u32 f8, .int .u32 f9]] w fun e w' => e = .returned (.agg (bodyOf f0 f1 f2 f3 f4 f5 f6 f7 f8 f9).cells) ∧ Below w.heap.size w w' := by
  go_enter Tryz.func44, Tryz.ntmps44
  go_wp2_with fail
  refine wp_region_grow_tail 18 (by kernel_rfl) (by kernel_rfl) ?_
  simp only [List.take_succ_cons, List.take_zero]
  repeat (first | go_big_quiet_skip | (go_big_quiet_want; go_big_quiet_op; first | go_big_quiet_on | (go_big_quiet_call ((first
    | ((with_reducible refine Calls.grow_of (unpack1_any _ 2 2 f2 f3 _ nat_2 (by omega) ?_ ?_)) <;> exact alloc2_cell _ rfl)
    | ((with_reducible refine Calls.grow_of (unpack1_any _ 6 6 f6 f7 _ nat_6 (by omega) ?_ ?_)) <;> exact alloc2_cell _ rfl)
    | ((with_reducible refine Calls.grow_of (unpack1_any _ 8 8 f8 f9 _ nat_8 (by omega) ?_ ?_)) <;> exact alloc2_cell _ rfl))))))
  refine wpQuiet_nil ?_
  rintro _ ⟨g, rfl⟩
  simp only [List.drop_succ_cons, List.drop_zero]
  go_wp2
  refine bodyPost_ret (v := .agg (bodyOf f0 f1 f2 f3 f4 f5 f6 f7 f8 f9).cells) (by simp [results, Tryz.results44, go_sem, Body.cells, bodyOf, sg, wrap32]) rfl ⟨rfl, ?_⟩
  repeat (first | with_reducible exact Below.refl _ _ | with_reducible refine Below.setCell ?_ (by simp only; omega) _ | with_reducible refine bel_grow ?_ _ | with_reducible refine bel_alloc ?_ _)
end Go.Proofs.YtnhaiecbjipodaaGreatDoor
