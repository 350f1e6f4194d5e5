/- The contracts of codec.pack and codec.unpack. -/
import Derived.Test.YtlibkfjafhggkaaWord
namespace Go.Proofs.Ytlibkfjafhggkaa
open Go.RowKit
attribute [local go_sem] Grow.cell Grow.froz Grow.lt

def fieldsL (b : Body) : List Int := [b.key, ug b.radius, ug b.ax, ug b.ay, ug b.inv, ug b.bounce, ug b.px, ug b.py, ug b.vx, ug b.vy]
def bodyOf (f0 f1 f2 f3 f4 f5 f6 f7 f8 f9 : Int) : Body := ⟨f0, sg f1, sg f2, sg f3, sg f4, sg f5, sg f6, sg f7, sg f8, sg f9⟩
theorem pack1_st (n : Int) (w : World) : Calls Try.prog 28 #[.int .i32 n] w fun e w' => e = .returned (.int .u32 (ug n)) ∧ w' = w := (pack1_any n w).mono fun _ _ ⟨a, b⟩ => ⟨a, b.symm⟩
set_option maxHeartbeats 4000000 in
theorem pack_any (k r ax ay m o px py vx vy : Int) (w : World) :
    Calls Try.prog 20 #[.agg #[.int .u32 k, .int .i32 r, .int .i32 ax, .int .i32 ay, .int .i32 m, .int .i32 o, .int .i32 px, .int .i32 py, .int .i32 vx, .int .i32 vy]] w fun e w' => e = .returned (.agg #[.int .u32 k, .int .u32 (ug r), .int .u32 (ug ax), .int .u32 (ug ay), .int .u32 (ug m), .int .u32 (ug o), .int .u32 (ug px), .int .u32 (ug py), .int .u32 (ug vx), .int .u32 (ug vy)]) ∧ Below w.heap.size w w' := by
  go_enter Try.func20, Try.ntmps20
  go_wp2_with fail
  refine wp_region_drew_tail 45 (by kernel_rfl) (by kernel_rfl) ?_
  simp only [List.take_succ_cons, List.take_zero]
  repeat (first | go_big_quiet_skip | (go_big_quiet_want; go_big_quiet_op; first | go_big_quiet_on | (go_big_quiet_call ((exact Calls.quiet_of_same (pack1_st _ _))))))
  refine wpQuiet_nil ?_
  rintro _ ⟨nq, rfl⟩
  simp only [List.drop_succ_cons, List.drop_zero]
  go_wp2
  refine bodyPost_ret (v := .agg #[.int .u32 k, .int .u32 (ug r), .int .u32 (ug ax), .int .u32 (ug ay), .int .u32 (ug m), .int .u32 (ug o), .int .u32 (ug px), .int .u32 (ug py), .int .u32 (ug vx), .int .u32 (ug vy)]) (by simp [results, Try.results20, go_sem]) rfl ⟨rfl, ?_⟩
  repeat (first | with_reducible exact Below.refl _ _ | with_reducible refine Below.setCell ?_ (by simp only; omega) _ | with_reducible refine bel_drewN ?_ _ | with_reducible refine bel_alloc ?_ _)
theorem nat_2 : (2 : Int) = ((2 : Nat) : Int) := rfl
theorem nat_6 : (6 : Int) = ((6 : Nat) : Int) := rfl
theorem nat_8 : (8 : Int) = ((8 : Nat) : Int) := rfl
theorem alloc2_cell {w : World} {cs : Array Value} {t : TypeId} {B : Obj} (g : Grow ((w.alloc (.cells cs t)).alloc B)) {j : Nat} {v : Value} (h : cs[j]? = some v) : g.world.cell? ⟨w.heap.size, j, none⟩ = some v := by
  rw [Grow.cell g (by simp; omega)]
  have hc : ((w.alloc (.cells cs t)).alloc B).heap[w.heap.size]? = some (.cells cs t) := by
    rw [Below.heap_alloc _ _ _ (by simp)]
    exact heap_alloc_new w _
  unfold World.cell?
  rw [hc]
  exact h
set_option maxHeartbeats 4000000 in
theorem unpack_any (f0 f1 f2 f3 f4 f5 f6 f7 f8 f9 : Int) (w : World) :
    Calls Try.prog 22 #[.agg #[.int .u32 f0, .int .u32 f1, .int .u32 f2, .int .u32 f3, .int .u32 f4, .int .u32 f5, .int .u32 f6, .int .u32 f7, .int .u32 f8, .int .u32 f9]] w fun e w' => e = .returned (.agg (bodyOf f0 f1 f2 f3 f4 f5 f6 f7 f8 f9).cells) ∧ Below w.heap.size w w' := by
  go_enter Try.func22, Try.ntmps22
  go_wp2_with fail
  refine wp_region_grow_tail 18 (by kernel_rfl) (by kernel_rfl) ?_
  simp only [List.take_succ_cons, List.take_zero]
  repeat (first | go_big_quiet_skip | (go_big_quiet_want; go_big_quiet_op; first | go_big_quiet_on | (go_big_quiet_call ((first
    | ((with_reducible refine Calls.grow_of (unpack1_any _ 2 2 f2 f3 _ nat_2 (by omega) ?_ ?_)) <;> exact alloc2_cell _ rfl)
    | ((with_reducible refine Calls.grow_of (unpack1_any _ 6 6 f6 f7 _ nat_6 (by omega) ?_ ?_)) <;> exact alloc2_cell _ rfl)
    | ((with_reducible refine Calls.grow_of (unpack1_any _ 8 8 f8 f9 _ nat_8 (by omega) ?_ ?_)) <;> exact alloc2_cell _ rfl))))))
  refine wpQuiet_nil ?_
  rintro _ ⟨g, rfl⟩
  simp only [List.drop_succ_cons, List.drop_zero]
  go_wp2
  refine bodyPost_ret (v := .agg (bodyOf f0 f1 f2 f3 f4 f5 f6 f7 f8 f9).cells) (by simp [results, Try.results22, go_sem, Body.cells, bodyOf, sg, wrap32]) rfl ⟨rfl, ?_⟩
  repeat (first | with_reducible exact Below.refl _ _ | with_reducible refine Below.setCell ?_ (by simp only; omega) _ | with_reducible refine bel_grow ?_ _ | with_reducible refine bel_alloc ?_ _)
end Go.Proofs.Ytlibkfjafhggkaa
