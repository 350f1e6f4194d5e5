/- The closures that integrate hands to transform: what each does to a body and to the flag. -/
import Derived.Test.YthoapplkaidaaaaFx
namespace Go.Proofs.Ythoapplkaidaaaa
open Go.RowKit

def gravB (b : Body) : Body := if (b.inv == 0) = true then b else { b with vy := clampI (b.vy - 1024) 16777216 }
def gravC (b : Body) : Bool := !(b.inv == 0) && !(clampI (b.vy - 1024) 16777216 == b.vy - 1024)
/-- A flag in memory. -/
def Flag (w : World) (f : Nat) (c : Bool) : Prop := w.heap[f]? = some (.cells #[.bool c] 4 (0, 0))
theorem Flag.lt {w : World} {f : Nat} {c : Bool} (h : Flag w f c) : f < w.heap.size := (Array.getElem?_eq_some_iff.1 h).1
theorem Flag.cell {w : World} {f : Nat} {c : Bool} (h : Flag w f c) : w.cell? ⟨f, 0, none⟩ = some (.bool c) := by
  unfold Flag at h
  simp [World.cell?, h]
theorem Flag.froz {w : World} {f : Nat} {c : Bool} (h : Flag w f c) : w.frozen? ⟨f, 0, none⟩ = false := by
  unfold Flag at h
  simp [World.frozen?, h]
theorem Flag.alloc {w : World} {f : Nat} {c : Bool} (h : Flag w f c) (o : Obj) : Flag (w.alloc o) f c := by
  have hlt := h.lt
  unfold Flag at *
  rw [Below.heap_alloc w o f hlt, h]
theorem Flag.set {w : World} {f : Nat} {c : Bool} (h : Flag w f c) (d : Bool) : Flag (w.setCell ⟨f, 0, none⟩ (.bool d)) f d := one_setCell h
theorem grown_refl (w : World) (r : Option Nat) : w.grownBy w r := ⟨rfl, rfl, rfl, Nat.le_refl _, fun _ _ _ => rfl⟩
theorem grown_alloc {w W : World} {r : Option Nat} (h : w.grownBy W r) (o : Obj) : w.grownBy (W.alloc o) r := World.grownBy.trans h (World.grownBy_alloc W o r)

theorem grown_set (w : World) (f : Nat) (v : Value) : w.grownBy (w.setCell ⟨f, 0, none⟩ v) (some f) := by
  have h := (Below.refl 0 w).setCell (p := ⟨f, 0, none⟩) (Nat.zero_le _) v
  exact ⟨h.os, h.tape, h.output, h.size, fun i _ hi => Below.heap_setCell w ⟨f, 0, none⟩ v i (fun e => hi (by rw [e]))⟩

set_option maxHeartbeats 400000 in
theorem isStatic_exact (b : Body) (w : World) :
    Calls Try.prog 25 #[.agg b.cells] w fun e w' => e = .returned (.bool (b.inv == 0)) ∧ w' = w.alloc (.cells b.cells 37) := by
  show Calls _ _ #[.agg #[.int .u32 b.key, .int .i32 b.radius, .int .i32 b.ax, .int .i32 b.ay, .int .i32 b.inv, .int .i32 b.bounce, .int .i32 b.px, .int .i32 b.py, .int .i32 b.vx, .int .i32 b.vy]] w _
  go_enter Try.func25, Try.ntmps25
  go_wp2
  go_ret
  exact ⟨rfl, rfl⟩
theorem isStatic_ex (k r ax ay m o px py vx vy : Int) (w : World) : Calls Try.prog 25 #[.agg #[.int .u32 k, .int .i32 r, .int .i32 ax, .int .i32 ay, .int .i32 m, .int .i32 o, .int .i32 px, .int .i32 py, .int .i32 vx, .int .i32 vy]] w fun e w' => e = .returned (.bool (m == 0)) ∧ w' = w.alloc (.cells #[.int .u32 k, .int .i32 r, .int .i32 ax, .int .i32 ay, .int .i32 m, .int .i32 o, .int .i32 px, .int .i32 py, .int .i32 vx, .int .i32 vy] 37) := isStatic_exact ⟨k, r, ax, ay, m, o, px, py, vx, vy⟩ w

set_option maxHeartbeats 4000000 in
theorem gravClosure (k r ax ay m o px py vx vy i : Int) (f : Nat) (c : Bool) (w : World) (hF : Flag w f c) (u0 : -16777216 ≤ vy) (u1 : vy ≤ 16777216) :
    Calls Try.prog 24 #[.int .i64 i, .agg #[.int .u32 k, .int .i32 r, .int .i32 ax, .int .i32 ay, .int .i32 m, .int .i32 o, .int .i32 px, .int .i32 py, .int .i32 vx, .int .i32 vy], .pointer (some ⟨f, 0, none⟩)] w fun e w' =>
      e = .returned (.agg (gravB ⟨k, r, ax, ay, m, o, px, py, vx, vy⟩).cells) ∧ w.grownBy w' (some f) ∧ Flag w' f (c || gravC ⟨k, r, ax, ay, m, o, px, py, vx, vy⟩) := by
  have h0 := hF.lt
  have h1 : f < w.heap.size + 1 := by omega
  have h2 : f < w.heap.size + 1 + 1 := by omega
  have h3 : f < w.heap.size + 1 + 1 + 1 := by omega
  have hc := hF.cell
  have hz := hF.froz
  by_cases hm : (m == 0) = true
  · go_enter Try.func24, Try.ntmps24
    go_wp2_with (go_at_call 25; refine (isStatic_ex _ _ _ _ _ _ _ _ _ _ _).mono ?_; rintro e w1 ⟨rfl, rfl⟩)
    refine bodyPost_ret (v := .agg (gravB ⟨k, r, ax, ay, m, o, px, py, vx, vy⟩).cells) (by simp [results, Try.results24, go_sem, gravB, hm, Body.cells]) rfl ⟨rfl, ?_, ?_⟩
    · exact grown_alloc (grown_alloc (grown_alloc (grown_refl w _) _) _) _
    · have e : (c || gravC ⟨k, r, ax, ay, m, o, px, py, vx, vy⟩) = c := by simp [gravC, hm]
      rw [e]
      exact ((hF.alloc _).alloc _).alloc _
  · have hm' : (m == 0) = false := by simpa using hm
    clear hm
    go_enter Try.func24, Try.ntmps24
    go_wp2_with (go_at_call 25; refine (isStatic_ex _ _ _ _ _ _ _ _ _ _ _).mono ?_; rintro e w1 ⟨rfl, rfl⟩)
    refine (limited_any _ _ _ _ c _ (by omega) (by omega) (by simp [go_sem]; rfl) (by simp [go_sem, *]) (by simp [go_sem, *])).mono ?_
    rintro e w1 ⟨rfl, rfl⟩
    go_wp2_with fail
    refine bodyPost_ret (v := .agg (gravB ⟨k, r, ax, ay, m, o, px, py, vx, vy⟩).cells) (by simp [results, Try.results24, go_sem, gravB, Body.cells, *]) rfl ⟨rfl, ?_, ?_⟩
    · exact grown_alloc (grown_alloc (grown_alloc (grown_alloc (grown_set w f _) _) _) _) _
    · have e : (c || gravC ⟨k, r, ax, ay, m, o, px, py, vx, vy⟩) = (c || !(clampI (vy - 1024) 16777216 == vy - 1024)) := by simp [gravC, hm']
      rw [e]
      exact (((((hF.set _).alloc _).alloc _).alloc _).alloc _)
end Go.Proofs.Ythoapplkaidaaaa
