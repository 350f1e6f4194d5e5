/- The contract of the reference's Same: it compares two slices of bodies. -/
import Derived.Test.YtlibkfjafhggkaaSlices
import Derived.Test.YtlibkfjafhggkaaEq
import Derived.WalkKit
import Derived.WalkSpells
import Derived.WalkLawsBesides
import Derived.Lib.Hide
namespace Go.Proofs.Ytlibkfjafhggkaa
open Go.RowKit
attribute [local go_sem] Grow.cell Grow.froz Grow.lt
attribute [local go_sem high] body_eq

theorem same_len {l m : List Body} (h : l.length ≠ m.length) : (false : Bool) = decide (l = m) := by
  have : l ≠ m := fun e => h (by rw [e])
  simp [this]
theorem same_at {l m : List Body} {k : Nat} (h1 : k < l.length) (h2 : k < m.length) (h : l[k] ≠ m[k]) : (false : Bool) = decide (l = m) := by
  have : l ≠ m := fun e => h (by subst e; rfl)
  simp [this]
theorem same_all {l m : List Body} (h : l.length = m.length) (h2 : ∀ j (a : j < l.length) (b : j < m.length), l[j] = m[j]) : (true : Bool) = decide (l = m) := by
  have : l = m := List.ext_getElem h h2
  simp [this]
theorem eqB_no {x y : Body} (h : x ≠ y) : eqB x y = false := by
  cases hb : eqB x y with
  | false => rfl
  | true => exact absurd ((eqB_iff x y).1 hb) h

set_option maxHeartbeats 2000000 in
theorem same_any (v u : Value) (l m : List Body) (w : World) (hl : Reads bodyE w v l) (hm : Reads bodyE w u m) :
    Calls Try.prog 14 #[v, u] w fun e w' => e = .returned (.bool (decide (l = m))) ∧ Below w.heap.size w w' := by
  have q := hl.1
  have q2 := hm.1
  obtain ⟨A, c, b1, o1, rfl, hA, hx⟩ := hl.bodies
  obtain ⟨B, d, b2, o2, rfl, hB, hy⟩ := hm.bodies
  have hA := Lib.hid hA
  have hB := Lib.hid hB
  have hx := Lib.hid hx
  have hy := Lib.hid hy
  clear hl hm
  by_cases h : l.length = m.length
  · have hh : ((l.length : Int) == (m.length : Int)) = true := by simp [h]
    have H := Lib.hid h
    clear h
    go_enter Try.func14, Try.ntmps14
    go_wp2
    go_loopw [5] (fun i wr => ∃ k : Nat, k ≤ l.length ∧ i = .int .i64 k ∧ (∀ j (_ : j < k) (a : j < l.length) (b : j < m.length), l[j] = m[j]) ∧ Below w.heap.size w wr) (fun i _ => l.length - (intOf i).toNat)
    case atStart => exact ⟨0, by omega, rfl, fun j h => absurd h (by omega), Below.refl _ _⟩
    case round =>
      obtain ⟨k, hk, rfl, hP, hbel⟩ := hrel
      have HP := Lib.hid hP
      clear hP
      by_cases hlt : k < l.length
      · have hkm : k < m.length := by have := H.out; omega
        obtain ⟨eA, zA⟩ := hA.out (by omega)
        obtain ⟨eB, zB⟩ := hB.out (by omega)
        obtain ⟨q0, q1, q2, q3, q4, q5, q6, q7, q8, q9⟩ := (hx.out k hlt).below hbel
        obtain ⟨r0, r1, r2, r3, r4, r5, r6, r7, r8, r9⟩ := (hy.out k hkm).below hbel
        have zA' : b1 < wr.heap.size := Nat.lt_of_lt_of_le zA hbel.size
        have zB' : b2 < wr.heap.size := Nat.lt_of_lt_of_le zB hbel.size
        by_cases he : l[k] = m[k]
        · have hq : eqB ⟨l[k].key, l[k].radius, l[k].ax, l[k].ay, l[k].inv, l[k].bounce, l[k].px, l[k].py, l[k].vx, l[k].vy⟩ ⟨m[k].key, m[k].radius, m[k].ax, m[k].ay, m[k].inv, m[k].bounce, m[k].px, m[k].py, m[k].vx, m[k].vy⟩ = true := (eqB_iff _ _).2 he
          have HE := Lib.hid he
          clear he
          go_wp2
          refine wp_region_grow (by kernel_rfl) (by kernel_rfl) ?_
          repeat (first | go_big_quiet_skip | (go_big_quiet_want; go_big_quiet_op; first | go_big_quiet_on))
          refine wpQuiet_nil ?_
          rintro _ ⟨g, rfl⟩
          go_wp2
          go_roundw
          case rel => exact ⟨k + 1, by omega, by go_num, fun j hj a b => if e : j = k then by subst e; exact HE.out else HP.out j (by omega) a b, bel_grow hbel g⟩
          case measure => simp [intOf]; omega
        · have hq : eqB ⟨l[k].key, l[k].radius, l[k].ax, l[k].ay, l[k].inv, l[k].bounce, l[k].px, l[k].py, l[k].vx, l[k].vy⟩ ⟨m[k].key, m[k].radius, m[k].ax, m[k].ay, m[k].inv, m[k].bounce, m[k].px, m[k].py, m[k].vx, m[k].vy⟩ = false := eqB_no he
          have HE := Lib.hid he
          clear he
          go_wp2
          refine wp_region_grow (by kernel_rfl) (by kernel_rfl) ?_
          repeat (first | go_big_quiet_skip | (go_big_quiet_want; go_big_quiet_op; first | go_big_quiet_on))
          refine wpQuiet_nil ?_
          rintro _ ⟨g, rfl⟩
          go_wp2
          go_ret
          exact ⟨ret_bool (same_at hlt hkm HE.out), bel_grow hbel g⟩
      · go_wp2
        go_ret
        exact ⟨ret_bool (same_all H.out (fun j a b => HP.out j (by omega) a b)), hbel⟩
  · have hh : ((l.length : Int) == (m.length : Int)) = false := by simp; omega
    have H := Lib.hid h
    clear h
    go_enter Try.func14, Try.ntmps14
    go_wp2
    go_ret
    exact ⟨ret_bool (same_len H.out), Below.refl _ _⟩
end Go.Proofs.Ytlibkfjafhggkaa
