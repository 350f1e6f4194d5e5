/- awake of billiardlaw19 returns true. -/
import Derived.Test.YthoapplkaidaaaaMoved
namespace Go.Proofs.Ythoapplkaidaaaa
open Go.RowKit
attribute [local go_sem] Grow.cell Grow.froz Grow.lt

theorem Reads.one {α : Type} {E : Enc α} {w : World} {B c : Nat} {cs : Array Value} {t : TypeId} {a : α} (h : w.heap[B]? = some (.cells cs t (0, 0))) (hc : cs.toList = E.cells a) : Reads E w (.slice (some ⟨B, 0, Option.none⟩) 1 c) [a] := by
  refine ⟨by simp, _, c, rfl, fun i x hx => ⟨B, 0, rfl, fun j u hu => ?_⟩⟩
  cases i with
  | zero =>
    simp at hx
    subst hx
    rw [← hc] at hu
    simp only [Nat.zero_mul, Nat.add_zero, Nat.zero_add]
    simp only [World.cell?, h]
    simpa using hu
  | succ n => simp at hx
theorem Reads.single {w : World} {v : Value} {a : Body} (h : Reads bodyE w v [a]) : ∃ b off c, v = .slice (some ⟨b, off, Option.none⟩) 1 c ∧ b < w.heap.size ∧ TenAt w b off a := by
  obtain ⟨A, c, b, off, h1, h2, h3⟩ := h.bodies
  obtain ⟨rfl, hz⟩ := h2 (by simp)
  exact ⟨b, off, c, h1, hz, by simpa using h3 0 (by simp)⟩
theorem heap_alloc_two (w : World) (o p : Obj) : ((w.alloc o).alloc p).heap[w.heap.size + 1]? = some p := by
  have h := heap_alloc_new (w.alloc o) p
  rwa [show (w.alloc o).heap.size = w.heap.size + 1 from by simp] at h
theorem heap_below {w w' : World} {B n : Nat} {o : Obj} (h : w.heap[B]? = some o) (hb : Below n w w') (hB : B < n) : w'.heap[B]? = some o := by rw [hb.block B hB, h]

set_option maxHeartbeats 4000000 in
theorem awake19_any (w : World) :
    Calls Try.prog 9 #[] w fun e w' => e = .returned (.bool true) ∧ Below w.heap.size w w' := by
  have e1 : movL [⟨0, 65536, 0, 0, 65536, 0, 0, 0, 64, -1⟩] [(0, 0)] = [⟨0, 65536, 0, 0, 65536, 0, 1, -1, 64, -1⟩] := by kernel_rfl
  have e2 : movC [⟨0, 65536, 0, 0, 65536, 0, 0, 0, 64, -1⟩] [(0, 0)] = false := by kernel_rfl
  have e3 : List.map gravB [⟨0, 65536, 0, 0, 65536, 0, 0, 0, 64, -1⟩] = [⟨0, 65536, 0, 0, 65536, 0, 0, 0, 64, -1025⟩] := by kernel_rfl
  have e4 : List.any [⟨0, 65536, 0, 0, 65536, 0, 0, 0, 64, -1⟩] gravC = false := by kernel_rfl
  have e5 : pushB ⟨0, 65536, 0, 0, 65536, 0, 0, 0, 64, -1⟩ 5 2147483647 = ⟨0, 65536, 0, 0, 65536, 0, 0, 0, 69, 16777216⟩ := by kernel_rfl
  have e6 : pushC ⟨0, 65536, 0, 0, 65536, 0, 0, 0, 64, -1⟩ 5 2147483647 = true := by kernel_rfl
  have hV : ∀ b ∈ ([⟨0, 65536, 0, 0, 65536, 0, 0, 0, 64, -1⟩] : List Body), Small b := by
    intro b hb
    simp at hb
    subst hb
    unfold Small; decide
  have hO : ∀ x ∈ ([(0, 0)] : List (Int × Int)), ShiftOk x := by
    intro x hx
    simp at hx
    subst hx
    unfold ShiftOk; decide
  have E1 := Lib.hid e1
  have E2 := Lib.hid e2
  have E3 := Lib.hid e3
  have E4 := Lib.hid e4
  have E5 := Lib.hid e5
  have E6 := Lib.hid e6
  have HV := Lib.hid hV
  have HO := Lib.hid hO
  clear e1 e2 e3 e4 e5 e6 hV hO
  go_enter Try.func9, Try.ntmps9
  go_wp2_with fail
  have hB : ((w.alloc (.cells #[.int .u32 0, .int .i32 65536, .int .i32 0, .int .i32 0, .int .i32 65536, .int .i32 0, .int .i32 0, .int .i32 0, .int .i32 64, .int .i32 (-1)] 37)).alloc (.cells #[.int .i64 0, .int .i64 0] 50)).heap[w.heap.size]? = some (.cells #[.int .u32 0, .int .i32 65536, .int .i32 0, .int .i32 0, .int .i32 65536, .int .i32 0, .int .i32 0, .int .i32 0, .int .i32 64, .int .i32 (-1)] 37 (0, 0)) := by
    rw [Below.heap_alloc _ _ _ (by simp)]
    exact heap_alloc_new w _
  have HB := Lib.hid hB
  clear hB
  refine (move_any _ _ [⟨0, 65536, 0, 0, 65536, 0, 0, 0, 64, -1⟩] [(0, 0)] _ (by exact Reads.one HB.out rfl) (by simp) HV.out (by exact Reads.one (heap_alloc_two w _ _) rfl) rfl HO.out).mono ?_
  rintro e w1 ⟨v1, he, hr, hb⟩
  rw [E1.out] at hr
  rw [E2.out] at he
  subst he
  obtain ⟨b1, o1, c1, rfl, hz1, ht1⟩ := hr.single
  have HT1 := Lib.hid ht1
  have hs1 := hb.size
  simp at hs1
  have HB1 := Lib.hid (heap_below HB.out hb (by simp; omega))
  have bel1 := Lib.hid ((bel_alloc (new_ok _) _).trans (hb.mono (by simp; omega)))
  clear hr hb ht1
  go_wp2_with fail
  refine (gravity_any _ [⟨0, 65536, 0, 0, 65536, 0, 0, 0, 64, -1⟩] _ (by exact Reads.one HB1.out rfl) (by simp) HV.out).mono ?_
  rintro e w2 ⟨v2, he, hr, hb⟩
  rw [E3.out] at hr
  rw [E4.out] at he
  subst he
  obtain ⟨b2, o2, c2, rfl, hz2, ht2⟩ := hr.single
  have HT2 := Lib.hid ht2
  have hs2 := hb.size
  have HB2 := Lib.hid (heap_below HB1.out hb (by omega))
  have HT1b := Lib.hid (HT1.out.below hb)
  have bel2 := Lib.hid (bel1.out.trans (hb.mono (by omega)))
  clear hr hb ht2
  obtain ⟨a0, a1, a2, a3, a4, a5, a6, a7, a8, a9⟩ := box_of (x := ⟨0, 65536, 0, 0, 65536, 0, 0, 0, 64, -1⟩) HB2.out
  go_wp2_with fail
  refine (push_any _ _ _ _ _ _ _ _ _ _ _ _ _ (by omega) (by omega) (by omega) (by omega) (by omega) (by omega) (by omega) (by omega) (by omega) (by omega)).mono ?_
  rintro e w3 ⟨he, hb⟩
  rw [E5.out, E6.out] at he
  have he' : e = .returned (.tuple #[.agg #[.int .u32 0, .int .i32 65536, .int .i32 0, .int .i32 0, .int .i32 65536, .int .i32 0, .int .i32 0, .int .i32 0, .int .i32 69, .int .i32 16777216], .bool true]) := he
  subst he'
  have hs3 := hb.size
  obtain ⟨q0, q1, q2, q3, q4, q5, q6, q7, q8, q9⟩ := HT1b.out.below hb
  obtain ⟨r0, r1, r2, r3, r4, r5, r6, r7, r8, r9⟩ := HT2.out.below hb
  have zb1 : b1 < w3.heap.size := by omega
  have zb2 : b2 < w3.heap.size := by omega
  have bel3 := Lib.hid (bel2.out.trans (hb.mono (by omega)))
  clear he hb a0 a1 a2 a3 a4 a5 a6 a7 a8 a9
  go_wp2
  go_ret
  exact ⟨rfl, bel_alloc bel3.out _⟩
end Go.Proofs.Ythoapplkaidaaaa
