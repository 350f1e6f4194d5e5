/- The contracts of the reference's Add, All, each, Sort and View. -/
import Derived.Test.YthoapplkaidaaaaPut
import Derived.Test.YthoapplkaidaaaaRef05
namespace Go.Proofs.Ythoapplkaidaaaa
open Go.RowKit
attribute [local go_sem] Grow.cell Grow.froz Grow.lt

def addL (l : List Body) (b : Body) : List Body × Int :=
  if errOf b ≠ 0 then (l, errOf b) else if 0 ≤ findK l b.key 0 then (l, 10) else if 4096 ≤ l.length then (l, 12) else (putL l b false, 0)
theorem addL_len (l : List Body) (b : Body) : (addL l b).1.length ≤ l.length + 1 := by
  have := putL_len l b false
  unfold addL
  repeat' split
  all_goals (simp only; omega)

theorem ret_two {v : Value} {a b : Int} (h : a = b) : Ending.returned (.tuple #[v, .int .i64 a]) = .returned (.tuple #[v, .int .i64 b]) := by rw [h]
theorem add_err {l : List Body} {b : Body} (h : ¬ errOf b = 0) : addL l b = (l, errOf b) := by unfold addL; rw [if_pos h]
theorem add_dup {l : List Body} {b : Body} (h : errOf b = 0) (h1 : 0 ≤ findK l b.key 0) : addL l b = (l, 10) := by unfold addL; rw [if_neg (by simpa using h), if_pos h1]
theorem add_full {l : List Body} {b : Body} (h : errOf b = 0) (h1 : findK l b.key 0 < 0) (h2 : (4096 : Int) ≤ l.length) : addL l b = (l, 12) := by unfold addL; rw [if_neg (by simpa using h), if_neg (by omega), if_pos (by omega)]
theorem add_ok {l : List Body} {b : Body} (h : errOf b = 0) (h1 : findK l b.key 0 < 0) (h2 : (l.length : Int) < 4096) : addL l b = (putL l b false, 0) := by unfold addL; rw [if_neg (by simpa using h), if_neg (by omega), if_neg (by omega)]

set_option maxHeartbeats 2000000 in
set_option maxRecDepth 100000 in
theorem add_any (v : Value) (l : List Body) (b : Body) (w : World) (hl : Reads bodyE w v l) (hn : l.length ≤ 1000000) :
    Calls Try.prog 34 #[v, .agg b.cells] w fun e w' => ∃ v', e = .returned (.tuple #[v', .int .i64 (addL l b).2]) ∧ Reads bodyE w' v' (addL l b).1 ∧ Below w.heap.size w w' := by
  have HL := Lib.hid hl
  obtain ⟨A, c, b1, o1, rfl, _, _⟩ := hl.bodies
  clear hl
  show Calls _ _ #[_, .agg b.arr] w _
  by_cases he : errOf b = 0
  · have HE := Lib.hid he
    have he' : (errOf ⟨b.key, b.radius, b.ax, b.ay, b.inv, b.bounce, b.px, b.py, b.vx, b.vy⟩ == 0) = true := by simpa using he
    clear he
    go_enter Try.func34, Try.ntmps34
    go_wp2_with fail
    refine (refCheck_fl _ _ _ _ _ _ _ _ _ _ _).mono ?_
    rintro e w1 ⟨rfl, hb⟩
    obtain ⟨g1, rfl⟩ := Grow.of hb
    have l1 : w.heap.size < g1.world.heap.size := Nat.lt_of_lt_of_le (by simp) g1.le
    clear hb
    have hl1 : Reads bodyE g1.world (.slice A l.length c) l := (HL.out.alloc _).grow g1
    by_cases hf : 0 ≤ findK l b.key 0
    · have HF := Lib.hid hf
      go_wp2_with (go_at_call 35; refine (find_any _ _ _ _ hl1).mono ?_; rintro e w2 ⟨rfl, rfl⟩)
      go_ret2
      exact ⟨.slice A l.length c, ret_two (by rw [add_dup HE.out HF.out]), by rw [add_dup HE.out HF.out]; exact hl1, bel_grow (new_ok _) g1⟩
    · have hf' : findK l b.key 0 < 0 := by omega
      clear hf
      have HF := Lib.hid hf'
      by_cases hfull : (4096 : Int) ≤ l.length
      · have HU := Lib.hid hfull
        go_wp2_with (go_at_call 35; refine (find_any _ _ _ _ hl1).mono ?_; rintro e w2 ⟨rfl, rfl⟩)
        go_ret2
        exact ⟨.slice A l.length c, ret_two (by rw [add_full HE.out HF.out HU.out]), by rw [add_full HE.out HF.out HU.out]; exact hl1, bel_grow (new_ok _) g1⟩
      · have hfull' : (l.length : Int) < 4096 := by omega
        clear hfull
        have HU := Lib.hid hfull'
        go_wp2_with fail
        refine (find_any _ _ _ _ hl1).mono ?_
        rintro e w2 ⟨rfl, rfl⟩
        go_wp2_with fail
        refine (put_any _ l b _ _ hl1 hn).mono ?_
        rintro e w2 ⟨v2, rfl, hr2, hb2⟩
        have HR := Lib.hid hr2
        clear hr2
        obtain ⟨g2, rfl⟩ := Grow.of hb2
        go_wp2_with fail
        go_ret2
        exact ⟨v2, ret_two (by rw [add_ok HE.out HF.out HU.out]), by rw [add_ok HE.out HF.out HU.out]; exact HR.out, bel_grow (bel_grow (new_ok _) g1) g2⟩
  · have HE := Lib.hid he
    have he' : (errOf ⟨b.key, b.radius, b.ax, b.ay, b.inv, b.bounce, b.px, b.py, b.vx, b.vy⟩ == 0) = false := by simpa using he
    clear he
    go_enter Try.func34, Try.ntmps34
    go_wp2_with fail
    refine (refCheck_fl _ _ _ _ _ _ _ _ _ _ _).mono ?_
    rintro e w1 ⟨rfl, hb⟩
    obtain ⟨g1, rfl⟩ := Grow.of hb
    have l1 : w.heap.size < g1.world.heap.size := Nat.lt_of_lt_of_le (by simp) g1.le
    clear hb
    have hl1 : Reads bodyE g1.world (.slice A l.length c) l := (HL.out.alloc _).grow g1
    have HL1 := Lib.hid hl1
    clear hl1
    go_wp2_with fail
    go_ret2
    exact ⟨.slice A l.length c, ret_two (by rw [add_err HE.out]), by rw [add_err HE.out]; exact HL1.out, bel_grow (new_ok _) g1⟩
end Go.Proofs.Ythoapplkaidaaaa
