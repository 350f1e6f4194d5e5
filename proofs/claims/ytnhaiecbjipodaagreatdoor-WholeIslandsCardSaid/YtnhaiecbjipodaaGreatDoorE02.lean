/- The reference's digits. -/
import Derived.Test.YtnhaiecbjipodaaGreatDoorE01
import Derived.Test.YtnhaiecbjipodaaGreatDoorB06
import Derived.Test.YtnhaiecbjipodaaGreatDoorB02
namespace Go.Proofs.YtnhaiecbjipodaaGreatDoor
open Go.RowKit
attribute [local go_sem] Grow.cell Grow.froz Grow.lt lt_s1 lt_s2 lt_s3 lt_s4 lt_s5
def u64s (l : List Int) : Array Value := (l.map (Value.int .u64)).toArray
def digL (M : Int) (k : Nat) : List Int := (List.range 8).map fun j => if j < k then M / 65536 ^ j % 65536 else 0
theorem digL_set (M : Int) {k : Nat} (hk : k < 4) : (u64s (digL M k)).set! k (.int .u64 (M / 65536 ^ k % 65536)) = u64s (digL M (k + 1)) := by
  obtain rfl | rfl | rfl | rfl : k = 0 ∨ k = 1 ∨ k = 2 ∨ k = 3 := by omega
  all_goals rfl
theorem idx_big (p n : Nat) (hn : n < 8) (w : World) :
    (Instr.indexAt 290 (.pointer (some ⟨p, 0, none⟩)) (.int .i64 (n : Int))).run Tryz.prog w = .ok (.pointer (some ⟨p, n, none⟩)) w := by
  have hk' : (n : Int) < 8 := by omega
  go_simp
theorem u64s_at {l : List Int} {n : Nat} (h : n < l.length) : (u64s l)[n]? = some (.int .u64 (l.getD n 0)) := by
  unfold u64s
  rw [List.getElem?_toArray, List.getElem?_map, List.getElem?_eq_getElem h]
  simp [h]
theorem quo_next (M : Int) (k : Nat) : M / 65536 ^ (k + 1) = M / 65536 ^ k / 65536 := by
  rw [Int.pow_succ, div_div (Int.pow_nonneg (by omega))]
theorem quo_bd {M : Int} (h0 : 0 ≤ M) (h1 : M ≤ 9223372036854775808) (k : Nat) : 0 ≤ M / 65536 ^ k ∧ M / 65536 ^ k ≤ 9223372036854775808 :=
  ⟨Int.ediv_nonneg h0 (Int.pow_nonneg (by omega)), Int.le_trans (Int.ediv_le_self _ h0) h1⟩
set_option maxRecDepth 100000 in
set_option maxHeartbeats 1000000 in
theorem digits_any (a : Int) (w : World) (h0 : -9223372036854775808 ≤ a) (h1 : a ≤ 9223372036854775807) :
    Calls Tryz.prog 219 #[.int .i64 a] w fun e w' => e = .returned (.agg (u64s (digL (a.natAbs : Int) 4))) ∧ Below w.heap.size w w' := by
  obtain ⟨M, hM⟩ : ∃ M : Int, M = (a.natAbs : Int) := ⟨_, rfl⟩
  have m0 : 0 ≤ M := by omega
  have m1 : M ≤ 9223372036854775808 := by omega
  have HQ := Lib.hid (quo_bd m0 m1)
  rw [← hM]
  obtain ⟨d0, d1, d2, d3, hd⟩ : ∃ d0 d1 d2 d3, u64s (digL M 4) = #[.int .u64 d0, .int .u64 d1, .int .u64 d2, .int .u64 d3, .int .u64 0, .int .u64 0, .int .u64 0, .int .u64 0] := ⟨_, _, _, _, rfl⟩
  rw [hd]
  have HD := Lib.hid hd
  clear hd
  by_cases h : a < 0
  all_goals
    go_enter Tryz.func219, Tryz.ntmps219
    go_wp2
    go_loopw [4, 5] (fun m i wr => ∃ k : Nat, k ≤ 4 ∧ i = .int .i64 k ∧ m = .int .u64 (M / 65536 ^ k) ∧ CellsAt wr w.heap.size (u64s (digL 0 0)) 292 ∧ CellsAt wr (w.heap.size + 1) (u64s (digL M k)) 292 ∧ Below w.heap.size w wr) (fun _ i _ => 4 - (intOf i).toNat)
    case atStart =>
      refine ⟨0, by omega, rfl, ?_, (CellsAt.newAt rfl rfl).alloc _, CellsAt.newAt (by simp) rfl, (by repeat (first | with_reducible exact Below.refl _ _ | with_reducible refine bel_alloc ?_ _ | with_reducible refine bel_drewN ?_ _ | with_reducible refine bel_drew ?_ | with_reducible refine bel_grow ?_ _ | with_reducible refine bel_set ?_ (by first | omega | (simp; done) | (simp; omega)) _))⟩
      rw [Int.pow_zero, Int.ediv_one, hM]
      congr 1
      first | (rw [IntKind.wrap_u64, IntKind.wrap_u64]; omega) | (rw [IntKind.wrap_u64]; omega) | omega
    case round =>
      obtain ⟨k, hk, rfl, rfl, hKR, hK, hB⟩ := hrel
      have lR := hKR.lt
      have lK := hK.lt
      have fz : ∀ o, wr.frozen? ⟨w.heap.size + 1, o, none⟩ = false := fun o => hK.froz o
      have fr : ∀ o, wr.frozen? ⟨w.heap.size, o, none⟩ = false := fun o => hKR.froz o
      have HKR := Lib.hid hKR
      have HK := Lib.hid hK
      have HB := Lib.hid hB
      have cz := fun o (ho : o < 8) => hK.at o (u64s_at (l := digL M k) (by simpa [digL] using ho))
      clear hKR hK hB
      by_cases hlt : k < 4
      · have hlt' : (k : Int) < 4 := by omega
        have ixk := idx_big (w.heap.size + 1) k (by omega)
        have ck := cz k (by omega)
        clear cz
        obtain ⟨q0, q1⟩ := HQ.out k
        obtain ⟨q, hq⟩ : ∃ q, q = M / 65536 ^ k := ⟨_, rfl⟩
        rw [← hq] at q0 q1 ⊢
        have HQQ := Lib.hid hq
        clear hq
        go_wp2
        go_roundw
        case rel => exact ⟨k + 1, by omega, by go_num, by rw [quo_next, HQQ.out], HKR.out.far (by omega) _, by rw [← digL_set M hlt, ← HQQ.out]; exact HK.out.set _ _, bel_set HB.out (by omega) _⟩
        case measure => simp [intOf]; omega
      · obtain rfl : k = 4 := by omega
        clear cz
        have HK2 := HK.out
        have HKR2 : CellsAt wr w.heap.size #[.int .u64 0, .int .u64 0, .int .u64 0, .int .u64 0, .int .u64 0, .int .u64 0, .int .u64 0, .int .u64 0] 292 := HKR.out
        rw [HD.out] at HK2
        have kk1 : wr.cell? ⟨(w.heap.size + 1), 0, none⟩ = some (.int .u64 d0) := HK2.at 0 rfl
        have kk2 : wr.cell? ⟨(w.heap.size + 1), 1, none⟩ = some (.int .u64 d1) := HK2.at 1 rfl
        have kk3 : wr.cell? ⟨(w.heap.size + 1), 2, none⟩ = some (.int .u64 d2) := HK2.at 2 rfl
        have kk4 : wr.cell? ⟨(w.heap.size + 1), 3, none⟩ = some (.int .u64 d3) := HK2.at 3 rfl
        have kk5 : wr.cell? ⟨(w.heap.size + 1), 4, none⟩ = some (.int .u64 0) := HK2.at 4 rfl
        have kk6 : wr.cell? ⟨(w.heap.size + 1), 5, none⟩ = some (.int .u64 0) := HK2.at 5 rfl
        have kk7 : wr.cell? ⟨(w.heap.size + 1), 6, none⟩ = some (.int .u64 0) := HK2.at 6 rfl
        have kk8 : wr.cell? ⟨(w.heap.size + 1), 7, none⟩ = some (.int .u64 0) := HK2.at 7 rfl
        have kk9 : wr.cell? ⟨w.heap.size, 0, none⟩ = some (.int .u64 0) := HKR2.at 0 rfl
        have kk10 : wr.cell? ⟨w.heap.size, 1, none⟩ = some (.int .u64 0) := HKR2.at 1 rfl
        have kk11 : wr.cell? ⟨w.heap.size, 2, none⟩ = some (.int .u64 0) := HKR2.at 2 rfl
        have kk12 : wr.cell? ⟨w.heap.size, 3, none⟩ = some (.int .u64 0) := HKR2.at 3 rfl
        have kk13 : wr.cell? ⟨w.heap.size, 4, none⟩ = some (.int .u64 0) := HKR2.at 4 rfl
        have kk14 : wr.cell? ⟨w.heap.size, 5, none⟩ = some (.int .u64 0) := HKR2.at 5 rfl
        have kk15 : wr.cell? ⟨w.heap.size, 6, none⟩ = some (.int .u64 0) := HKR2.at 6 rfl
        have kk16 : wr.cell? ⟨w.heap.size, 7, none⟩ = some (.int .u64 0) := HKR2.at 7 rfl
        have HKQ := Lib.hid HKR2
        clear HK HK2 HKR HKR2 HD HQ
        go_wp2
        refine bodyPost_ret (v := .agg #[.int .u64 d0, .int .u64 d1, .int .u64 d2, .int .u64 d3, .int .u64 0, .int .u64 0, .int .u64 0, .int .u64 0]) (ret_cells w.heap.size #[.int .u64 d0, .int .u64 d1, .int .u64 d2, .int .u64 d3, .int .u64 0, .int .u64 0, .int .u64 0, .int .u64 0] 292 ?_ ?_) rfl ⟨rfl, ?_⟩
        · exact ((((((((HKQ.out.set 0 _).set 1 _).set 2 _).set 3 _).set 4 _).set 5 _).set 6 _).set 7 _).eq (by simp)
        · intro W K
          have kk17 : W.cell? ⟨w.heap.size, 0, none⟩ = some (.int .u64 d0) := K.at 0 rfl
          have kk18 : W.cell? ⟨w.heap.size, 1, none⟩ = some (.int .u64 d1) := K.at 1 rfl
          have kk19 : W.cell? ⟨w.heap.size, 2, none⟩ = some (.int .u64 d2) := K.at 2 rfl
          have kk20 : W.cell? ⟨w.heap.size, 3, none⟩ = some (.int .u64 d3) := K.at 3 rfl
          have kk21 : W.cell? ⟨w.heap.size, 4, none⟩ = some (.int .u64 0) := K.at 4 rfl
          have kk22 : W.cell? ⟨w.heap.size, 5, none⟩ = some (.int .u64 0) := K.at 5 rfl
          have kk23 : W.cell? ⟨w.heap.size, 6, none⟩ = some (.int .u64 0) := K.at 6 rfl
          have kk24 : W.cell? ⟨w.heap.size, 7, none⟩ = some (.int .u64 0) := K.at 7 rfl
          simp [results, Tryz.results219, go_sem, *]
        · have hB := HB.out
          repeat (first | with_reducible exact hB | with_reducible refine bel_set ?_ (by first | omega | (simp; done) | (simp; omega)) _)
end Go.Proofs.YtnhaiecbjipodaaGreatDoor
