/- Contracts of the program's functions, by walks, and plain facts beside them: RefProd, RefDiv. -/
import Derived.Test.YtnhaiecbjipodaaGreatDoorE02
import Derived.Deep.DeepCutAuto
/- The reference's product. -/
namespace Go.Proofs.YtnhaiecbjipodaaGreatDoor
open Go.RowKit
attribute [local go_sem] Grow.cell Grow.froz Grow.lt lt_s1 lt_s2 lt_s3 lt_s4 lt_s5
def Digits (l : List Int) : Prop := ∀ d ∈ l, 0 ≤ d ∧ d ≤ 65535
theorem u64s_set {l : List Int} {n : Nat} (d : Int) : (u64s l).set! n (.int .u64 d) = u64s (l.set n d) := by
  unfold u64s
  rw [Array.set!_eq_setIfInBounds, List.setIfInBounds_toArray, List.map_set]
theorem digL_getD (M : Int) {k : Nat} (hk : k < 4) : (digL M 4).getD k 0 = M / 65536 ^ k % 65536 := by
  obtain rfl | rfl | rfl | rfl : k = 0 ∨ k = 1 ∨ k = 2 ∨ k = 3 := by omega
  all_goals rfl
theorem Digits.getD {l : List Int} (h : Digits l) (n : Nat) : 0 ≤ l.getD n 0 ∧ l.getD n 0 ≤ 65535 := by
  rw [List.getD_eq_getElem?_getD]
  cases hn : l[n]? with
  | none => simp
  | some d => exact h d (List.mem_of_getElem? hn)
theorem Digits.set {l : List Int} (h : Digits l) (n : Nat) {d : Int} (h0 : 0 ≤ d) (h1 : d ≤ 65535) : Digits (l.set n d) := by
  intro x hx
  rcases List.mem_or_eq_of_mem_set hx with hx | rfl
  · exact h x hx
  · exact ⟨h0, h1⟩
/-- What stands between two rows. -/
structure RowAt (W0 wr : World) (bz : Nat) (zs : List Int) (top : Nat) : Prop where
  blk : CellsAt wr bz (u64s zs) 292
  alt : Alter (fun k => k = bz) W0 wr
  len : zs.length = 8
  dig : Digits zs
  top : ∀ j, top ≤ j → zs.getD j 0 = 0
theorem RowAt.grow {W0 wr : World} {bz : Nat} {zs : List Int} {top : Nat} (h : RowAt W0 wr bz zs top) (g : Grow wr) : RowAt W0 g.world bz zs top := ⟨h.blk.grow g, alter_grow h.alt g, h.len, h.dig, h.top⟩
theorem RowAt.put {W0 wr : World} {bz : Nat} {zs : List Int} {top n : Nat} (h : RowAt W0 wr bz zs top) {d : Int} (h0 : 0 ≤ d) (h1 : d ≤ 65535) (hn : n < top) : RowAt W0 (wr.setCell ⟨bz, n, none⟩ (.int .u64 d)) bz (zs.set n d) top := by
  refine ⟨by have := h.blk.set n (.int .u64 d); rwa [u64s_set] at this, alter_set h.alt (.inl rfl) _, by rw [List.length_set]; exact h.len, h.dig.set n h0 h1, fun j hj => ?_⟩
  rw [List.getD_eq_getElem?_getD, List.getElem?_set_ne (by omega), ← List.getD_eq_getElem?_getD]
  exact h.top j hj
theorem RowAt.up {W0 wr : World} {bz : Nat} {zs : List Int} {top top' : Nat} (h : RowAt W0 wr bz zs top) (hl : top ≤ top') : RowAt W0 wr bz zs top' := ⟨h.blk, h.alt, h.len, h.dig, fun j hj => h.top j (by omega)⟩
theorem eight {l : List Int} (h : l.length = 8) : ∃ a b c d e f g i, l = [a, b, c, d, e, f, g, i] := by
  match l, h with
  | [a, b, c, d, e, f, g, i], _ => exact ⟨a, b, c, d, e, f, g, i, rfl⟩
theorem row_end {A B c V : Int} {i : Nat} {zs : List Int} (hl : zs.length = 8) (hi : i < 4) (hz : zs.getD (i + 4) 0 = 0) (b0 : 0 ≤ B) (b1 : B ≤ 9223372036854775808) (hV : V = A % 65536 ^ i * B) (h : valL zs + c * 65536 ^ (i + 4) = V + A / 65536 ^ i % 65536 * 65536 ^ i * (B % 65536 ^ 4)) : valL (zs.set (i + 4) c) = A % 65536 ^ (i + 1) * B := by
  rw [valL_set _ _ _ (by omega), hz, Int.sub_zero, h, hV, Int.emod_eq_of_lt b0 (by omega), digit_next, Int.add_mul]
theorem prod_end {A B : Int} (a0 : 0 ≤ A) (a1 : A ≤ 9223372036854775808) {v : Int} (h : v = A % 65536 ^ 4 * B) : v = A * B := by
  rw [h, Int.emod_eq_of_lt a0 (by omega)]
set_option maxRecDepth 100000 in
set_option maxHeartbeats 4000000 in
theorem product_any (a b : Int) (w : World) (a0 : -9223372036854775808 ≤ a) (a1 : a ≤ 9223372036854775807) (b0 : -9223372036854775808 ≤ b) (b1 : b ≤ 9223372036854775807) :
    Calls Tryz.prog 196 #[.int .i64 a, .int .i64 b] w fun e w' => ∃ zs, e = .returned (.agg (u64s zs)) ∧ zs.length = 8 ∧ Digits zs ∧ valL zs = (a.natAbs : Int) * (b.natAbs : Int) ∧ Below w.heap.size w w' := by
  have HA := Lib.hid fun W => digits_any a W a0 a1
  have HB := Lib.hid fun W => digits_any b W b0 b1
  obtain ⟨A, hA⟩ : ∃ A : Int, A = (a.natAbs : Int) := ⟨_, rfl⟩
  obtain ⟨B, hB⟩ : ∃ B : Int, B = (b.natAbs : Int) := ⟨_, rfl⟩
  have A0 : 0 ≤ A := by omega
  have A1 : A ≤ 9223372036854775808 := by omega
  have B0 : 0 ≤ B := by omega
  have B1 : B ≤ 9223372036854775808 := by omega
  rw [← hA] at HA ⊢
  rw [← hB] at HB ⊢
  clear hA hB a0 a1 b0 b1
  have xs4 : ∃ x0 x1 x2 x3, u64s (digL A 4) = #[.int .u64 x0, .int .u64 x1, .int .u64 x2, .int .u64 x3, .int .u64 0, .int .u64 0, .int .u64 0, .int .u64 0] := ⟨_, _, _, _, rfl⟩
  have ys4 : ∃ x0 x1 x2 x3, u64s (digL B 4) = #[.int .u64 x0, .int .u64 x1, .int .u64 x2, .int .u64 x3, .int .u64 0, .int .u64 0, .int .u64 0, .int .u64 0] := ⟨_, _, _, _, rfl⟩
  obtain ⟨x0, x1, x2, x3, hx⟩ := xs4
  obtain ⟨y0, y1, y2, y3, hy⟩ := ys4
  rw [hx] at HA
  rw [hy] at HB
  have HX := Lib.hid hx
  have HY := Lib.hid hy
  clear hx hy
  go_enter Tryz.func196, Tryz.ntmps196
  go_wp2_with fail
  refine (HA.out _).mono ?_
  rintro e w1 ⟨rfl, hb⟩
  obtain ⟨g1, rfl⟩ := Grow.of hb
  clear hb
  go_wp2_with fail
  refine (HB.out _).mono ?_
  rintro e w1 ⟨rfl, hb⟩
  obtain ⟨g2, rfl⟩ := Grow.of hb
  clear hb
  go_upto_region 4 with fail
  have KR : CellsAt ((g2.world.alloc (.cells #[.int .u64 y0, .int .u64 y1, .int .u64 y2, .int .u64 y3, .int .u64 0, .int .u64 0, .int .u64 0, .int .u64 0] 292)).alloc (.cells #[.int .u64 0, .int .u64 0, .int .u64 0, .int .u64 0, .int .u64 0, .int .u64 0, .int .u64 0, .int .u64 0] 292)) w.heap.size #[.int .u64 0, .int .u64 0, .int .u64 0, .int .u64 0, .int .u64 0, .int .u64 0, .int .u64 0, .int .u64 0] 292 := (by repeat (first | with_reducible exact CellsAt.newAt (by first | rfl | (simp; done) | omega) rfl | with_reducible refine CellsAt.alloc ?_ _ | with_reducible refine CellsAt.drewN ?_ _ | with_reducible refine CellsAt.drew ?_ | with_reducible refine CellsAt.grow ?_ _ | with_reducible refine CellsAt.far ?_ (by first | omega | (simp; done) | (simp; omega)) _))
  have KX : CellsAt ((g2.world.alloc (.cells #[.int .u64 y0, .int .u64 y1, .int .u64 y2, .int .u64 y3, .int .u64 0, .int .u64 0, .int .u64 0, .int .u64 0] 292)).alloc (.cells #[.int .u64 0, .int .u64 0, .int .u64 0, .int .u64 0, .int .u64 0, .int .u64 0, .int .u64 0, .int .u64 0] 292)) g1.world.heap.size #[.int .u64 x0, .int .u64 x1, .int .u64 x2, .int .u64 x3, .int .u64 0, .int .u64 0, .int .u64 0, .int .u64 0] 292 := (by repeat (first | with_reducible exact CellsAt.newAt (by first | rfl | (simp; done) | omega) rfl | with_reducible refine CellsAt.alloc ?_ _ | with_reducible refine CellsAt.drewN ?_ _ | with_reducible refine CellsAt.drew ?_ | with_reducible refine CellsAt.grow ?_ _ | with_reducible refine CellsAt.far ?_ (by first | omega | (simp; done) | (simp; omega)) _))
  have KY : CellsAt ((g2.world.alloc (.cells #[.int .u64 y0, .int .u64 y1, .int .u64 y2, .int .u64 y3, .int .u64 0, .int .u64 0, .int .u64 0, .int .u64 0] 292)).alloc (.cells #[.int .u64 0, .int .u64 0, .int .u64 0, .int .u64 0, .int .u64 0, .int .u64 0, .int .u64 0, .int .u64 0] 292)) g2.world.heap.size #[.int .u64 y0, .int .u64 y1, .int .u64 y2, .int .u64 y3, .int .u64 0, .int .u64 0, .int .u64 0, .int .u64 0] 292 := (by repeat (first | with_reducible exact CellsAt.newAt (by first | rfl | (simp; done) | omega) rfl | with_reducible refine CellsAt.alloc ?_ _ | with_reducible refine CellsAt.drewN ?_ _ | with_reducible refine CellsAt.drew ?_ | with_reducible refine CellsAt.grow ?_ _ | with_reducible refine CellsAt.far ?_ (by first | omega | (simp; done) | (simp; omega)) _))
  have KZ : CellsAt ((g2.world.alloc (.cells #[.int .u64 y0, .int .u64 y1, .int .u64 y2, .int .u64 y3, .int .u64 0, .int .u64 0, .int .u64 0, .int .u64 0] 292)).alloc (.cells #[.int .u64 0, .int .u64 0, .int .u64 0, .int .u64 0, .int .u64 0, .int .u64 0, .int .u64 0, .int .u64 0] 292)) (g2.world.heap.size + 1) (u64s (List.replicate 8 0)) 292 := CellsAt.newAt (by simp) rfl
  have hbel : Below w.heap.size w ((g2.world.alloc (.cells #[.int .u64 y0, .int .u64 y1, .int .u64 y2, .int .u64 y3, .int .u64 0, .int .u64 0, .int .u64 0, .int .u64 0] 292)).alloc (.cells #[.int .u64 0, .int .u64 0, .int .u64 0, .int .u64 0, .int .u64 0, .int .u64 0, .int .u64 0, .int .u64 0] 292)) := (by repeat (first | with_reducible exact Below.refl _ _ | with_reducible refine bel_alloc ?_ _ | with_reducible refine bel_drewN ?_ _ | with_reducible refine bel_drew ?_ | with_reducible refine bel_grow ?_ _ | with_reducible refine bel_set ?_ (by first | omega | (simp; done) | (simp; omega)) _))
  generalize ((g2.world.alloc (.cells #[.int .u64 y0, .int .u64 y1, .int .u64 y2, .int .u64 y3, .int .u64 0, .int .u64 0, .int .u64 0, .int .u64 0] 292)).alloc (.cells #[.int .u64 0, .int .u64 0, .int .u64 0, .int .u64 0, .int .u64 0, .int .u64 0, .int .u64 0, .int .u64 0] 292)) = W0 at *
  have l1 := g1.le
  have l2 := g2.le
  simp at l1 l2
  rw [← HX.out] at KX
  rw [← HY.out] at KY
  have l3 := KZ.lt
  have HKR := Lib.hid KR
  have HKX := Lib.hid KX
  have HKY := Lib.hid KY
  have HKZ := Lib.hid KZ
  have HBL := Lib.hid hbel
  clear KR KX KY KZ hbel HA HB HX HY
  go_wp2
  go_loopw [8] (fun i wr => ∃ (i' : Nat) (zs : List Int), i' ≤ 4 ∧ i = .int .i64 i' ∧ RowAt W0 wr (g2.world.heap.size + 1) zs (i' + 4) ∧ valL zs = A % 65536 ^ i' * B) (fun i _ => 4 - (intOf i).toNat)
  case atStart =>
    refine ⟨0, List.replicate 8 0, by omega, rfl, ⟨HKZ.out, Alter.refl _ _, rfl, fun d hd => by rw [List.eq_of_mem_replicate hd]; omega, fun j hj => ?_⟩, ?_⟩
    · rw [List.getD_eq_getElem?_getD, List.getElem?_replicate]
      split <;> rfl
    · rw [Int.pow_zero, Int.emod_one, Int.zero_mul]; rfl
  case round =>
    obtain ⟨i, zs, hi, rfl, hrow, hval⟩ := hrel
    by_cases hlt : i < 4
    · have hlt' : (i : Int) < 4 := by omega
      have HROW := Lib.hid hrow
      have HVAL := Lib.hid hval
      clear hrow hval
      go_wp2
      go_loopw [9, 10] (fun c k wr => ∃ (k' : Nat) (c' : Int) (zs' : List Int), k' ≤ 4 ∧ k = .int .i64 k' ∧ c = .int .u64 c' ∧ 0 ≤ c' ∧ c' ≤ 65535 ∧ RowAt W0 wr (g2.world.heap.size + 1) zs' (i + 4) ∧ valL zs' + c' * 65536 ^ (i + k') = A % 65536 ^ i * B + A / 65536 ^ i % 65536 * 65536 ^ i * (B % 65536 ^ k')) (fun _ k _ => 4 - (intOf k).toNat)
      case atStart => exact ⟨0, 0, zs, by omega, rfl, rfl, by omega, by omega, HROW.out, by rw [HVAL.out, Int.pow_zero, Int.emod_one]; simp⟩
      case round =>
        clear HROW HVAL
        obtain ⟨k, c, zs, hk, rfl, rfl, c0, c1, hrow, hval⟩ := hrel
        by_cases hkl : k < 4
        · have hkl' : (k : Int) < 4 := by omega
          have ix1 := idx_big g1.world.heap.size i (by omega)
          have ix2 := idx_big g2.world.heap.size k (by omega)
          have ix3 := idx_big (g2.world.heap.size + 1) (i + k) (by omega)
          rw [Int.natCast_add] at ix3
          have hn : i + k < zs.length := by rw [hrow.len]; omega
          have hKX := HKX.out.alter hrow.alt (by omega)
          have hKY := HKY.out.alter hrow.alt (by omega)
          have qz := hrow.blk.at (i + k) (u64s_at hn)
          have qx := hKX.at i (u64s_at (l := digL A 4) (by simp [digL]; omega))
          have qy := hKY.at k (u64s_at (l := digL B 4) (by simp [digL]; omega))
          rw [digL_getD _ hlt] at qx
          rw [digL_getD _ hkl] at qy
          have fz := hrow.blk.froz
          have lz := hrow.blk.lt
          have lx := hKX.lt
          have ly := hKY.lt
          have hz := hrow.dig.getD (i + k)
          have hstep := row_step (y := B / 65536 ^ k % 65536) hn rfl hval
          rw [← digit_next] at hstep
          have X0 : 0 ≤ A / 65536 ^ i % 65536 ∧ A / 65536 ^ i % 65536 ≤ 65535 := by omega
          have Y0 : 0 ≤ B / 65536 ^ k % 65536 ∧ B / 65536 ^ k % 65536 ≤ 65535 := by omega
          generalize A / 65536 ^ i % 65536 = x at *
          generalize B / 65536 ^ k % 65536 = y at *
          generalize zs.getD (i + k) 0 = z at *
          obtain ⟨p0, p1, p2, p3⟩ := row_bd hz.1 hz.2 X0.1 X0.2 Y0.1 Y0.2 c0 c1
          have HST := Lib.hid hstep
          have HROW := Lib.hid hrow
          obtain ⟨X0, X1⟩ := X0
          obtain ⟨Y0, Y1⟩ := Y0
          obtain ⟨z0, z1⟩ := hz
          clear hstep hrow hval hKX hKY hn
          go_wp2
          refine wp_region_grow (by kernel_rfl) (by kernel_rfl) ?_
          repeat (first | go_big_quiet_skip | (go_big_quiet_want; go_big_quiet_op; first | go_big_quiet_on))
          refine wpQuiet_nil ?_
          rintro _ ⟨g3, rfl⟩
          have fz3 : ∀ o, g3.world.frozen? ⟨g2.world.heap.size + 1, o, none⟩ = false := fun o => (g3.froz lz).trans (fz o)
          go_wp2
          go_roundw
          case rel => exact ⟨k + 1, _, _, by omega, by go_num, rfl, p3, p2, (HROW.out.grow g3).put (by omega) (by omega) (by omega), HST.out⟩
          case measure => simp [intOf]; omega
        · obtain rfl : k = 4 := by omega
          have ix3 := idx_big (g2.world.heap.size + 1) (i + 4) (by omega)
          rw [Int.natCast_add] at ix3
          have fz := hrow.blk.froz
          have lz := hrow.blk.lt
          have qz := hrow.blk.at (i + 4) (u64s_at (by rw [hrow.len]; omega))
          have HROW := Lib.hid hrow
          have HVAL := Lib.hid hval
          clear hrow hval
          go_wp2
          go_roundw
          case rel => exact ⟨i + 1, _, by omega, by go_num, (HROW.out.up (by omega)).put c0 c1 (by omega), row_end HROW.out.len hlt (HROW.out.top _ (by omega)) B0 B1 rfl HVAL.out⟩
          case measure => simp [intOf]; omega
    · obtain rfl : i = 4 := by omega
      have hv := prod_end (B := B) A0 A1 hval
      have hl := hrow.len
      have hd := hrow.dig
      have hK := hrow.blk
      obtain ⟨z0, z1, z2, z3, z4, z5, z6, z7, rfl⟩ := eight hl
      have hKR := HKR.out.alter hrow.alt (by omega)
      have hB := HBL.out.trans (hrow.alt.below HBL.out.size fun k hk e => by have e2 : k = g2.world.heap.size + 1 := e; omega)
      have HK : CellsAt wr (g2.world.heap.size + 1) #[.int .u64 z0, .int .u64 z1, .int .u64 z2, .int .u64 z3, .int .u64 z4, .int .u64 z5, .int .u64 z6, .int .u64 z7] 292 := hK
      have kk1 : wr.cell? ⟨(g2.world.heap.size + 1), 0, none⟩ = some (.int .u64 z0) := HK.at 0 rfl
      have kk2 : wr.cell? ⟨(g2.world.heap.size + 1), 1, none⟩ = some (.int .u64 z1) := HK.at 1 rfl
      have kk3 : wr.cell? ⟨(g2.world.heap.size + 1), 2, none⟩ = some (.int .u64 z2) := HK.at 2 rfl
      have kk4 : wr.cell? ⟨(g2.world.heap.size + 1), 3, none⟩ = some (.int .u64 z3) := HK.at 3 rfl
      have kk5 : wr.cell? ⟨(g2.world.heap.size + 1), 4, none⟩ = some (.int .u64 z4) := HK.at 4 rfl
      have kk6 : wr.cell? ⟨(g2.world.heap.size + 1), 5, none⟩ = some (.int .u64 z5) := HK.at 5 rfl
      have kk7 : wr.cell? ⟨(g2.world.heap.size + 1), 6, none⟩ = some (.int .u64 z6) := HK.at 6 rfl
      have kk8 : wr.cell? ⟨(g2.world.heap.size + 1), 7, none⟩ = some (.int .u64 z7) := HK.at 7 rfl
      have kk9 : wr.cell? ⟨w.heap.size, 0, none⟩ = some (.int .u64 0) := hKR.at 0 rfl
      have kk10 : wr.cell? ⟨w.heap.size, 1, none⟩ = some (.int .u64 0) := hKR.at 1 rfl
      have kk11 : wr.cell? ⟨w.heap.size, 2, none⟩ = some (.int .u64 0) := hKR.at 2 rfl
      have kk12 : wr.cell? ⟨w.heap.size, 3, none⟩ = some (.int .u64 0) := hKR.at 3 rfl
      have kk13 : wr.cell? ⟨w.heap.size, 4, none⟩ = some (.int .u64 0) := hKR.at 4 rfl
      have kk14 : wr.cell? ⟨w.heap.size, 5, none⟩ = some (.int .u64 0) := hKR.at 5 rfl
      have kk15 : wr.cell? ⟨w.heap.size, 6, none⟩ = some (.int .u64 0) := hKR.at 6 rfl
      have kk16 : wr.cell? ⟨w.heap.size, 7, none⟩ = some (.int .u64 0) := hKR.at 7 rfl
      have fr : ∀ o, wr.frozen? ⟨w.heap.size, o, none⟩ = false := fun o => hKR.froz o
      have lR := hKR.lt
      have lK := hK.lt
      have HKQ := Lib.hid hKR
      have HBB := Lib.hid hB
      have HV := Lib.hid hv
      have HD := Lib.hid hd
      clear hK HK hKR hB hv hd hrow hval hl
      go_wp2
      refine bodyPost_ret (v := .agg #[.int .u64 z0, .int .u64 z1, .int .u64 z2, .int .u64 z3, .int .u64 z4, .int .u64 z5, .int .u64 z6, .int .u64 z7]) (ret_cells w.heap.size #[.int .u64 z0, .int .u64 z1, .int .u64 z2, .int .u64 z3, .int .u64 z4, .int .u64 z5, .int .u64 z6, .int .u64 z7] 292 ?_ ?_) rfl ⟨_, rfl, rfl, HD.out, HV.out, ?_⟩
      · exact ((((((((HKQ.out.set 0 _).set 1 _).set 2 _).set 3 _).set 4 _).set 5 _).set 6 _).set 7 _).eq (by simp)
      · intro W K
        have kk17 : W.cell? ⟨w.heap.size, 0, none⟩ = some (.int .u64 z0) := K.at 0 rfl
        have kk18 : W.cell? ⟨w.heap.size, 1, none⟩ = some (.int .u64 z1) := K.at 1 rfl
        have kk19 : W.cell? ⟨w.heap.size, 2, none⟩ = some (.int .u64 z2) := K.at 2 rfl
        have kk20 : W.cell? ⟨w.heap.size, 3, none⟩ = some (.int .u64 z3) := K.at 3 rfl
        have kk21 : W.cell? ⟨w.heap.size, 4, none⟩ = some (.int .u64 z4) := K.at 4 rfl
        have kk22 : W.cell? ⟨w.heap.size, 5, none⟩ = some (.int .u64 z5) := K.at 5 rfl
        have kk23 : W.cell? ⟨w.heap.size, 6, none⟩ = some (.int .u64 z6) := K.at 6 rfl
        have kk24 : W.cell? ⟨w.heap.size, 7, none⟩ = some (.int .u64 z7) := K.at 7 rfl
        simp [results, Tryz.results196, go_sem, *]
      · have hB := HBB.out
        repeat (first | with_reducible exact hB | with_reducible refine bel_set ?_ (by first | omega | (simp; done) | (simp; omega)) _)
end Go.Proofs.YtnhaiecbjipodaaGreatDoor
/- The reference's long division, floor, MulDiv, MulShift. -/
namespace Go.Proofs.YtnhaiecbjipodaaGreatDoor
open Go.RowKit
attribute [local go_sem] Grow.cell Grow.froz Grow.lt lt_s1 lt_s2 lt_s3 lt_s4 lt_s5
theorem pow_half (D : Int) (k : Nat) : D / 2 ^ (k + 1) = D / 2 ^ k / 2 := by
  rw [Int.pow_succ, div_div (Int.pow_nonneg (by omega))]
theorem half_bd {D : Int} (h0 : 0 ≤ D) (h1 : D ≤ 65535) (k : Nat) : 0 ≤ D / 2 ^ k ∧ D / 2 ^ k ≤ 65535 :=
  ⟨Int.ediv_nonneg h0 (Int.pow_nonneg (by omega)), Int.le_trans (Int.ediv_le_self _ h0) h1⟩
set_option maxRecDepth 100000 in
set_option maxHeartbeats 1000000 in
theorem bit_any (z0 z1 z2 z3 z4 z5 z6 z7 : Int) (i : Nat) (w : World) (hi : i < 128) (hd : Digits [z0, z1, z2, z3, z4, z5, z6, z7]) :
    Calls Tryz.prog 218 #[.agg #[.int .u64 z0, .int .u64 z1, .int .u64 z2, .int .u64 z3, .int .u64 z4, .int .u64 z5, .int .u64 z6, .int .u64 z7], .int .i64 (i : Int)] w fun e w' => e = .returned (.int .u64 (valL [z0, z1, z2, z3, z4, z5, z6, z7] / 2 ^ i % 2)) ∧ Below w.heap.size w w' := by
  rw [← bit_of hd i]
  have ix := idx_big w.heap.size (i / 16) (by omega)
  obtain ⟨D, hD⟩ : ∃ D, D = [z0, z1, z2, z3, z4, z5, z6, z7].getD (i / 16) 0 := ⟨_, rfl⟩
  have hb := hd.getD (i / 16)
  have K : CellsAt (w.alloc (.cells #[.int .u64 z0, .int .u64 z1, .int .u64 z2, .int .u64 z3, .int .u64 z4, .int .u64 z5, .int .u64 z6, .int .u64 z7] 292)) w.heap.size (u64s [z0, z1, z2, z3, z4, z5, z6, z7]) 292 := CellsAt.newAt rfl rfl
  have q := K.at (i / 16) (u64s_at (by simp; omega))
  rw [← hD] at q hb ⊢
  have HH := Lib.hid (half_bd hb.1 hb.2)
  obtain ⟨n, hn⟩ : ∃ n, n = i % 16 := ⟨_, rfl⟩
  have hn' : (i : Int) % 16 = (n : Int) := by omega
  have hn2 : (i : Int).tmod 16 = (n : Int) := by rw [Int.tmod_eq_emod_of_nonneg (by omega)]; exact hn'
  have hq2 : (i : Int).tdiv 16 = ((i / 16 : Nat) : Int) := by rw [Int.tdiv_eq_ediv_of_nonneg (by omega)]; rfl
  have hq3 : (i : Int) / 16 = ((i / 16 : Nat) : Int) := rfl
  have ix1 : ∀ w', (Instr.indexAt 290 (.pointer (some ⟨w.heap.size, 0, none⟩)) (.int .i64 ((i : Int) / 16))).run Tryz.prog w' = .ok (.pointer (some ⟨w.heap.size, i / 16, none⟩)) w' := ix
  have ix2 : ∀ w', (Instr.indexAt 290 (.pointer (some ⟨w.heap.size, 0, none⟩)) (.int .i64 ((i : Int).tdiv 16))).run Tryz.prog w' = .ok (.pointer (some ⟨w.heap.size, i / 16, none⟩)) w' := by rw [hq2]; exact ix
  rw [← hn]
  have n16 : n < 16 := by omega
  have HD := Lib.hid hd
  have lK := K.lt
  have HN := Lib.hid hn'
  have HN2 := Lib.hid hn2
  clear ix hD K hd hn hq2 hq3 hn' hn2 hb
  go_enter Tryz.func218, Tryz.ntmps218
  go_wp2
  go_loopw [5, 6] (fun d j wr => ∃ k : Nat, k ≤ n ∧ j = .int .i64 k ∧ d = .int .u64 (D / 2 ^ k) ∧ Below w.heap.size w wr) (fun _ j _ => n - (intOf j).toNat)
  case atStart => exact ⟨0, by omega, rfl, by simp, (by repeat (first | with_reducible exact Below.refl _ _ | with_reducible refine bel_alloc ?_ _ | with_reducible refine bel_drewN ?_ _ | with_reducible refine bel_drew ?_ | with_reducible refine bel_grow ?_ _ | with_reducible refine bel_set ?_ (by first | omega | (simp; done) | (simp; omega)) _))⟩
  case round =>
    obtain ⟨k, hk, rfl, rfl, hB⟩ := hrel
    have hn' := HN.out
    have hn2 := HN2.out
    have HB := Lib.hid hB
    obtain ⟨d0, d1⟩ := HH.out k
    obtain ⟨d, hdd⟩ : ∃ d, d = D / 2 ^ k := ⟨_, rfl⟩
    rw [← hdd] at d0 d1 ⊢
    have HDD := Lib.hid hdd
    clear hdd hB q ix1 ix2 lK
    by_cases hlt : k < n
    · have hlt' : (k : Int) < (n : Int) := by omega
      go_wp2
      go_roundw
      case rel => exact ⟨k + 1, by omega, by go_num, by rw [pow_half, HDD.out], HB.out⟩
      case measure => simp [intOf]; omega
    · obtain rfl : k = n := by omega
      go_wp2
      go_ret
      exact ⟨ret_int (by rw [HDD.out]), HB.out⟩
theorem part_n {N d q r : Int} {s : Bool} {i : Nat} (h : Part N d q r s i) {q' r' : Int} {s' : Bool} (hq : q' = q) (hr : r' = r) (hs : s' = s) : Part N d q' r' s' i := by subst hq hr hs; exact h
set_option maxRecDepth 100000 in
set_option maxHeartbeats 4000000 in
theorem divide_any (z0 z1 z2 z3 z4 z5 z6 z7 d : Int) (w : World) (hd : Digits [z0, z1, z2, z3, z4, z5, z6, z7]) (d0 : 0 < d) (d1 : d ≤ 18446744073709551615) :
    Calls Tryz.prog 195 #[.agg #[.int .u64 z0, .int .u64 z1, .int .u64 z2, .int .u64 z3, .int .u64 z4, .int .u64 z5, .int .u64 z6, .int .u64 z7], .int .u64 d] w fun e w' => ∃ q r s, e = .returned (.tuple #[.int .u64 q, .int .u64 r, .bool s]) ∧ Part (valL [z0, z1, z2, z3, z4, z5, z6, z7]) d q r s 0 ∧ Below w.heap.size w w' := by
  have HBIT := Lib.hid fun i W (hi : i < 128) => bit_any z0 z1 z2 z3 z4 z5 z6 z7 i W hi hd
  have hv := val_bd _ hd
  have K : CellsAt (w.alloc (.cells #[.int .u64 z0, .int .u64 z1, .int .u64 z2, .int .u64 z3, .int .u64 z4, .int .u64 z5, .int .u64 z6, .int .u64 z7] 292)) w.heap.size #[.int .u64 z0, .int .u64 z1, .int .u64 z2, .int .u64 z3, .int .u64 z4, .int .u64 z5, .int .u64 z6, .int .u64 z7] 292 := CellsAt.newAt rfl rfl
  have HK := Lib.hid K
  obtain ⟨N, hN⟩ : ∃ N, N = valL [z0, z1, z2, z3, z4, z5, z6, z7] := ⟨_, rfl⟩
  rw [← hN] at HBIT hv ⊢
  have HS := Lib.hid (part_start hv.1 (by have := hv.2; simpa using this) (d := d))
  have N0 := hv.1
  clear hd hv K hN
  go_enter Tryz.func195, Tryz.ntmps195
  go_wp2
  go_loopw [7, 8, 9, 10] (fun q r s i wr => ∃ (j : Nat) (q' r' : Int) (s' : Bool), j ≤ 128 ∧ i = .int .i64 ((j : Int) - 1) ∧ q = .int .u64 q' ∧ r = .int .u64 r' ∧ s = .bool s' ∧ Part N d q' r' s' j ∧ Below (w.heap.size + 1) (w.alloc (.cells #[.int .u64 z0, .int .u64 z1, .int .u64 z2, .int .u64 z3, .int .u64 z4, .int .u64 z5, .int .u64 z6, .int .u64 z7] 292)) wr) (fun _ _ _ i _ => (intOf i + 1).toNat)
  case atStart => exact ⟨128, 0, 0, true, by omega, rfl, rfl, rfl, rfl, HS.out, Below.refl _ _⟩
  case round =>
    obtain ⟨j, q, r, s, hj, rfl, rfl, rfl, rfl, hP, hB⟩ := hrel
    have HB := Lib.hid hB
    match j with
    | 0 =>
      have HP := Lib.hid hP
      clear hP hB
      have e0 : ((0 : Nat) : Int) - 1 = -1 := rfl
      rw [e0]
      go_wp2
      refine bodyPost_ret (v := .tuple #[.int .u64 q, .int .u64 r, .bool s]) (by simp [results, Tryz.results195, go_sem]) rfl ?_
      exact ⟨_, _, _, rfl, HP.out, (bel_alloc (Below.refl _ _) _).trans (HB.out.mono (Nat.le_succ _))⟩
    | m + 1 =>
      have e1 : ((m + 1 : Nat) : Int) - 1 = (m : Int) := by omega
      rw [e1]
      obtain ⟨r0, r1, q0, q1, hlo, hhi⟩ := part_step N0 d0 hP
      have hm : m < 128 := by omega
      have hKw := HK.out.below hB (by omega)
      have lK := hKw.lt
      have kk1 : wr.cell? ⟨w.heap.size, 0, none⟩ = some (.int .u64 z0) := hKw.at 0 rfl
      have kk2 : wr.cell? ⟨w.heap.size, 1, none⟩ = some (.int .u64 z1) := hKw.at 1 rfl
      have kk3 : wr.cell? ⟨w.heap.size, 2, none⟩ = some (.int .u64 z2) := hKw.at 2 rfl
      have kk4 : wr.cell? ⟨w.heap.size, 3, none⟩ = some (.int .u64 z3) := hKw.at 3 rfl
      have kk5 : wr.cell? ⟨w.heap.size, 4, none⟩ = some (.int .u64 z4) := hKw.at 4 rfl
      have kk6 : wr.cell? ⟨w.heap.size, 5, none⟩ = some (.int .u64 z5) := hKw.at 5 rfl
      have kk7 : wr.cell? ⟨w.heap.size, 6, none⟩ = some (.int .u64 z6) := hKw.at 6 rfl
      have kk8 : wr.cell? ⟨w.heap.size, 7, none⟩ = some (.int .u64 z7) := hKw.at 7 rfl
      have HBT := Lib.hid fun W => HBIT.out m W hm
      have hbb : 0 ≤ N / 2 ^ m % 2 ∧ N / 2 ^ m % 2 ≤ 1 := by omega
      obtain ⟨b, hb⟩ : ∃ b, b = N / 2 ^ m % 2 := ⟨_, rfl⟩
      rw [← hb] at HBT hbb hlo hhi
      obtain ⟨b0, b1⟩ := hbb
      have HLO := Lib.hid hlo
      have HHI := Lib.hid hhi
      have hzw := hB.size
      simp at hzw
      clear hlo hhi hb hP hB hKw e1 HS HBIT
      by_cases ho : 9223372036854775808 ≤ r
      · have ew : IntKind.u64.wrap (2 * r) = 2 * r - 18446744073709551616 := by rw [IntKind.wrap_u64]; omega
        have hge : d ≤ 2 * r + b := by omega
        have ew2 : IntKind.u64.wrap (2 * r - 18446744073709551616 + b - d) = 2 * r + b - d := by rw [IntKind.wrap_u64]; omega
        by_cases hq : 9223372036854775808 ≤ q
        all_goals
          go_wp2_with fail
          refine (HBT.out _).mono ?_
          rintro e w1 ⟨rfl, hb⟩
          obtain ⟨g1, rfl⟩ := Grow.of hb
          clear hb
          go_wp2_with fail
          go_roundw
          case rel => exact ⟨m, _, _, _, by omega, rfl, rfl, rfl, rfl, part_n (HHI.out hge) (by first | rfl | omega | (simp only [IntKind.wrap_u64]; omega)) (by first | rfl | omega | (simp only [IntKind.wrap_u64]; omega)) (by simp [hq]), HB.out.trans (g1.below.mono (by omega))⟩
          case measure => first | (simp [intOf]; done) | (simp [intOf]; omega)
      · by_cases hge : d ≤ 2 * r + b
        all_goals
          by_cases hq : 9223372036854775808 ≤ q
          all_goals
            go_wp2_with fail
            refine (HBT.out _).mono ?_
            rintro e w1 ⟨rfl, hb⟩
            obtain ⟨g1, rfl⟩ := Grow.of hb
            clear hb
            go_wp2_with fail
            go_roundw
            case rel => exact ⟨m, _, _, _, by omega, rfl, rfl, rfl, rfl, part_n (by first | exact HHI.out hge | exact HLO.out (by omega)) (by first | rfl | omega | (simp only [IntKind.wrap_u64]; omega)) (by first | rfl | omega | (simp only [IntKind.wrap_u64]; omega)) (by simp [hq]), HB.out.trans (g1.below.mono (by omega))⟩
            case measure => first | (simp [intOf]; done) | (simp [intOf]; omega)
theorem wrap_mod (n : Int) : wrap64 (n % 18446744073709551616) = wrap64 n := by unfold wrap64; omega
/-- What floor says. -/
def floorV (q r : Int) (s n : Bool) : Int × Bool :=
  if n = false then (wrap64 q, s && decide (q < 9223372036854775808))
  else if 0 < r then (if q = 18446744073709551615 then (0, false) else (wrap64 (-(q + 1)), s && decide (q + 1 ≤ 9223372036854775808)))
  else (wrap64 (-q), s && decide (q ≤ 9223372036854775808))
theorem wrap64_bd (n : Int) : -9223372036854775808 ≤ wrap64 n ∧ wrap64 n ≤ 9223372036854775807 := by unfold wrap64; omega
theorem floorV_bd (q r : Int) (s n : Bool) : -9223372036854775808 ≤ (floorV q r s n).1 ∧ (floorV q r s n).1 ≤ 9223372036854775807 := by
  unfold floorV
  split
  · exact wrap64_bd _
  · split
    · split
      · simp
      · exact wrap64_bd _
    · exact wrap64_bd _
set_option maxHeartbeats 1000000 in
theorem floor01_any (q r : Int) (s n : Bool) (w : World) (q0 : 0 ≤ q) (q1 : q ≤ 18446744073709551615) (r0 : 0 ≤ r) (r1 : r ≤ 18446744073709551615) :
    Calls Tryz.prog 197 #[.int .u64 q, .int .u64 r, .bool s, .bool n] w fun e w' => e = .returned (.tuple #[.int .i64 (floorV q r s n).1, .bool (floorV q r s n).2]) ∧ w' = w := by
  cases n
  · cases s
    all_goals
      go_enter Tryz.func197, Tryz.ntmps197
      go_wp2
      go_ret2
      exact ⟨by simp [floorV], rfl⟩
  · by_cases hr : 0 < r
    · by_cases hq : q = 18446744073709551615
      · have hqb : (q == 18446744073709551615) = true := by simpa using hq
        cases s
        all_goals
          go_enter Tryz.func197, Tryz.ntmps197
          go_wp2
          go_ret2
          exact ⟨by simp [floorV, hr, hq], rfl⟩
      · have hqb : (q == 18446744073709551615) = false := by simpa using hq
        cases s
        all_goals
          go_enter Tryz.func197, Tryz.ntmps197
          go_wp2
          go_ret2
          exact ⟨by simp [floorV, hr, hq, IntKind.wrap_u64, wrap_mod], rfl⟩
    · cases s
      all_goals
        go_enter Tryz.func197, Tryz.ntmps197
        go_wp2
        go_ret2
        exact ⟨by simp [floorV, show ¬ 0 < r by omega, IntKind.wrap_u64, wrap_mod], rfl⟩
theorem floorV_pos {N c q r : Int} {s : Bool} (hN : 0 ≤ N) (hc : 0 < c) (hq : q = N / c % 18446744073709551616) (hs : s = decide (N / c < 18446744073709551616)) (h1 : N / c ≤ 9223372036854775807) : floorV q r s false = (N / c, true) := by
  have h0 := Int.ediv_nonneg hN (show 0 ≤ c by omega)
  have e : q = N / c := by omega
  have e2 : s = true := by rw [hs, decide_eq_true]; omega
  unfold floorV
  rw [if_pos rfl, e, e2, decide_eq_true (by omega), IntWalk.wrap64_in _ ⟨by omega, by omega⟩]
  rfl
theorem floorV_neg {N c q r : Int} {s : Bool} (hN : 0 ≤ N) (hc : 0 < c) (hr : r = N % c) (hq : q = N / c % 18446744073709551616) (hs : s = decide (N / c < 18446744073709551616)) (h1 : -9223372036854775808 ≤ -N / c) : floorV q r s true = (-N / c, true) := by
  have h0 := Int.ediv_nonneg hN (show 0 ≤ c by omega)
  have hn := neg_div (N := N) hc
  rw [← hr] at hn
  rw [hn] at h1 ⊢
  have r0 : 0 ≤ r := by rw [hr]; exact Int.emod_nonneg _ (by omega)
  unfold floorV
  rw [if_neg (by simp)]
  by_cases hp : 0 < r
  · rw [if_pos hp] at h1
    have e : q = N / c := by omega
    have e2 : s = true := by rw [hs, decide_eq_true]; omega
    rw [if_pos hp, if_pos hp, if_neg (by omega), e, e2, decide_eq_true (by omega), IntWalk.wrap64_in _ ⟨by omega, by omega⟩]
    refine Prod.ext ?_ rfl
    show _ = _
    omega
  · rw [if_neg hp] at h1
    have e : q = N / c := by omega
    have e2 : s = true := by rw [hs, decide_eq_true]; omega
    rw [if_neg hp, if_neg hp, e, e2, decide_eq_true (by omega), IntWalk.wrap64_in _ ⟨by omega, by omega⟩]
    refine Prod.ext ?_ rfl
    show _ = _
    omega
theorem product_lit (a b : Int) (w : World) (a0 : -9223372036854775808 ≤ a) (a1 : a ≤ 9223372036854775807) (b0 : -9223372036854775808 ≤ b) (b1 : b ≤ 9223372036854775807) :
    Calls Tryz.prog 196 #[.int .i64 a, .int .i64 b] w fun e w' => ∃ z0 z1 z2 z3 z4 z5 z6 z7, e = .returned (.agg #[.int .u64 z0, .int .u64 z1, .int .u64 z2, .int .u64 z3, .int .u64 z4, .int .u64 z5, .int .u64 z6, .int .u64 z7]) ∧ Digits [z0, z1, z2, z3, z4, z5, z6, z7] ∧ valL [z0, z1, z2, z3, z4, z5, z6, z7] = (a.natAbs : Int) * (b.natAbs : Int) ∧ Below w.heap.size w w' := by
  refine (product_any a b w a0 a1 b0 b1).mono ?_
  rintro e w1 ⟨zs, rfl, hl, hd, hv, hb⟩
  obtain ⟨z0, z1, z2, z3, z4, z5, z6, z7, rfl⟩ := eight hl
  exact ⟨_, _, _, _, _, _, _, _, rfl, hd, hv, hb⟩
/-- What long division of the product says. -/
def Quot (a b d q r : Int) (s : Bool) : Prop := r = (a.natAbs : Int) * (b.natAbs : Int) % d ∧ q = (a.natAbs : Int) * (b.natAbs : Int) / d % 18446744073709551616 ∧ s = decide ((a.natAbs : Int) * (b.natAbs : Int) / d < 18446744073709551616)
/-- The product, divided. -/
theorem prodiv_any (a b d : Int) (w : World) (a0 : -9223372036854775808 ≤ a) (a1 : a ≤ 9223372036854775807) (b0 : -9223372036854775808 ≤ b) (b1 : b ≤ 9223372036854775807) (d0 : 0 < d) (d1 : d ≤ 18446744073709551615) :
    Calls Tryz.prog 196 #[.int .i64 a, .int .i64 b] w fun e w' => ∃ z, e = .returned z ∧ Below w.heap.size w w' ∧ ∀ W, Calls Tryz.prog 195 #[z, .int .u64 d] W fun e W' => ∃ q r s, e = .returned (.tuple #[.int .u64 q, .int .u64 r, .bool s]) ∧ Quot a b d q r s ∧ Below W.heap.size W W' := by
  refine (product_lit a b w a0 a1 b0 b1).mono ?_
  rintro e w1 ⟨z0, z1, z2, z3, z4, z5, z6, z7, rfl, hd, hv, hb⟩
  refine ⟨_, rfl, hb, fun W => (divide_any z0 z1 z2 z3 z4 z5 z6 z7 d W hd d0 d1).mono ?_⟩
  rintro e W' ⟨q, r, s, rfl, hP, hB⟩
  rw [hv] at hP
  exact ⟨q, r, s, rfl, part_end hP, hB⟩
theorem Quot.bd {a b d q r : Int} {s : Bool} (h : Quot a b d q r s) (d0 : 0 < d) (d1 : d ≤ 18446744073709551615) : 0 ≤ q ∧ q ≤ 18446744073709551615 ∧ 0 ≤ r ∧ r ≤ 18446744073709551615 := by
  obtain ⟨hr, hq, _⟩ := h
  have h1 := Int.emod_nonneg ((a.natAbs : Int) * (b.natAbs : Int)) (show d ≠ 0 by omega)
  have h2 := Int.emod_lt_of_pos ((a.natAbs : Int) * (b.natAbs : Int)) d0
  rw [← hr] at h1 h2
  omega
set_option maxHeartbeats 2000000 in
theorem muldiv_any (a b c : Int) (w : World) (a0 : -9223372036854775808 ≤ a) (a1 : a ≤ 9223372036854775807) (b0 : -9223372036854775808 ≤ b) (b1 : b ≤ 9223372036854775807) (c0 : 0 < c) (c1 : c ≤ 9223372036854775807) (h0 : -9223372036854775808 ≤ a * b / c) (h1 : a * b / c ≤ 9223372036854775807) :
    Calls Tryz.prog 168 #[.int .i64 a, .int .i64 b, .int .i64 c] w fun e w' => e = .returned (.tuple #[.int .i64 (a * b / c), .int .i64 0]) ∧ Below w.heap.size w w' := by
  have HP := Lib.hid fun W => prodiv_any a b c W a0 a1 b0 b1 c0 (by omega)
  have hN : 0 ≤ (a.natAbs : Int) * (b.natAbs : Int) := Int.mul_nonneg (by omega) (by omega)
  have hcb : (c == 0) = false := by rw [beq_eq_false_iff_ne]; omega
  have HV : ∀ q r s, Quot a b c q r s → floorV q r s (decide (a < 0) != decide (b < 0)) = (a * b / c, true) := by
    rintro q r s ⟨hr, hq, hs⟩
    rcases abs_mul a b with ⟨e, en⟩ | ⟨e, en⟩
    · rw [e] at hr hq hs hN
      rw [en]
      exact floorV_pos hN c0 hq hs h1
    · rw [en]
      have e2 : a * b = -((a.natAbs : Int) * (b.natAbs : Int)) := by omega
      rw [e2] at h0 ⊢
      exact floorV_neg hN c0 hr hq hs h0
  have HV := Lib.hid HV
  obtain ⟨x, hx⟩ : ∃ x, x = a * b / c := ⟨_, rfl⟩
  rw [← hx] at HV ⊢
  clear hx h0 h1 hN
  have dc : decide (c < 0) = false := decide_eq_false (by omega)
  cases da : decide (a < 0)
  all_goals
    cases db : decide (b < 0)
    all_goals
      rw [da, db] at HV
      go_enter Tryz.func168, Tryz.ntmps168
      go_wp2_with fail
      refine (HP.out _).mono ?_
      rintro e w1 ⟨z, rfl, hb1, HD⟩
      obtain ⟨g1, rfl⟩ := Grow.of hb1
      have HD := Lib.hid HD
      clear hb1
      go_wp2_with fail
      refine (HD.out _).mono ?_
      rintro e w1 ⟨q, r, s, rfl, hq, hb1⟩
      obtain ⟨g2, rfl⟩ := Grow.of hb1
      have hv := HV.out q r s hq
      obtain ⟨q0, q1, r0, r1⟩ := hq.bd c0 (by omega)
      have HFL := Lib.hid fun n W => floor01_any q r s n W q0 q1 r0 r1
      simp only [bne_self_eq_false, Bool.bne_true, Bool.bne_false, Bool.not_false] at hv
      have HVV := Lib.hid hv
      clear hb1 hq hv q0 q1 r0 r1
      go_wp2_with fail
      refine (HFL.out _ _).mono ?_
      rintro e w1 ⟨rfl, rfl⟩
      rw [HVV.out]
      go_wp2_with fail
      go_ret2
      exact ⟨rfl, (by repeat (first | with_reducible exact Below.refl _ _ | with_reducible refine bel_alloc ?_ _ | with_reducible refine bel_drewN ?_ _ | with_reducible refine bel_drew ?_ | with_reducible refine bel_grow ?_ _ | with_reducible refine bel_set ?_ (by first | omega | (simp; done) | (simp; omega)) _))⟩
set_option maxHeartbeats 2000000 in
theorem mulshift_lax (a b : Int) (w : World) (a0 : -9223372036854775808 ≤ a) (a1 : a ≤ 9223372036854775807) (b0 : -9223372036854775808 ≤ b) (b1 : b ≤ 9223372036854775807) :
    Calls Tryz.prog 217 #[.int .i64 a, .int .i64 b, .int .i64 16] w fun e w' => ∃ x y, e = .returned (.tuple #[.int .i64 x, .int .i64 y]) ∧ (-9223372036854775808 ≤ x ∧ x ≤ 9223372036854775807) ∧ Below w.heap.size w w' := by
  have HP := Lib.hid fun W => prodiv_any a b 65536 W a0 a1 b0 b1 (by omega) (by omega)
  go_enter Tryz.func217, Tryz.ntmps217
  go_wp2_with fail
  go_loopw [8, 9] (fun d i wr => ∃ k : Nat, k ≤ 16 ∧ i = .int .i64 k ∧ d = .int .u64 (2 ^ k) ∧ wr = w) (fun _ i _ => 16 - (intOf i).toNat)
  case atStart => exact ⟨0, by omega, rfl, rfl, rfl⟩
  case round =>
    obtain ⟨k, hk, rfl, rfl, rfl⟩ := hrel
    by_cases hlt : k < 16
    · have hlt' : (k : Int) < 16 := by omega
      have hp : (2 : Int) ^ (k + 1) = 2 * 2 ^ k := by rw [Int.pow_succ, Int.mul_comm]
      have hp0 : (0 : Int) < 2 ^ k := Int.pow_pos (by omega)
      have hp1 : (2 : Int) ^ k ≤ 32768 := by
        have : ∀ k : Nat, k < 16 → (2 : Int) ^ k ≤ 32768 := by decide
        exact this k hlt
      have HPW := Lib.hid hp
      generalize (2 : Int) ^ k = d at *
      clear hp
      go_wp2_with fail
      go_roundw
      case rel => exact ⟨k + 1, by omega, by go_num, by rw [HPW.out], trivial⟩
      case measure => simp [intOf]; omega
    · obtain rfl : k = 16 := by omega
      have e : ((2 : Int) ^ 16) = 65536 := rfl
      rw [e]
      go_wp2_with fail
      refine (HP.out _).mono ?_
      rintro e w1 ⟨z, rfl, hb1, HD⟩
      obtain ⟨g1, rfl⟩ := Grow.of hb1
      have HD := Lib.hid HD
      clear hb1
      go_wp2_with fail
      refine (HD.out _).mono ?_
      rintro e w1 ⟨q, r, s, rfl, hq, hb1⟩
      obtain ⟨g2, rfl⟩ := Grow.of hb1
      obtain ⟨q0, q1, r0, r1⟩ := hq.bd (by omega) (by omega)
      have HFL := Lib.hid fun n W => floor01_any q r s n W q0 q1 r0 r1
      clear hb1 hq q0 q1 r0 r1
      go_wp2_with fail
      refine (HFL.out _ _).mono ?_
      rintro e w1 ⟨rfl, rfl⟩
      have hvb := fun n => floorV_bd q r s n
      generalize hvv : floorV q r s _ = v
      have hvb : -9223372036854775808 ≤ v.1 ∧ v.1 ≤ 9223372036854775807 := hvv ▸ hvb _
      clear hvv
      obtain ⟨v, f⟩ := v
      cases f
      all_goals
        go_wp2_with fail
        go_ret2
        first
          | exact ⟨_, _, rfl, hvb, (by repeat (first | with_reducible exact Below.refl _ _ | with_reducible refine bel_alloc ?_ _ | with_reducible refine bel_drewN ?_ _ | with_reducible refine bel_drew ?_ | with_reducible refine bel_grow ?_ _ | with_reducible refine bel_set ?_ (by first | omega | (simp; done) | (simp; omega)) _))⟩
          | exact ⟨_, _, rfl, by omega, (by repeat (first | with_reducible exact Below.refl _ _ | with_reducible refine bel_alloc ?_ _ | with_reducible refine bel_drewN ?_ _ | with_reducible refine bel_drew ?_ | with_reducible refine bel_grow ?_ _ | with_reducible refine bel_set ?_ (by first | omega | (simp; done) | (simp; omega)) _))⟩
end Go.Proofs.YtnhaiecbjipodaaGreatDoor
