/- The walk of CodecCut. -/
import Derived.Test.YtlibkfjafhggkaaAwake21
import Derived.Test.YtlibkfjafhggkaaCodecPure
import Derived.Test.YtlibkfjafhggkaaCopy
import Derived.Deep.DeepCutAuto
namespace Go.Proofs.Ytlibkfjafhggkaa
open Go.RowKit
attribute [local go_sem] Grow.cell Grow.froz Grow.lt

theorem OB.pos {w : World} {base : Nat} {v : Value} {l : List Int} (h : OB w base v l) (h0 : 0 < l.length) : ∃ g cap, v = .slice (some ⟨g, 0, none⟩) l.length cap ∧ base ≤ g ∧ l.length ≤ cap ∧ g < w.heap.size ∧ (∀ i (hi : i < l.length), w.cell? ⟨g, i, none⟩ = some (.int .u8 l[i])) ∧ (∀ i, w.frozen? ⟨g, i, none⟩ = false) := by
  obtain ⟨hf, hown⟩ := h
  rcases hown.2 with ⟨_, h1⟩ | ⟨g, cap, cur, rfl, hb, hg, hn, hc, hs, ht⟩
  · omega
  · refine ⟨g, cap, rfl, hb, hn, lt_of_block hg, fun i hi => ?_, fun i => by simp [World.frozen?, hg]⟩
    have := World.ownsRow.cells hown (g := g) rfl i (.int .u8 l[i]) (by rw [byte_flat]; simp [hi])
    rwa [show (⟨g, 0, Option.none⟩ : Addr).add i = ⟨g, i, Option.none⟩ from by unfold Addr.add; split <;> simp_all] at this
theorem RB.cellA {w : World} {g n c : Nat} {l : List Int} (h : RB w (.slice (some ⟨g, 0, Option.none⟩) n c) l) : ∀ j u, (l.flatMap byteE.cells)[j]? = some u → w.cell? ((⟨g, 0, Option.none⟩ : Addr).add j) = some u := by
  obtain ⟨_, _, A, c', e, _, _, h5⟩ := h
  simp only [Value.slice.injEq] at e
  obtain ⟨rfl, rfl, rfl⟩ := e
  intro j u hu
  rw [byte_flat, List.getElem?_map] at hu
  obtain ⟨a, ha, rfl⟩ := Option.map_eq_some_iff.1 hu
  obtain ⟨b, off, e, hc⟩ := h5 j a ha
  simp only [Option.some.injEq, Addr.mk.injEq] at e
  obtain ⟨rfl, rfl, _⟩ := e
  rw [show (⟨g, 0, Option.none⟩ : Addr).add j = ⟨g, 0 + j, Option.none⟩ from by unfold Addr.add; split <;> simp_all]
  exact hc
theorem cell_alloc {w : World} {a : Addr} {L : List Value} {o : Obj} (h : ∀ j u, L[j]? = some u → w.cell? (a.add j) = some u) : ∀ j u, L[j]? = some u → (w.alloc o).cell? (a.add j) = some u :=
  fun j u hu => ((new_ok o).cell (World.block_lt_of_cell? w _ (h j u hu))).trans (h j u hu)
theorem ob_set {w : World} {base g cap n i : Nat} {l : List Int} {y : Int} (h : OB w base (.slice (some ⟨g, 0, none⟩) n cap) l) (hn : n = l.length) (hy : 0 ≤ y ∧ y ≤ 255) : OB (w.setCell ⟨g, i, none⟩ (.int .u8 y)) base (.slice (some ⟨g, 0, none⟩) n cap) (l.set i y) := by
  subst hn
  obtain ⟨hf, hown⟩ := h
  refine ⟨fun a ha => (List.mem_or_eq_of_mem_set ha).elim (hf a) (fun e => e ▸ hy), ?_⟩
  rcases hown.2 with ⟨h1, _⟩ | ⟨g', cap', cur, e, hb, hg, hn, hc, hs, ht⟩
  · simp at h1
  · simp only [Value.slice.injEq, Option.some.injEq, Addr.mk.injEq, and_true, true_and] at e
    obtain ⟨rfl, rfl⟩ := e
    unfold Own
    refine ⟨by rw [byte_flat]; simp [byteE], .inr ⟨g, cap, cur.set! i (.int .u8 y), by simp, hb, cells_setOne hg, by simpa using hn, hc, by simpa using hs, ?_⟩⟩
    rw [byte_flat] at ht ⊢
    simp only [byteE, Nat.mul_one, List.length_set] at ht ⊢
    rw [List.map_set, ← ht]
    simp [List.take_set]

set_option maxHeartbeats 1000000 in
set_option maxRecDepth 100000 in
theorem ccut_walk (v : Value) (l : List Body) (aN : Nat) (w : World) (hl : Reads bodyE w v l) (hf : ∀ x ∈ l, x.Fit) (ha : aN ≤ 65535) :
    Calls Try.prog 5 #[v, .int .u16 (aN : Int)] w fun e w' => e = .returned (.bool true) ∧ Below w.heap.size w w' := by
  have q := hl.1
  have HL := Lib.hid hl
  have HF := Lib.hid hf
  obtain ⟨A, c, b1, o1, rfl, _, _⟩ := hl.bodies
  clear hl hf
  by_cases h1 : (100 : Int) < l.length
  · go_enter Try.func5, Try.ntmps5
    go_wp2_with fail
    refine (awake21_any _).mono ?_
    rintro e w1 ⟨rfl, hb⟩
    obtain ⟨g1, rfl⟩ := Grow.of hb
    clear hb
    go_wp2_with fail
    refine (awake21_any _).mono ?_
    rintro e w1 ⟨rfl, hb⟩
    obtain ⟨g2, rfl⟩ := Grow.of hb
    clear hb
    go_wp2
    go_ret
    exact ⟨rfl, bel_grow (bel_grow (Below.refl _ _) g1) g2⟩
  · have h1' : (l.length : Int) ≤ 100 := by omega
    clear h1
    obtain ⟨X, hX⟩ : ∃ X, X = bytesL l := ⟨_, rfl⟩
    have hxl : X.length = 8 + l.length * 40 := by rw [hX]; exact bytesL_len l
    obtain ⟨k, hk⟩ : ∃ k, k = aN % X.length := ⟨_, rfl⟩
    have hkl : k < X.length := by rw [hk]; exact Nat.mod_lt _ (by omega)
    have hd1 : (decL (X.take k)) = ([], 13) := dec_bad (by rw [hX]; exact well_take l (by rw [← hX]; exact hkl))
    have hd2 : (decL (X ++ [0])) = ([], 13) := dec_bad (by rw [hX]; exact well_more l)
    obtain ⟨i, hi⟩ : ∃ i, i = k % 4 := ⟨_, rfl⟩
    have hi4 : i < 4 := by omega
    have hfx : ∀ a ∈ X, 0 ≤ a ∧ a ≤ 255 := by rw [hX]; exact bytes_fit HF.out (by omega)
    have hil : 4 + i < X.length := by omega
    obtain ⟨x0, hx0⟩ : ∃ x0, x0 = X[4 + i] := ⟨_, rfl⟩
    have hxr : 0 ≤ x0 ∧ x0 ≤ 255 := by rw [hx0]; exact hfx _ (List.getElem_mem _)
    have hd3 : decL (X.set (4 + i) ((x0 + 1) % 256)) = ([], 13) := dec_bad (by
      have hb0 : x0 = byteAt (bytesL l) (4 + i) := by rw [hx0, byteAt_get, hX]
      rw [hX]; exact well_set l hi4 (by rw [← hb0]; omega) (by rw [← hX]; exact hfx))
    obtain ⟨D, e4, hd4⟩ : ∃ D e4, decL X = (D, e4) ∧ checkL l = e4 := by
      rw [hX, dec_bytes HF.out]
      by_cases hc : checkL l = 0
      · exact ⟨l, 0, by rw [if_pos hc], hc⟩
      · exact ⟨[], checkL l, by rw [if_neg hc], rfl⟩
    have D1 := Lib.hid hd1
    have D2 := Lib.hid hd2
    have D3 := Lib.hid hd3
    have D4 := Lib.hid hd4
    have HX := Lib.hid hX
    have FX := Lib.hid hfx
    have HX0 := Lib.hid hx0
    have hkz : (aN : Int) % (X.length : Int) = (k : Int) := by rw [hk]; omega
    have hiz : (k : Int) % 4 = (i : Int) := by omega
    have hxp : (0 : Int) < X.length := by omega
    have hx8 : 8 ≤ X.length := by omega
    have hxb : (X.length : Int) ≤ 10000 := by omega
    obtain ⟨x00, x01⟩ := hxr
    clear hd1 hd2 hd3 hd4 hX hfx hx0 hk hi hxl
    go_enter Try.func5, Try.ntmps5
    go_wp2_with fail
    refine (awake21_any _).mono ?_
    rintro e w1 ⟨rfl, hb⟩
    obtain ⟨g1, rfl⟩ := Grow.of hb
    clear hb
    go_wp2_with fail
    refine (bytes_any _ l _ (by exact HL.out.grow g1) HF.out (by omega)).mono ?_
    rintro e w1 ⟨v1, rfl, hr, hb⟩
    rw [← HX.out] at hr
    obtain ⟨g2, rfl⟩ := Grow.of hb
    have R2 := Lib.hid (hr.reads (by omega))
    obtain ⟨g, cap, rfl, _, hcap, _, _, _⟩ := hr.pos (by omega)
    have hc0 : ¬ cap = 0 := by omega
    have hkc : (k : Int) ≤ cap := by omega
    clear hb hr
    go_wp2_with fail
    refine (decode_any _ (X.take k) _ (R2.out.take k (by omega))).mono ?_
    rintro e w1 ⟨v3, he, hr, hb⟩
    rw [D1.out] at he
    subst he
    obtain ⟨g3, rfl⟩ := Grow.of hb
    have R3 := Lib.hid (R2.out.grow g3)
    have L3 := Lib.hid (((HL.out.grow g1).grow g2).grow g3)
    have C3 := Lib.hid (bel_grow (bel_grow (bel_grow (Below.refl w.heap.size w) g1) g2) g3)
    clear hb hr R2
    have CA := Lib.hid R3.out.cellA
    have L3' := Lib.hid (heap_alloc_new g3.world (.cells #[] byteT))
    have z3 : g3.world.heap.size ≤ g3.world.heap.size + 1 := by omega
    go_wp2_with (first
      | (at_builtin; refine copy_law byteE g3.world.heap.size rfl (.tmp 39) (.tmp 40) 23 byteT (.int .u8 0) 1 (by rfl) Try.underlying23 byte_info rfl (by decide) g3.world.heap.size L3'.out (Nat.le_refl _) X (some ⟨g, 0, none⟩) cap rfl rfl (fun _ => ⟨_, rfl, cell_alloc CA.out⟩) (by omega) ?_; intro v4 g4 O4)
      | (at_builtin; refine bytes_append g3.world.heap.size (w0 := g3.world) rfl (.tmp 41) (.tmp 42) rfl v4 X [0] rfl ⟨g4.world.heap.size, 0, none⟩ 1 rfl (by decide) (by decide) (new_bytes _ _) ((show OB g4.world g3.world.heap.size v4 X from ⟨FX.out, O4⟩).below (new_ok _)).of (bel_alloc (bel_grow (new_ok (.cells #[] byteT)) g4) _) (by have := (bel_alloc (bel_grow (new_ok (.cells #[] byteT)) g4) (.cells #[] byteT)).size; simp at this ⊢; omega) (by simp; omega) ?_; intro v5 w5 O5 B5 z5 y5))
    obtain ⟨g5, rfl⟩ := Grow.of B5
    have R5 := Lib.hid (R3.out.grow g5)
    have L5 := Lib.hid (L3.out.grow g5)
    have C5 := Lib.hid (bel_grow C3.out g5)
    have P5 := Lib.hid (O5.reads (by simp; omega))
    clear B5 z5 y5 O5 O4 R3 L3 C3 CA L3' z3
    refine (decode_any _ (X ++ [0]) _ P5.out).mono ?_
    rintro e w1 ⟨v6, he, hr, hb⟩
    rw [D2.out] at he
    subst he
    obtain ⟨g6, rfl⟩ := Grow.of hb
    have R6 := Lib.hid (R5.out.grow g6)
    have L6 := Lib.hid (L5.out.grow g6)
    have C6 := Lib.hid (bel_grow C5.out g6)
    clear hb hr R5 L5 C5 P5
    have CA := Lib.hid R6.out.cellA
    have L6' := Lib.hid (heap_alloc_new g6.world (.cells #[] byteT))
    go_upto_region 8 with (at_builtin; refine copy_law byteE g6.world.heap.size rfl (.tmp 47) (.tmp 48) 23 byteT (.int .u8 0) 1 (by rfl) Try.underlying23 byte_info rfl (by decide) g6.world.heap.size L6'.out (Nat.le_refl _) X (some ⟨g, 0, none⟩) cap rfl rfl (fun _ => ⟨_, rfl, cell_alloc CA.out⟩) (by omega) ?_; intro v7 g7 O7)
    have O7 : OB g7.world g6.world.heap.size v7 X := ⟨FX.out, O7⟩
    obtain ⟨p, cp, rfl, hpb, hpc, hpl, hpx, hpf⟩ := O7.pos (by omega)
    have hcell : g7.world.cell? ⟨p, 4 + i, none⟩ = some (.int .u8 x0) := by rw [hpx (4 + i) hil, HX0.out]
    have hfroz := hpf (4 + i)
    have B7 : Below g6.world.heap.size g6.world g7.world := bel_grow (new_ok _) g7
    have BS := Lib.hid (B7.setCell hpb (p := ⟨p, 4 + i, none⟩) (.int .u8 ((x0 + 1) % 256)))
    have OS := Lib.hid (ob_set (i := 4 + i) O7 rfl (show 0 ≤ (x0 + 1) % 256 ∧ (x0 + 1) % 256 ≤ 255 by omega))
    have i0 : (0 : Int) ≤ 4 + (i : Int) := by omega
    have i1 : 4 + (i : Int) < X.length := by omega
    have i2 : (4 + (i : Int)).toNat = 4 + i := by omega
    clear O7 B7 hpx hpf CA L6' hpb
    go_wp2_with fail
    obtain ⟨W8, hW8⟩ : ∃ W8, W8 = g7.world.setCell ⟨p, 4 + i, none⟩ (.int .u8 ((x0 + 1) % 256)) := ⟨_, rfl⟩
    have BS8 := BS.out
    have OS8 := OS.out
    rw [← hW8] at BS8 OS8
    rw [← hW8]
    have R7 := Lib.hid (OS8.reads (by simp; omega))
    obtain ⟨g8, rfl⟩ := Grow.of BS8
    have R8 := Lib.hid (R6.out.grow g8)
    have L8 := Lib.hid (L6.out.grow g8)
    have C8 := Lib.hid (bel_grow C6.out g8)
    clear hW8 BS8 OS8 BS OS R6 L6 C6 hcell hfroz hpl i0 i1 i2
    refine (decode_any _ (X.set (4 + i) ((x0 + 1) % 256)) _ R7.out).mono ?_
    rintro e w1 ⟨v9, he, hr, hb⟩
    rw [D3.out] at he
    subst he
    obtain ⟨g9, rfl⟩ := Grow.of hb
    have R9 := Lib.hid (R8.out.grow g9)
    have L9 := Lib.hid (L8.out.grow g9)
    have C9 := Lib.hid (bel_grow C8.out g9)
    clear hb hr R8 L8 C8 R7
    go_wp2_with fail
    refine (decode_any _ X _ R9.out).mono ?_
    rintro e w1 ⟨v10, he, hr, hb⟩
    rw [D4.out.1] at he
    subst he
    obtain ⟨g10, rfl⟩ := Grow.of hb
    have L10 := Lib.hid (L9.out.grow g10)
    have C10 := Lib.hid (bel_grow C9.out g10)
    clear hb hr R9 L9 C9
    go_wp2_with fail
    refine (refCheck7_any _ l _ L10.out).mono ?_
    rintro e w1 ⟨he, hb⟩
    rw [D4.out.2] at he
    subst he
    obtain ⟨g11, rfl⟩ := Grow.of hb
    clear hb L10
    go_wp2
    go_ret
    exact ⟨rfl, bel_grow C10.out g11⟩
theorem codecCut_all (w : World) (v0 : Value) (l0 : List Body) (s0 : Reads bodyE w v0 l0) (f0 : ∀ b ∈ l0, b.Fit) (_ : l0.length * 40 ≤ 140737488351232) (a : Int) (ha : (Lit.int IntKind.u16 a).wf = true) :
    Calls Try.prog 5 #[v0, .int .u16 a] w fun e w' => e = .returned (.bool true) ∧ Below w.heap.size w w' := by
  have h0 : IntKind.u16.min ≤ a ∧ a ≤ IntKind.u16.max := by simpa [Lit.wf] using ha
  have h1 : 0 ≤ a ∧ a ≤ 65535 := h0
  obtain ⟨n, rfl⟩ := Int.eq_ofNat_of_zero_le h1.1
  exact ccut_walk v0 l0 n w s0 f0 (by omega)
end Go.Proofs.Ytlibkfjafhggkaa
