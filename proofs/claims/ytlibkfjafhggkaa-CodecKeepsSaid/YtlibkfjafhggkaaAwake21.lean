/- The contract of the law's awake, and what the laws on codec share. -/
import Derived.Test.YtlibkfjafhggkaaRefDec
import Derived.Test.YtlibkfjafhggkaaSameB
namespace Go.Proofs.Ytlibkfjafhggkaa
open Go.RowKit
attribute [local go_sem] Grow.cell Grow.froz Grow.lt

def vB : Body := ⟨4294967294, 65536, 0, 0, 0, 0, -2, 258, 0, 0⟩
def zB : Body := ⟨0, 0, 0, 0, 0, 0, 0, 0, 0, 0⟩
theorem enc_nil : encL [] = ([66, 73, 76, 49, 0, 0, 0, 0], 0) := by decide +kernel
theorem enc_vb : encL [vB] = (bytesL [vB], 0) := by decide +kernel
theorem dec_vb : decL (bytesL [vB]) = ([vB], 0) := by decide +kernel
theorem dec_half : decL ((bytesL [vB]).take 24) = ([], 13) := by decide +kernel
theorem enc_zb : encL [zB] = ([], 4) := by decide +kernel
theorem RB.take {w : World} {A : Option Addr} {n c : Nat} {l : List Int} (h : RB w (.slice A n c) l) (m : Nat) (hm : m ≤ n) : RB w (.slice A m c) (l.take m) := by
  obtain ⟨h1, h2, A', c', e, h3, h4, h5⟩ := h
  simp only [Value.slice.injEq] at e
  obtain ⟨rfl, rfl, rfl⟩ := e
  have hl : (l.take m).length = m := by rw [List.length_take]; omega
  refine ⟨by omega, fun a ha => h2 a (List.mem_of_mem_take ha), A, c, by rw [hl], by omega, h4, fun i a ha => ?_⟩
  have hi : i < m := by have := (List.getElem?_eq_some_iff.1 ha).1; omega
  rw [List.getElem?_take_of_lt hi] at ha
  exact h5 i a ha
theorem reads_block {w : World} {cs : Array Value} {x : Body} (hcs : cs.toList = bodyE.cells x) (fr : Nat × Nat) : Reads bodyE (w.alloc (.cells cs 46 fr)) (.slice (some ⟨w.heap.size, 0, none⟩) 1 1) [x] := by
  refine ⟨by simp, some ⟨w.heap.size, 0, none⟩, 1, rfl, fun i a ha => ?_⟩
  have hi : i = 0 := by have := (List.getElem?_eq_some_iff.1 ha).1; simp at this; exact this
  subst hi
  obtain rfl : x = a := by simpa using ha
  refine ⟨w.heap.size, 0, rfl, fun j u hu => ?_⟩
  have hc := heap_alloc_new w (.cells cs 46 fr)
  unfold World.cell?
  rw [hc]
  simp only [Nat.zero_mul, Nat.zero_add]
  rw [← hcs] at hu
  simpa using hu
theorem rb_block {w : World} (l : List Int) (hf : ∀ a ∈ l, 0 ≤ a ∧ a ≤ 255) (hn : l.length ≤ 1000000) : RB (w.alloc (.cells (l.map (Value.int .u8)).toArray byteT)) (.slice (some ⟨w.heap.size, 0, none⟩) l.length l.length) l := by
  refine ⟨by omega, hf, _, _, rfl, Nat.le_refl _, by unfold maxLen; omega, fun i a ha => ⟨w.heap.size, 0, rfl, ?_⟩⟩
  have hc := heap_alloc_new w (.cells (l.map (Value.int .u8)).toArray byteT)
  unfold World.cell?
  rw [hc]
  simp [ha]
theorem fit_vb : ∀ b ∈ [vB], b.Fit := by
  intro b hb
  obtain rfl : b = vB := by simpa using hb
  constructor <;> first | (unfold I32; decide) | decide
theorem fit_zb : ∀ b ∈ [zB], b.Fit := by
  intro b hb
  obtain rfl : b = zB := by simpa using hb
  constructor <;> first | (unfold I32; decide) | decide

set_option maxHeartbeats 4000000 in
set_option maxRecDepth 100000 in
theorem awake21_any (w : World) : Calls Try.prog 8 #[] w fun e w' => e = .returned (.bool true) ∧ Below w.heap.size w w' := by
  go_enter Try.func8, Try.ntmps8
  go_wp2_with fail
  refine (encode_any _ [] _ (Reads.none _ _) (by simp)).mono ?_
  rintro e w1 ⟨v1, he, hr, hb⟩
  rw [enc_nil] at he hr
  subst he
  obtain ⟨g1, rfl⟩ := Grow.of hb
  have R1 := Lib.hid (hr.reads (by decide))
  clear hb hr
  go_wp2_with fail
  refine (encode_any _ [vB] _ (reads_block rfl (0, 0)) fit_vb).mono ?_
  rintro e w1 ⟨v2, he, hr, hb⟩
  rw [enc_vb] at he hr
  subst he
  obtain ⟨g2, rfl⟩ := Grow.of hb
  have V2 := Lib.hid ((reads_block (w := g1.world) (x := vB) rfl (0, 0)).grow g2)
  have R2 := Lib.hid ((R1.out.alloc _).grow g2)
  have B2 := Lib.hid (hr.reads (by decide))
  have C2 := Lib.hid (bel_grow (bel_alloc (bel_grow (Below.refl w.heap.size w) g1) (.cells vB.arr 46)) g2)
  clear hb hr R1
  go_wp2_with fail
  refine (decode_any _ _ _ B2.out).mono ?_
  rintro e w1 ⟨v3, he, hr, hb⟩
  rw [dec_vb] at he hr
  subst he
  obtain ⟨g3, rfl⟩ := Grow.of hb
  have V3 := Lib.hid (V2.out.grow g3)
  have R3 := Lib.hid (R2.out.grow g3)
  have B3 := Lib.hid (B2.out.grow g3)
  have W3 := Lib.hid hr
  have C3 := Lib.hid (bel_grow C2.out g3)
  clear hb hr V2 R2 B2 C2
  obtain ⟨A2, c2, b2, o2, hv2, hc2, _⟩ := B3.out.form
  have hlen : (bytesL [vB]).length = 48 := by decide
  rw [hlen] at hv2 hc2
  subst hv2
  have H48 := Lib.hid hlen
  have hc0 : ¬ c2 = 0 := by omega
  have hc24 : (24 : Int) ≤ c2 := by omega
  clear hlen
  go_wp2_with fail
  refine (decode_any _ ((bytesL [vB]).take 24) _ (B3.out.take 24 (by omega))).mono ?_
  rintro e w1 ⟨v4, he, hr, hb⟩
  rw [dec_half] at he
  subst he
  obtain ⟨g4, rfl⟩ := Grow.of hb
  have V4 := Lib.hid (V3.out.grow g4)
  have R4 := Lib.hid (R3.out.grow g4)
  have B4 := Lib.hid (B3.out.grow g4)
  have W4 := Lib.hid (W3.out.grow g4)
  have C4 := Lib.hid (bel_grow C3.out g4)
  clear hb hr V3 R3 B3 W3 C3
  go_wp2_with fail
  refine (encode_any _ [zB] _ (reads_block rfl (0, 0)) fit_zb).mono ?_
  rintro e w1 ⟨v5, he, hr, hb⟩
  rw [enc_zb] at he
  subst he
  obtain ⟨g5, rfl⟩ := Grow.of hb
  have V5 := Lib.hid ((V4.out.alloc _).grow g5)
  have R5 := Lib.hid ((R4.out.alloc _).grow g5)
  have B5 := Lib.hid ((B4.out.alloc _).grow g5)
  have W5 := Lib.hid ((W4.out.alloc _).grow g5)
  have C5 := Lib.hid (bel_grow (bel_alloc C4.out (.cells zB.arr 46)) g5)
  clear hb hr V4 R4 B4 W4 C4
  go_wp2_with fail
  refine (bsame_any _ _ [66, 73, 76, 49, 0, 0, 0, 0] [66, 73, 76, 49, 0, 0, 0, 0] _ (R5.out.alloc _) (rb_block [66, 73, 76, 49, 0, 0, 0, 0] (by decide) (by decide))).mono ?_
  rintro e w1 ⟨he, hb⟩
  rw [decide_eq_true rfl] at he
  subst he
  obtain ⟨g6, rfl⟩ := Grow.of hb
  have V6 := Lib.hid ((V5.out.alloc _).grow g6)
  have B6 := Lib.hid ((B5.out.alloc _).grow g6)
  have W6 := Lib.hid ((W5.out.alloc _).grow g6)
  have C6 := Lib.hid (bel_grow (bel_alloc C5.out (.cells (([66, 73, 76, 49, 0, 0, 0, 0] : List Int).map (Value.int .u8)).toArray byteT)) g6)
  clear hb R5 V5 B5 W5 C5
  go_wp2_with fail
  refine (bytes_any _ [vB] _ V6.out fit_vb (by decide)).mono ?_
  rintro e w1 ⟨v6, rfl, hr, hb⟩
  obtain ⟨g7, rfl⟩ := Grow.of hb
  have V7 := Lib.hid (V6.out.grow g7)
  have B7 := Lib.hid (B6.out.grow g7)
  have W7 := Lib.hid (W6.out.grow g7)
  have R7 := Lib.hid (hr.reads (by decide))
  have C7 := Lib.hid (bel_grow C6.out g7)
  clear hb hr V6 B6 W6 C6
  go_wp2_with fail
  refine (bsame_any _ _ _ _ _ B7.out R7.out).mono ?_
  rintro e w1 ⟨he, hb⟩
  rw [decide_eq_true rfl] at he
  subst he
  obtain ⟨g8, rfl⟩ := Grow.of hb
  have V8 := Lib.hid (V7.out.grow g8)
  have W8 := Lib.hid (W7.out.grow g8)
  have C8 := Lib.hid (bel_grow C7.out g8)
  clear hb V7 B7 W7 R7 C7
  go_wp2_with fail
  refine (same_any _ _ _ _ _ W8.out V8.out).mono ?_
  rintro e w1 ⟨he, hb⟩
  rw [decide_eq_true rfl] at he
  subst he
  obtain ⟨g9, rfl⟩ := Grow.of hb
  have C9 := Lib.hid (bel_grow C8.out g9)
  clear hb V8 W8 C8
  go_wp2_with fail
  refine (size_any 1 _ (by decide)).mono ?_
  rintro e w1 ⟨rfl, rfl⟩
  go_wp2_with fail
  go_ret
  exact ⟨rfl, C9.out⟩
end Go.Proofs.Ytlibkfjafhggkaa
