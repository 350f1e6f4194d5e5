/- The contract of codec.Decode. -/
import Derived.Test.YtlibkfjafhggkaaEnc
import Derived.Laws.BytesArg
import Derived.ChangeKeysEq
import Derived.WalkSpells
namespace Go.Proofs.Ytlibkfjafhggkaa
open Go.RowKit
attribute [local go_sem] Grow.cell Grow.froz Grow.lt

theorem bodyInfo : (Try.prog.info? 46).map (fun i => (i.zero, i.size, i.bytes)) = some (some (.agg #[.int .u32 0, .int .i32 0, .int .i32 0, .int .i32 0, .int .i32 0, .int .i32 0, .int .i32 0, .int .i32 0, .int .i32 0, .int .i32 0]), 10, 40) := by kernel_rfl
def byteAt (b : List Int) (i : Nat) : Int := b.getD i 0
def numAt (b : List Int) (i : Nat) : Int := num4 (byteAt b i) (byteAt b (i + 1)) (byteAt b (i + 2)) (byteAt b (i + 3))
def magicL : List Int := [66, 73, 76, 49]
def wellB (b : List Int) : Bool := decide (8 ≤ b.length) && (decide (b.take 4 = magicL) && decide ((b.length : Int) = 8 + numAt b 4 * 40))
def bodyAt (b : List Int) (p : Nat) : Body := bodyOf (numAt b p) (numAt b (p + 4)) (numAt b (p + 8)) (numAt b (p + 12)) (numAt b (p + 16)) (numAt b (p + 20)) (numAt b (p + 24)) (numAt b (p + 28)) (numAt b (p + 32)) (numAt b (p + 36))
def rowsL (b : List Int) (n : Nat) : List Body := (List.range n).map fun i => bodyAt b (8 + i * 40)
def decL (b : List Int) : List Body × Int :=
  if wellB b = true then (if checkL (rowsL b ((b.length - 8) / 40)) ≠ 0 then ([], checkL (rowsL b ((b.length - 8) / 40))) else (rowsL b ((b.length - 8) / 40), 0)) else ([], 13)
theorem dec_bad {b : List Int} (h : wellB b = false) : decL b = ([], 13) := by unfold decL; rw [if_neg (by simp [h])]

theorem dec_ok {b : List Int} (h : wellB b = true) (he : checkL (rowsL b ((b.length - 8) / 40)) = 0) : decL b = (rowsL b ((b.length - 8) / 40), 0) := by unfold decL; rw [if_pos h, if_neg (by simpa using he)]
theorem dec_err {b : List Int} (h : wellB b = true) (he : ¬ checkL (rowsL b ((b.length - 8) / 40)) = 0) : decL b = ([], checkL (rowsL b ((b.length - 8) / 40))) := by unfold decL; rw [if_pos h, if_pos he]
theorem rows_succ (b : List Int) (k : Nat) : rowsL b (k + 1) = rowsL b k ++ [bodyAt b (8 + k * 40)] := by
  unfold rowsL
  rw [List.range_succ, List.map_append]; rfl
theorem u8_of {a : Int} (h : 0 ≤ a ∧ a ≤ 255) : ((UInt8.ofNat a.toNat).toNat : Int) = a := by
  have : a.toNat % 256 = a.toNat := by omega
  simp [UInt8.toNat_ofNat', this]; omega
theorem str_inj : ∀ {l m : List Int}, (∀ a ∈ l, 0 ≤ a ∧ a ≤ 255) → (∀ a ∈ m, 0 ≤ a ∧ a ≤ 255) → (l.map fun n => UInt8.ofNat n.toNat) = (m.map fun n => UInt8.ofNat n.toNat) → l = m
  | [], [], _, _, _ => rfl
  | [], b :: m, _, _, h => by simp at h
  | a :: l, [], _, _, h => by simp at h
  | a :: l, b :: m, hl, hm, h => by
    simp only [List.map_cons, List.cons.injEq] at h
    have h1 := u8_of (hl a (by simp))
    have h2 := u8_of (hm b (by simp))
    rw [h.1, h2] at h1
    rw [h1, str_inj (fun x hx => hl x (by simp [hx])) (fun x hx => hm x (by simp [hx])) h.2]
theorem magic_str : strOfNums magicL = ⟨#[66, 73, 76, 49]⟩ := rfl
theorem magic_ne {l : List Int} (hl : ∀ a ∈ l, 0 ≤ a ∧ a ≤ 255) (h : l ≠ magicL) : strOfNums l ≠ ⟨#[66, 73, 76, 49]⟩ := fun e => h (by
  rw [← magic_str] at e
  have e' := congrArg (fun s : ByteArray => s.data.toList) e
  exact str_inj hl magic_fit e')
theorem magic_list {s : ByteArray} (h : s ≠ ⟨#[66, 73, 76, 49]⟩) : (s.toList == [66, 73, 76, 49]) = false := by
  rw [beq_eq_false_iff_ne]
  intro e
  apply h
  rw [ByteArray.toList_eq] at e
  rcases s with ⟨d⟩
  congr 1
  exact Array.toList_inj.1 (by simpa using e)
theorem magic_run {w : World} {b : List Int} {b1 o1 c : Nat} (h : 8 ≤ b.length) (hx : ∀ i (hi : i < b.length), w.cell? ⟨b1, o1 + i, none⟩ = some (.int .u8 b[i])) :
    (convert 23 9 (.slice (some ⟨b1, o1, none⟩) 4 c)).run Try.prog w = .ok (.string (strOfNums (b.take 4))) w :=
  run_convert_bytes_arg w 23 5 Try.underlying23 Try.underlying5 b1 o1 4 c (b.take 4) (by rw [List.length_take]; omega) (fun i hi => by
    rw [hx i (by omega)]
    simp [List.getD, hi, show i < b.length by omega]) 9 Try.underlying9
def cellU (f : Nat → Int) (m j : Nat) : Value := .int .u32 (if j < m then f j else 0)
/-- Ten numbers, of which the first m are set. -/
def uptoA (f : Nat → Int) (m : Nat) : Array Value := #[cellU f m 0, cellU f m 1, cellU f m 2, cellU f m 3, cellU f m 4, cellU f m 5, cellU f m 6, cellU f m 7, cellU f m 8, cellU f m 9]
theorem cells_setOne {w : World} {b o : Nat} {cs : Array Value} {u : Value} {t : TypeId} (h : w.heap[b]? = some (.cells cs t (0, 0))) : (w.setCell ⟨b, o, none⟩ u).heap[b]? = some (.cells (cs.set! o u) t (0, 0)) := by
  have hlt := lt_of_block h
  have h' : w.heap[b] = .cells cs t (0, 0) := by simpa [Array.getElem?_eq_getElem hlt] using h
  show (w.heap.modify b _)[b]? = _
  rw [Array.getElem?_eq_getElem (by simpa using hlt), Array.getElem_modify_self, h']
  rfl
theorem upto_at (f : Nat → Int) {m : Nat} (h : m < 10) : (uptoA f m)[m]? = some (.int .u32 0) := by
  obtain rfl | rfl | rfl | rfl | rfl | rfl | rfl | rfl | rfl | rfl : m = 0 ∨ m = 1 ∨ m = 2 ∨ m = 3 ∨ m = 4 ∨ m = 5 ∨ m = 6 ∨ m = 7 ∨ m = 8 ∨ m = 9 := by omega
  all_goals rfl
theorem upto_set (f : Nat → Int) {m : Nat} (h : m < 10) : (uptoA f m).set! m (.int .u32 (f m)) = uptoA f (m + 1) := by
  obtain rfl | rfl | rfl | rfl | rfl | rfl | rfl | rfl | rfl | rfl : m = 0 ∨ m = 1 ∨ m = 2 ∨ m = 3 ∨ m = 4 ∨ m = 5 ∨ m = 6 ∨ m = 7 ∨ m = 8 ∨ m = 9 := by omega
  all_goals rfl
theorem byteAt_get {b : List Int} {i : Nat} (h : i < b.length) : b[i] = byteAt b i := by simp [byteAt, List.getD, h]
theorem byteAt_fit {b : List Int} (hf : ∀ a ∈ b, 0 ≤ a ∧ a ≤ 255) (i : Nat) : 0 ≤ byteAt b i ∧ byteAt b i ≤ 255 := by
  by_cases h : i < b.length
  · rw [← byteAt_get h]; exact hf _ (List.getElem_mem h)
  · simp [byteAt, List.getD, List.getElem?_eq_none (by omega : b.length ≤ i)]
theorem numAt_range {b : List Int} (hf : ∀ a ∈ b, 0 ≤ a ∧ a ≤ 255) (i : Nat) : 0 ≤ numAt b i ∧ numAt b i ≤ 4294967295 := by
  have h0 := byteAt_fit hf i
  have h1 := byteAt_fit hf (i + 1)
  have h2 := byteAt_fit hf (i + 2)
  have h3 := byteAt_fit hf (i + 3)
  unfold numAt num4; omega
/-- Four bytes at a place, read by get. -/
theorem get4 {w : World} {b : List Int} {b1 o c n p : Nat} (hx : ∀ i (hi : i < b.length), w.cell? ⟨b1, o + i, none⟩ = some (.int .u8 b[i])) (hf : ∀ a ∈ b, 0 ≤ a ∧ a ≤ 255) (hp : p + 4 ≤ b.length) (hn : 4 ≤ n) (w' : World) (hw : ∀ o, w'.cell? ⟨b1, o, none⟩ = w.cell? ⟨b1, o, none⟩ := by intro; rfl) :
    Calls Try.prog 21 #[.slice (some ⟨b1, o + p, none⟩) n c] w' fun e w'' => e = .returned (.int .u32 (numAt b p)) ∧ ∃ k, w'' = w'.drewN k :=
  get_any b1 (o + p) n c _ _ _ _ w' hn (byteAt_fit hf _) (byteAt_fit hf _) (byteAt_fit hf _) (byteAt_fit hf _)
    ((hw _).trans (by rw [hx p (by omega), byteAt_get])) ((hw _).trans (by rw [Nat.add_assoc, hx (p + 1) (by omega), byteAt_get])) ((hw _).trans (by rw [Nat.add_assoc, hx (p + 2) (by omega), byteAt_get])) ((hw _).trans (by rw [Nat.add_assoc, hx (p + 3) (by omega), byteAt_get]))
set_option maxHeartbeats 4000000 in
set_option maxRecDepth 100000 in
theorem decode_any (v : Value) (b : List Int) (w : World) (hb : RB w v b) :
    Calls Try.prog 11 #[v] w fun e w' => ∃ v', e = .returned (.tuple #[v', .int .i64 (decL b).2]) ∧ Reads bodyE w' v' (decL b).1 ∧ Below w.heap.size w w' := by
  have q := hb.1
  have HR := Lib.hid hb
  obtain ⟨A, c, b1, o1, rfl, hc, hcm, hA, hx⟩ := hb.form
  have hA := Lib.hid hA
  have hx := Lib.hid hx
  clear hb
  by_cases h8 : b.length < 8
  · have hi8 : (b.length : Int) < 8 := by omega
    have H8 := Lib.hid h8
    clear h8
    go_enter Try.func11, Try.ntmps11
    go_wp2
    go_ret2
    have hw : wellB b = false := by unfold wellB; rw [decide_eq_false (by have := H8.out; omega)]; rfl
    exact ⟨.slice none 0 0, ret_vi (by rw [dec_bad hw]), by rw [dec_bad hw]; exact Reads.none _ _, Below.refl _ _⟩
  · have hi8 : 8 ≤ (b.length : Int) := by omega
    have hc0 : ¬ c = 0 := by omega
    have hc4 : ¬ c = 4 := by omega
    have hci : 8 ≤ (c : Int) := by omega
    obtain ⟨rfl, zA⟩ := hA.out (by omega)
    clear hA
    have kc := magic_run (c := c) (by omega) hx.out
    by_cases hm : b.take 4 = magicL
    · have g4 := get4 (c := c - 4) (n := b.length - 4) (p := 4) (o := o1) hx.out HR.out.2.1 (by omega) (by omega) w
      obtain ⟨n, hn⟩ : ∃ n, n = numAt b 4 := ⟨_, rfl⟩
      have hr := numAt_range HR.out.2.1 4
      rw [← hn] at g4 hr
      obtain ⟨r0, r1⟩ := hr
      obtain ⟨N, rfl⟩ := Int.eq_ofNat_of_zero_le r0
      have G4 := Lib.hid g4
      have HN := Lib.hid hn
      rw [hm, magic_str] at kc
      have HM := Lib.hid hm
      clear hm hn g4
      by_cases hs : b.length = 8 + N * 40
      · have hs' : ((b.length : Int) == 8 + (N : Int) * 40) = true := by rw [beq_iff_eq]; omega
        have hs2 : ((b.length : Int) != 8 + (N : Int) * 40) = false := by rw [bne_eq_false_iff_eq]; omega
        have hs3 : decide ((b.length : Int) < 8) = false := decide_eq_false (by omega)
        have HS := Lib.hid hs
        clear hs
        go_enter Try.func11, Try.ntmps11
        go_wp2_with fail
        refine G4.out.mono ?_
        rintro e w' ⟨rfl, k, rfl⟩
        go_wp2_with fail
        refine (size_any N _ (by omega)).mono ?_
        rintro e w' ⟨rfl, rfl⟩
        go_wp2_with fail
        go_loopw [5, 29] (fun v i wr => ∃ k : Nat, k ≤ N ∧ i = .int .i64 k ∧ Own bodyE 46 wr w.heap.size v (rowsL b k) ∧ Below w.heap.size w wr) (fun _ i _ => N - (intOf i).toNat)
        case atStart => exact ⟨0, by omega, rfl, Own.nil _ _ _ _, bel_drewN (Below.refl _ _) _⟩
        case round =>
          obtain ⟨k, hk, rfl, ho, hbel⟩ := hrel
          obtain ⟨wo, rfl⟩ : ∃ wo : World, wo = wr := ⟨_, rfl⟩
          have hz1 := hbel.size
          have ho1 := Lib.hid ho
          have hbel1 := Lib.hid hbel
          clear ho hbel
          by_cases hlt : k < N
          · obtain ⟨p, hp⟩ : ∃ p, p = 8 + k * 40 := ⟨_, rfl⟩
            have HP := Lib.hid hp
            have hp' : p ≤ N * 40 - 32 := by omega
            clear hp
            have zA' : b1 < wo.heap.size := by omega
            go_wp2_with fail
            go_loopw [32] (fun j wx => ∃ m : Nat, m ≤ 10 ∧ j = .int .i64 m ∧ wx.heap[wo.heap.size]? = some (.cells (uptoA (fun j => numAt b (p + j * 4)) m) 49 (0, 0)) ∧ Below wo.heap.size wo wx) (fun j _ => 10 - (intOf j).toNat)
            case atStart => exact ⟨0, by omega, rfl, heap_alloc_new _ _, new_ok _⟩
            case round =>
              obtain ⟨m, hm, rfl, hblk, hbel2⟩ := hrel
              have HK := Lib.hid hblk
              have HB2 := Lib.hid hbel2
              have zF := lt_of_block hblk
              by_cases hlm : m < 10
              · have hcell : wr.cell? ⟨wo.heap.size, m, none⟩ = some (.int .u32 0) := by
                  unfold World.cell?; rw [hblk]; exact upto_at _ hlm
                have hfroz : wr.frozen? ⟨wo.heap.size, m, none⟩ = false := by
                  unfold World.frozen?; rw [hblk]; simp
                have gg := get4 (c := c - (p + m * 4)) (n := b.length - (p + m * 4)) (p := p + m * 4) (o := o1) hx.out HR.out.2.1 (by have := HS.out; omega) (by have := HS.out; omega) wr (fun o => (hbel2.cell (p := ⟨b1, o, none⟩) zA').trans (hbel1.out.cell (p := ⟨b1, o, none⟩) zA))
                have GG := Lib.hid gg
                have t0 : 0 ≤ (p : Int) + (m : Int) * 4 := by omega
                have t1 : (p : Int) + (m : Int) * 4 ≤ b.length := by have := HS.out; omega
                have t2 : ((p : Int) + (m : Int) * 4).toNat = p + m * 4 := by omega
                have t3 : ¬ c = p + m * 4 := by have := HS.out; omega
                clear hblk hbel2 gg
                go_wp2_with fail
                refine (size_any k _ (by omega)).mono ?_
                rintro e w' ⟨he, rfl⟩
                rw [← HP.out] at he
                subst he
                go_wp2_with fail
                refine GG.out.mono ?_
                rintro e w' ⟨rfl, q, rfl⟩
                go_wp2_with fail
                go_roundw
                case rel =>
                  exact ⟨m + 1, by omega, by go_num, by rw [← upto_set _ hlm]; exact cells_setOne (w := wr.drewN q) HK.out, (bel_drewN HB2.out q).setCell (Nat.le_refl _) _⟩
                case measure => simp [intOf]; omega
              · have hm10 : m = 10 := by omega
                subst hm10
                have cc : ∀ j v, (uptoA (fun j => numAt b (p + j * 4)) 10)[j]? = some v → wr.cell? ⟨wo.heap.size, j, none⟩ = some v := fun j v h => by unfold World.cell?; rw [hblk]; exact h
                have c0 : wr.cell? ⟨wo.heap.size, 0, none⟩ = some (.int .u32 (numAt b p)) := cc 0 _ rfl
                have c1 : wr.cell? ⟨wo.heap.size, 1, none⟩ = some (.int .u32 (numAt b (p + 4))) := cc 1 _ rfl
                have c2 : wr.cell? ⟨wo.heap.size, 2, none⟩ = some (.int .u32 (numAt b (p + 8))) := cc 2 _ rfl
                have c3 : wr.cell? ⟨wo.heap.size, 3, none⟩ = some (.int .u32 (numAt b (p + 12))) := cc 3 _ rfl
                have c4 : wr.cell? ⟨wo.heap.size, 4, none⟩ = some (.int .u32 (numAt b (p + 16))) := cc 4 _ rfl
                have c5 : wr.cell? ⟨wo.heap.size, 5, none⟩ = some (.int .u32 (numAt b (p + 20))) := cc 5 _ rfl
                have c6 : wr.cell? ⟨wo.heap.size, 6, none⟩ = some (.int .u32 (numAt b (p + 24))) := cc 6 _ rfl
                have c7 : wr.cell? ⟨wo.heap.size, 7, none⟩ = some (.int .u32 (numAt b (p + 28))) := cc 7 _ rfl
                have c8 : wr.cell? ⟨wo.heap.size, 8, none⟩ = some (.int .u32 (numAt b (p + 32))) := cc 8 _ rfl
                have c9 : wr.cell? ⟨wo.heap.size, 9, none⟩ = some (.int .u32 (numAt b (p + 36))) := cc 9 _ rfl
                clear cc hblk hbel2 HK
                go_wp2_with fail
                refine (unpack_any (numAt b p) (numAt b (p + 4)) (numAt b (p + 8)) (numAt b (p + 12)) (numAt b (p + 16)) (numAt b (p + 20)) (numAt b (p + 24)) (numAt b (p + 28)) (numAt b (p + 32)) (numAt b (p + 36)) _).mono ?_
                rintro e w3 ⟨he, hb⟩
                obtain ⟨bd, hbd⟩ : ∃ bd, bd = bodyAt b p := ⟨_, rfl⟩
                have he : e = .returned (.agg bd.cells) := he.trans (by rw [hbd]; rfl)
                have HBD := Lib.hid hbd
                clear hbd
                obtain ⟨y0, y1, y2, y3, y4, y5, y6, y7, y8, y9⟩ := bd
                have he : e = .returned (.agg #[.int .u32 y0, .int .i32 y1, .int .i32 y2, .int .i32 y3, .int .i32 y4, .int .i32 y5, .int .i32 y6, .int .i32 y7, .int .i32 y8, .int .i32 y9]) := he
                subst he
                obtain ⟨g1, rfl⟩ := Grow.of hb
                have BW := Lib.hid (bel_grow (hbel1.out.trans (HB2.out.mono hz1)) g1)
                clear hb c0 c1 c2 c3 c4 c5 c6 c7 c8 c9
                have OW := Lib.hid (ho1.out.below ((HB2.out).trans (g1.below.mono (by omega))))
                have hsz2 : w.heap.size ≤ g1.world.heap.size := by have := g1.le; omega
                go_wp2_with (at_builtin; refine own_append bodyE w.heap.size rfl (.tmp 46) (.tmp 49) 22 46 _ 40 rfl Try.underlying22 bodyInfo rfl (by decide) _ (rowsL b k) ⟨y0, y1, y2, y3, y4, y5, y6, y7, y8, y9⟩ _ (by rfl) rfl (by first | rfl | simp [go_sem]) OW.out BW.out hsz2 (by simp [rowsL]; omega) ?_; intro v1 w2 own1 bel1 gr1 sz1)
                go_roundw
                case rel => exact ⟨k + 1, by omega, by go_num, by rw [rows_succ, ← HP.out, ← HBD.out]; exact own1, bel1⟩
                case measure => simp [intOf]; omega
          · have hkn : k = N := by omega
            have HK := Lib.hid hkn
            have HRD := Lib.hid (ho1.out.reads (by simp [rowsL]; omega))
            obtain ⟨A2, c2, rfl⟩ := ho1.out.form
            have hw : wellB b = true := by unfold wellB; rw [decide_eq_true HM.out, decide_eq_true (p := (b.length : Int) = _) (by rw [← HN.out]; have := HS.out; omega), decide_eq_true (by omega)]; rfl
            have hrows : rowsL b ((b.length - 8) / 40) = rowsL b k := by rw [show (b.length - 8) / 40 = k from by have := HS.out; omega]
            have HW := Lib.hid hw
            have HROWS := Lib.hid hrows
            clear hkn hw hrows
            by_cases he : checkL (rowsL b k) = 0
            · have HE := Lib.hid he
              have he' : (checkL (rowsL b k) == 0) = true := by simpa using he
              clear he
              go_wp2_with fail
              refine (viewCheck_any _ (rowsL b k) _ (by exact HRD.out)).mono ?_
              rintro e w1 ⟨rfl, hb⟩
              obtain ⟨g0, rfl⟩ := Grow.of hb
              clear hb
              go_wp2_with fail
              go_ret2
              exact ⟨_, ret_vi (by rw [dec_ok HW.out (by rw [HROWS.out]; exact HE.out)]), by rw [dec_ok HW.out (by rw [HROWS.out]; exact HE.out), HROWS.out]; exact HRD.out.grow g0, bel_grow hbel1.out g0⟩
            · have HE := Lib.hid he
              have he' : (checkL (rowsL b k) == 0) = false := by simpa using he
              clear he
              go_wp2_with fail
              refine (viewCheck_any _ (rowsL b k) _ (by exact HRD.out)).mono ?_
              rintro e w1 ⟨rfl, hb⟩
              obtain ⟨g0, rfl⟩ := Grow.of hb
              clear hb
              go_wp2_with fail
              go_ret2
              exact ⟨.slice none 0 0, ret_vi (by rw [dec_err HW.out (by rw [HROWS.out]; exact HE.out), HROWS.out]), by rw [dec_err HW.out (by rw [HROWS.out]; exact HE.out)]; exact Reads.none _ _, bel_grow hbel1.out g0⟩
      · have hs' : ((b.length : Int) == ((8 + N * 40 : Nat) : Int)) = false := by rw [beq_eq_false_iff_ne]; omega
        have HS := Lib.hid hs
        clear hs
        go_enter Try.func11, Try.ntmps11
        go_wp2_with fail
        refine G4.out.mono ?_
        rintro e w' ⟨rfl, k, rfl⟩
        go_wp2_with fail
        refine (size_any N _ (by omega)).mono ?_
        rintro e w' ⟨rfl, rfl⟩
        go_wp2_with fail
        go_ret2
        have hw : wellB b = false := by unfold wellB; rw [decide_eq_false (p := (b.length : Int) = _) (by rw [← HN.out]; have := HS.out; omega)]; simp
        exact ⟨.slice none 0 0, ret_vi (by rw [dec_bad hw]), by rw [dec_bad hw]; exact Reads.none _ _, bel_drewN (Below.refl _ _) _⟩
    · obtain ⟨s, hs⟩ : ∃ s, strOfNums (b.take 4) = s := ⟨_, rfl⟩
      have hne : s ≠ ⟨#[66, 73, 76, 49]⟩ := hs ▸ magic_ne (fun a ha => HR.out.2.1 a (List.mem_of_mem_take ha)) hm
      have hne := magic_list hne
      rw [hs] at kc
      clear hs
      have HM := Lib.hid hm
      clear hm
      go_enter Try.func11, Try.ntmps11
      go_wp2
      go_ret2
      have hw : wellB b = false := by unfold wellB; rw [decide_eq_false HM.out]; simp
      exact ⟨.slice none 0 0, ret_vi (by rw [dec_bad hw]), by rw [dec_bad hw]; exact Reads.none _ _, Below.refl _ _⟩
end Go.Proofs.Ytlibkfjafhggkaa
