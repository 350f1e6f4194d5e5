/- Contracts of the program's functions, by walks, and plain facts beside them: Enc, Dec, CodecPure. -/
import Derived.Test.YtnhaiecbjipodaaGreatDoorB17
import Derived.Test.YtnhaiecbjipodaaGreatDoorB28
import Derived.Lib.SlBytesConst
import Derived.Laws.BytesArg
import Derived.ChangeKeysEq
import Derived.WalkSpells
/- The contract of codec.Encode. -/
namespace Go.Proofs.YtnhaiecbjipodaaGreatDoor
open Go.RowKit
attribute [local go_sem] Grow.cell Grow.froz Grow.lt

def recL (b : Body) : List Int := (fieldsL b).flatMap word4
def headL (n : Nat) : List Int := [66, 73, 76, 49] ++ word4 n
def bytesL (l : List Body) : List Int := headL l.length ++ l.flatMap recL
def encL (l : List Body) : List Int × Int := if checkL l ≠ 0 then ([], checkL l) else (bytesL l, 0)
theorem enc_err {l : List Body} (h : ¬ checkL l = 0) : encL l = ([], checkL l) := by unfold encL; rw [if_pos h]
theorem enc_ok {l : List Body} (h : checkL l = 0) : encL l = (bytesL l, 0) := by unfold encL; rw [if_neg (by simpa using h)]
theorem recL_len (b : Body) : (recL b).length = 40 := rfl
theorem recs_len (l : List Body) : (l.flatMap recL).length = l.length * 40 := by
  induction l with
  | nil => rfl
  | cons a r ih => rw [List.flatMap_cons, List.length_append, ih, recL_len, List.length_cons]; omega
theorem bytesL_len (l : List Body) : (bytesL l).length = 8 + l.length * 40 := by
  unfold bytesL
  rw [List.length_append, recs_len]; rfl
theorem words_len (l : List Int) : (l.flatMap word4).length = l.length * 4 := by
  induction l with
  | nil => rfl
  | cons a r ih => rw [List.flatMap_cons, List.length_append, ih, word4_len, List.length_cons]; omega
theorem recs_take {l : List Body} {k : Nat} (h : k < l.length) : (l.take (k + 1)).flatMap recL = (l.take k).flatMap recL ++ recL l[k] := by
  rw [List.take_succ_eq_append_getElem h, List.flatMap_append]; simp
theorem words_take {l : List Int} {k : Nat} (h : k < l.length) : (l.take (k + 1)).flatMap word4 = (l.take k).flatMap word4 ++ word4 l[k] := by
  rw [List.take_succ_eq_append_getElem h, List.flatMap_append]; simp
theorem each_len {l : List Body} (h : eachL l = 0) : l.length ≤ 4096 := by
  unfold eachL at h
  split at h
  · exact absurd h (by decide)
  · omega
theorem check_each {l : List Body} (h : checkL l = 0) : eachL l = 0 := by
  unfold checkL at h
  split at h
  · rename_i h1; exact absurd h h1
  · rename_i h1; simpa using h1

theorem arr_at (k r ax ay m o px py vx vy : Int) (j : Nat) (hj : j < 10) (w : World) : (Instr.index 111 (.agg #[.int .u32 k, .int .u32 r, .int .u32 ax, .int .u32 ay, .int .u32 m, .int .u32 o, .int .u32 px, .int .u32 py, .int .u32 vx, .int .u32 vy]) (.int .i64 (j : Int))).run Tryz.prog w = .ok (.int .u32 ([k, r, ax, ay, m, o, px, py, vx, vy][j]'(by simpa using hj))) w := by
  obtain rfl | rfl | rfl | rfl | rfl | rfl | rfl | rfl | rfl | rfl : j = 0 ∨ j = 1 ∨ j = 2 ∨ j = 3 ∨ j = 4 ∨ j = 5 ∨ j = 6 ∨ j = 7 ∨ j = 8 ∨ j = 9 := by omega
  all_goals kernel_rfl

theorem full_new {w : World} {base : Nat} (l : List Int) (fr : Nat × Nat) (hf : ∀ a ∈ l, 0 ≤ a ∧ a ≤ 255) (hb : base ≤ w.heap.size) : OF (w.alloc (.cells (l.map (Value.int .u8)).toArray byteT fr)) base (.slice (some ⟨w.heap.size, 0, none⟩) l.length l.length) l := by
  refine ⟨hf, .inr ⟨w.heap.size, rfl, hb, fun i a ha => ?_⟩⟩
  have hc := heap_alloc_new w (.cells (l.map (Value.int .u8)).toArray byteT fr)
  unfold World.cell?
  rw [hc]
  simp [ha]
theorem magic_fit : ∀ a ∈ ([66, 73, 76, 49] : List Int), 0 ≤ a ∧ a ≤ 255 := by decide
theorem fields_fit {b : Body} (h : b.Fit) : ∀ a ∈ fieldsL b, 0 ≤ a ∧ a ≤ 4294967295 := by
  intro a ha
  simp only [fieldsL, List.mem_cons, List.not_mem_nil, or_false] at ha
  have := h.key
  rcases ha with rfl | rfl | rfl | rfl | rfl | rfl | rfl | rfl | rfl | rfl
  · exact this
  all_goals exact ug_fit _
theorem ret_vi {v : Value} {a b : Int} (h : a = b) : Ending.returned (.tuple #[v, .int .i64 a]) = .returned (.tuple #[v, .int .i64 b]) := by rw [h]
set_option maxHeartbeats 4000000 in
set_option maxRecDepth 100000 in
theorem encode_any (v : Value) (l : List Body) (w : World) (hl : Reads bodyE w v l) (hf : ∀ b ∈ l, b.Fit) :
    Calls Tryz.prog 27 #[v] w fun e w' => ∃ v', e = .returned (.tuple #[v', .int .i64 (encL l).2]) ∧ OB w' w.heap.size v' (encL l).1 ∧ Below w.heap.size w w' := by
  have q := hl.1
  have HR := Lib.hid hl
  have HFIT := Lib.hid hf
  obtain ⟨A, c, b1, o1, rfl, hA, hx⟩ := hl.bodies
  have hA := Lib.hid hA
  have hx := Lib.hid hx
  clear hl hf
  by_cases he : checkL l = 0
  · have HE := Lib.hid he
    have he' : (checkL l == 0) = true := by simpa using he
    have hlen := each_len (check_each he)
    have kc := fun (w : World) (C : Array Value) (n c : Nat) => Lib.run_convert_bytes_const (P := Tryz.prog) w 28 5 C n c Tryz.underlying28 Tryz.underlying5
    clear he
    go_enter Tryz.func27, Tryz.ntmps27
    go_wp2_with fail
    refine (viewCheck_any _ l _ (by exact HR.out)).mono ?_
    rintro e w1 ⟨rfl, hb⟩
    obtain ⟨g0, rfl⟩ := Grow.of hb
    clear hb
    go_wp2_with fail
    refine (cput_any _ [66, 73, 76, 49] l.length w.heap.size _ (full_new [66, 73, 76, 49] (4, 5) magic_fit g0.le) (by simp; have := g0.le; omega) (by omega) (by omega) (by simp)).mono ?_
    rintro e w2 ⟨v2, rfl, HO, HB, hz⟩
    have HO := Lib.hid HO
    have HB := Lib.hid ((bel_alloc (bel_grow (Below.refl _ _) g0) _).trans HB)
    go_wp2_with fail
    go_loopw [5, 23] (fun v i wr => ∃ k : Nat, k ≤ l.length ∧ i = .int .i64 k ∧ OB wr w.heap.size v (headL l.length ++ (l.take k).flatMap recL) ∧ Below w.heap.size w wr) (fun _ i _ => l.length - (intOf i).toNat)
    case atStart => exact ⟨0, by omega, rfl, by simpa [headL] using HO.out, HB.out⟩
    case round =>
      obtain ⟨k, hk, rfl, ho, hbel⟩ := hrel
      have hz1 := hbel.size
      by_cases hlt : k < l.length
      · obtain ⟨eA, zA⟩ := hA.out (by omega)
        have ix := fun w => idx_body (c := c) eA hlt w
        clear eA
        obtain ⟨q0, q1, q2, q3, q4, q5, q6, q7, q8, q9⟩ := (hx.out k hlt).below hbel
        have zA' : b1 < wr.heap.size := Nat.lt_of_lt_of_le zA hbel.size
        have ho1 := Lib.hid ho
        have hbel1 := Lib.hid hbel
        have hfit := Lib.hid (fields_fit (HFIT.out l[k] (List.getElem_mem hlt)))
        have hpre : (headL l.length ++ (l.take k).flatMap recL).length = 8 + k * 40 := by rw [List.length_append, recs_len]; simp [headL, word4]; omega
        have hpre := Lib.hid hpre
        clear ho hbel
        go_wp2_with fail
        refine (pack_any _ _ _ _ _ _ _ _ _ _ _).mono ?_
        rintro e w3 ⟨rfl, hb⟩
        obtain ⟨g1, rfl⟩ := Grow.of hb
        have hbel2 := Lib.hid (bel_grow (bel_alloc hbel1.out (.cells #[.int .u32 l[k].key, .int .i32 l[k].radius, .int .i32 l[k].ax, .int .i32 l[k].ay, .int .i32 l[k].inv, .int .i32 l[k].bounce, .int .i32 l[k].px, .int .i32 l[k].py, .int .i32 l[k].vx, .int .i32 l[k].vy] 27)) g1)
        have ho2 := Lib.hid ((ho1.out.below (new_ok _)).below g1.below)
        clear hb
        have aa := arr_at l[k].key (ug l[k].radius) (ug l[k].ax) (ug l[k].ay) (ug l[k].inv) (ug l[k].bounce) (ug l[k].px) (ug l[k].py) (ug l[k].vx) (ug l[k].vy)
        have AA := Lib.hid aa
        clear aa
        go_wp2_with fail
        go_loopw [5, 29] (fun v j wx => ∃ m : Nat, m ≤ 10 ∧ j = .int .i64 m ∧ OB wx w.heap.size v (headL l.length ++ (l.take k).flatMap recL ++ ((fieldsL l[k]).take m).flatMap word4) ∧ Below w.heap.size w wx) (fun _ j _ => 10 - (intOf j).toNat)
        case atStart => exact ⟨0, by omega, rfl, by simpa using ho2.out, hbel2.out⟩
        case round =>
          obtain ⟨m, hm, rfl, ho, hbel⟩ := hrel
          have ho3 := Lib.hid ho
          have hbel3 := Lib.hid hbel
          clear ho hbel
          by_cases hlm : m < 10
          · have ax := AA.out m hlm
            have hml : m < (fieldsL l[k]).length := hlm
            obtain ⟨f, hf⟩ : ∃ f, f = (fieldsL l[k])[m] := ⟨_, rfl⟩
            have hf0 := hfit.out f (by rw [hf]; exact List.getElem_mem hml)
            have HF := Lib.hid hf
            obtain ⟨f0, f1⟩ := hf0
            rw [show ([l[k].key, ug l[k].radius, ug l[k].ax, ug l[k].ay, ug l[k].inv, ug l[k].bounce, ug l[k].px, ug l[k].py, ug l[k].vx, ug l[k].vy] : List Int)[m] = f from hf.symm] at ax
            clear hf
            go_wp2_with fail
            refine (cput_any _ _ f w.heap.size _ ho3.out.of hbel3.out.size f0 f1 (by rw [List.length_append, words_len, List.length_take, hpre.out]; omega)).mono ?_
            rintro e w4 ⟨v4, rfl, HO4, HB4, hz4⟩
            have HO4 := Lib.hid HO4
            have HB4 := Lib.hid (hbel3.out.trans HB4)
            go_wp2_with fail
            go_roundw
            case rel => exact ⟨m + 1, by omega, by go_num, by rw [words_take hml, ← HF.out, ← List.append_assoc]; exact HO4.out, HB4.out⟩
            case measure => simp [intOf]; omega
          · have hm10 : m = 10 := by omega
            have HM := Lib.hid hm10
            clear hm10
            go_wp2
            go_roundw
            case rel => exact ⟨k + 1, by omega, by go_num, by have := ho3.out; rw [HM.out] at this; rw [recs_take hlt, ← List.append_assoc]; exact this, hbel3.out⟩
            case measure => simp [intOf]; omega
      · have hkl : k = l.length := by omega
        have HN := Lib.hid hkl
        have ho1 := Lib.hid ho
        clear hkl ho
        go_wp2
        go_ret2
        exact ⟨_, ret_vi (by rw [enc_ok HE.out]), by rw [enc_ok HE.out]; have := ho1.out; rw [HN.out, List.take_length] at this; exact this, hbel⟩
  · have HE := Lib.hid he
    have he' : (checkL l == 0) = false := by simpa using he
    clear he
    go_enter Tryz.func27, Tryz.ntmps27
    go_wp2_with fail
    refine (viewCheck_any _ l _ (by exact HR.out)).mono ?_
    rintro e w1 ⟨rfl, hb⟩
    obtain ⟨g0, rfl⟩ := Grow.of hb
    clear hb
    go_wp2_with fail
    go_ret2
    exact ⟨.slice none 0 0, ret_vi (by rw [enc_err HE.out]), by rw [enc_err HE.out]; exact OB.nil _ _, bel_grow (Below.refl _ _) g0⟩
end Go.Proofs.YtnhaiecbjipodaaGreatDoor
/- The contract of codec.Decode. -/
namespace Go.Proofs.YtnhaiecbjipodaaGreatDoor
open Go.RowKit
attribute [local go_sem] Grow.cell Grow.froz Grow.lt

theorem bodyInfoD : (Tryz.prog.info? 27).map (fun i => (i.zero, i.size, i.bytes)) = some (some (.agg #[.int .u32 0, .int .i32 0, .int .i32 0, .int .i32 0, .int .i32 0, .int .i32 0, .int .i32 0, .int .i32 0, .int .i32 0, .int .i32 0]), 10, 40) := by kernel_rfl
def byteAt (b : List Int) (i : Nat) : Int := b.getD i 0
def numAt (b : List Int) (i : Nat) : Int := num4 (byteAt b i) (byteAt b (i + 1)) (byteAt b (i + 2)) (byteAt b (i + 3))
def magicL : List Int := [66, 73, 76, 49]
def wellB (b : List Int) : Bool := decide (8 ≤ b.length) && (decide (b.take 4 = magicL) && decide ((b.length : Int) = 8 + numAt b 4 * 40))
def bodyAt (b : List Int) (p : Nat) : Body := bodyOf (numAt b p) (numAt b (p + 4)) (numAt b (p + 8)) (numAt b (p + 12)) (numAt b (p + 16)) (numAt b (p + 20)) (numAt b (p + 24)) (numAt b (p + 28)) (numAt b (p + 32)) (numAt b (p + 36))
def rowsL (b : List Int) (n : Nat) : List Body := (List.range n).map fun i => bodyAt b (8 + i * 40)
def decL (b : List Int) : List Body × Int :=
  if wellB b = true then (if checkL (rowsL b ((b.length - 8) / 40)) ≠ 0 then ([], checkL (rowsL b ((b.length - 8) / 40))) else (rowsL b ((b.length - 8) / 40), 0)) else ([], 13)
theorem dec_bad {b : List Int} (h : wellB b = false) : decL b = ([], 13) := by unfold decL; rw [if_neg (by simp [h])]

theorem dec_ok {b : List Int} (h : wellB b = true) (he : checkL (rowsL b ((b.length - 8) / 40)) = 0) : decL b = (rowsL b ((b.length - 8) / 40), 0) := by unfold decL; rw [if_pos h, if_neg (by simpa using he)]
theorem dec_err {b : List Int} (h : wellB b = true) (he : ¬ checkL (rowsL b ((b.length - 8) / 40)) = 0) : decL b = ([], checkL (rowsL b ((b.length - 8) / 40))) := by unfold decL; rw [if_pos h, if_pos he]
theorem rows_succ (b : List Int) (k : Nat) : rowsL b (k + 1) = rowsL b k ++ [bodyAt b (8 + k * 40)] := by
  unfold rowsL
  rw [List.range_succ, List.map_append]; rfl
theorem u8_of {a : Int} (h : 0 ≤ a ∧ a ≤ 255) : ((UInt8.ofNat a.toNat).toNat : Int) = a := by
  have : a.toNat % 256 = a.toNat := by omega
  simp [UInt8.toNat_ofNat', this]; omega
theorem str_inj : ∀ {l m : List Int}, (∀ a ∈ l, 0 ≤ a ∧ a ≤ 255) → (∀ a ∈ m, 0 ≤ a ∧ a ≤ 255) → (l.map fun n => UInt8.ofNat n.toNat) = (m.map fun n => UInt8.ofNat n.toNat) → l = m
  | [], [], _, _, _ => rfl
  | [], b :: m, _, _, h => by simp at h
  | a :: l, [], _, _, h => by simp at h
  | a :: l, b :: m, hl, hm, h => by
    simp only [List.map_cons, List.cons.injEq] at h
    have h1 := u8_of (hl a (by simp))
    have h2 := u8_of (hm b (by simp))
    rw [h.1, h2] at h1
    rw [h1, str_inj (fun x hx => hl x (by simp [hx])) (fun x hx => hm x (by simp [hx])) h.2]
theorem magic_str : strOfNums magicL = ⟨#[66, 73, 76, 49]⟩ := rfl
theorem magic_ne {l : List Int} (hl : ∀ a ∈ l, 0 ≤ a ∧ a ≤ 255) (h : l ≠ magicL) : strOfNums l ≠ ⟨#[66, 73, 76, 49]⟩ := fun e => h (by
  rw [← magic_str] at e
  have e' := congrArg (fun s : ByteArray => s.data.toList) e
  exact str_inj hl magic_fit e')
theorem magic_list {s : ByteArray} (h : s ≠ ⟨#[66, 73, 76, 49]⟩) : (s.toList == [66, 73, 76, 49]) = false := by
  rw [beq_eq_false_iff_ne]
  intro e
  apply h
  rw [ByteArray.toList_eq] at e
  rcases s with ⟨d⟩
  congr 1
  exact Array.toList_inj.1 (by simpa using e)
theorem magic_run {w : World} {b : List Int} {b1 o1 c : Nat} (h : 8 ≤ b.length) (hx : ∀ i (hi : i < b.length), w.cell? ⟨b1, o1 + i, none⟩ = some (.int .u8 b[i])) :
    (convert 28 9 (.slice (some ⟨b1, o1, none⟩) 4 c)).run Tryz.prog w = .ok (.string (strOfNums (b.take 4))) w :=
  run_convert_bytes_arg w 28 5 Tryz.underlying28 Tryz.underlying5 b1 o1 4 c (b.take 4) (by rw [List.length_take]; omega) (fun i hi => by
    rw [hx i (by omega)]
    simp [List.getD, hi, show i < b.length by omega]) 9 Tryz.underlying9
def cellU (f : Nat → Int) (m j : Nat) : Value := .int .u32 (if j < m then f j else 0)
/-- Ten numbers, of which the first m are set. -/
def uptoA (f : Nat → Int) (m : Nat) : Array Value := #[cellU f m 0, cellU f m 1, cellU f m 2, cellU f m 3, cellU f m 4, cellU f m 5, cellU f m 6, cellU f m 7, cellU f m 8, cellU f m 9]
theorem cells_setOne {w : World} {b o : Nat} {cs : Array Value} {u : Value} {t : TypeId} (h : w.heap[b]? = some (.cells cs t (0, 0))) : (w.setCell ⟨b, o, none⟩ u).heap[b]? = some (.cells (cs.set! o u) t (0, 0)) := by
  have hlt := lt_of_block h
  have h' : w.heap[b] = .cells cs t (0, 0) := by simpa [Array.getElem?_eq_getElem hlt] using h
  show (w.heap.modify b _)[b]? = _
  rw [Array.getElem?_eq_getElem (by simpa using hlt), Array.getElem_modify_self, h']
  rfl
theorem upto_at (f : Nat → Int) {m : Nat} (h : m < 10) : (uptoA f m)[m]? = some (.int .u32 0) := by
  obtain rfl | rfl | rfl | rfl | rfl | rfl | rfl | rfl | rfl | rfl : m = 0 ∨ m = 1 ∨ m = 2 ∨ m = 3 ∨ m = 4 ∨ m = 5 ∨ m = 6 ∨ m = 7 ∨ m = 8 ∨ m = 9 := by omega
  all_goals rfl
theorem upto_set (f : Nat → Int) {m : Nat} (h : m < 10) : (uptoA f m).set! m (.int .u32 (f m)) = uptoA f (m + 1) := by
  obtain rfl | rfl | rfl | rfl | rfl | rfl | rfl | rfl | rfl | rfl : m = 0 ∨ m = 1 ∨ m = 2 ∨ m = 3 ∨ m = 4 ∨ m = 5 ∨ m = 6 ∨ m = 7 ∨ m = 8 ∨ m = 9 := by omega
  all_goals rfl
theorem byteAt_get {b : List Int} {i : Nat} (h : i < b.length) : b[i] = byteAt b i := by simp [byteAt, List.getD, h]
theorem byteAt_fit {b : List Int} (hf : ∀ a ∈ b, 0 ≤ a ∧ a ≤ 255) (i : Nat) : 0 ≤ byteAt b i ∧ byteAt b i ≤ 255 := by
  by_cases h : i < b.length
  · rw [← byteAt_get h]; exact hf _ (List.getElem_mem h)
  · simp [byteAt, List.getD, List.getElem?_eq_none (by omega : b.length ≤ i)]
theorem numAt_range {b : List Int} (hf : ∀ a ∈ b, 0 ≤ a ∧ a ≤ 255) (i : Nat) : 0 ≤ numAt b i ∧ numAt b i ≤ 4294967295 := by
  have h0 := byteAt_fit hf i
  have h1 := byteAt_fit hf (i + 1)
  have h2 := byteAt_fit hf (i + 2)
  have h3 := byteAt_fit hf (i + 3)
  unfold numAt num4; omega
/-- Four bytes at a place, read by get. -/
theorem get4 {w : World} {b : List Int} {b1 o c n p : Nat} (hx : ∀ i (hi : i < b.length), w.cell? ⟨b1, o + i, none⟩ = some (.int .u8 b[i])) (hf : ∀ a ∈ b, 0 ≤ a ∧ a ≤ 255) (hp : p + 4 ≤ b.length) (hn : 4 ≤ n) (w' : World) (hw : ∀ o, w'.cell? ⟨b1, o, none⟩ = w.cell? ⟨b1, o, none⟩ := by intro; rfl) :
    Calls Tryz.prog 42 #[.slice (some ⟨b1, o + p, none⟩) n c] w' fun e w'' => e = .returned (.int .u32 (numAt b p)) ∧ ∃ k, w'' = w'.drewN k :=
  get_any b1 (o + p) n c _ _ _ _ w' hn (byteAt_fit hf _) (byteAt_fit hf _) (byteAt_fit hf _) (byteAt_fit hf _)
    ((hw _).trans (by rw [hx p (by omega), byteAt_get])) ((hw _).trans (by rw [Nat.add_assoc, hx (p + 1) (by omega), byteAt_get])) ((hw _).trans (by rw [Nat.add_assoc, hx (p + 2) (by omega), byteAt_get])) ((hw _).trans (by rw [Nat.add_assoc, hx (p + 3) (by omega), byteAt_get]))
set_option maxHeartbeats 4000000 in
set_option maxRecDepth 100000 in
theorem decode_own (v : Value) (b : List Int) (w : World) (hb : RB w v b) :
    Calls Tryz.prog 24 #[v] w fun e w' => ∃ v', e = .returned (.tuple #[v', .int .i64 (decL b).2]) ∧ Reads bodyE w' v' (decL b).1 ∧ Below w.heap.size w w' ∧ ∀ k, v'.ownBlock = some k → w.heap.size ≤ k := by
  have q := hb.1
  have HR := Lib.hid hb
  obtain ⟨A, c, b1, o1, rfl, hc, hcm, hA, hx⟩ := hb.form
  have hA := Lib.hid hA
  have hx := Lib.hid hx
  clear hb
  by_cases h8 : b.length < 8
  · have hi8 : (b.length : Int) < 8 := by omega
    have H8 := Lib.hid h8
    clear h8
    go_enter Tryz.func24, Tryz.ntmps24
    go_wp2
    go_ret2
    have hw : wellB b = false := by unfold wellB; rw [decide_eq_false (by have := H8.out; omega)]; rfl
    exact ⟨.slice none 0 0, ret_vi (by rw [dec_bad hw]), by rw [dec_bad hw]; exact Reads.none _ _, Below.refl _ _, fun k h => by simp [Value.ownBlock] at h⟩
  · have hi8 : 8 ≤ (b.length : Int) := by omega
    have hc0 : ¬ c = 0 := by omega
    have hc4 : ¬ c = 4 := by omega
    have hci : 8 ≤ (c : Int) := by omega
    obtain ⟨rfl, zA⟩ := hA.out (by omega)
    clear hA
    have kc := magic_run (c := c) (by omega) hx.out
    by_cases hm : b.take 4 = magicL
    · have g4 := get4 (c := c - 4) (n := b.length - 4) (p := 4) (o := o1) hx.out HR.out.2.1 (by omega) (by omega) w
      obtain ⟨n, hn⟩ : ∃ n, n = numAt b 4 := ⟨_, rfl⟩
      have hr := numAt_range HR.out.2.1 4
      rw [← hn] at g4 hr
      obtain ⟨r0, r1⟩ := hr
      obtain ⟨N, rfl⟩ := Int.eq_ofNat_of_zero_le r0
      have G4 := Lib.hid g4
      have HN := Lib.hid hn
      rw [hm, magic_str] at kc
      have HM := Lib.hid hm
      clear hm hn g4
      by_cases hs : b.length = 8 + N * 40
      · have hs' : ((b.length : Int) == 8 + (N : Int) * 40) = true := by rw [beq_iff_eq]; omega
        have hs2 : ((b.length : Int) != 8 + (N : Int) * 40) = false := by rw [bne_eq_false_iff_eq]; omega
        have hs3 : decide ((b.length : Int) < 8) = false := decide_eq_false (by omega)
        have HS := Lib.hid hs
        clear hs
        go_enter Tryz.func24, Tryz.ntmps24
        go_wp2_with fail
        refine G4.out.mono ?_
        rintro e w' ⟨rfl, k, rfl⟩
        go_wp2_with fail
        refine (size_any N _ (by omega)).mono ?_
        rintro e w' ⟨rfl, rfl⟩
        go_wp2_with fail
        go_loopw [5, 29] (fun v i wr => ∃ k : Nat, k ≤ N ∧ i = .int .i64 k ∧ Own bodyE 27 wr w.heap.size v (rowsL b k) ∧ Below w.heap.size w wr) (fun _ i _ => N - (intOf i).toNat)
        case atStart => exact ⟨0, by omega, rfl, Own.nil _ _ _ _, bel_drewN (Below.refl _ _) _⟩
        case round =>
          obtain ⟨k, hk, rfl, ho, hbel⟩ := hrel
          obtain ⟨wo, rfl⟩ : ∃ wo : World, wo = wr := ⟨_, rfl⟩
          have hz1 := hbel.size
          have ho1 := Lib.hid ho
          have hbel1 := Lib.hid hbel
          clear ho hbel
          by_cases hlt : k < N
          · obtain ⟨p, hp⟩ : ∃ p, p = 8 + k * 40 := ⟨_, rfl⟩
            have HP := Lib.hid hp
            have hp' : p ≤ N * 40 - 32 := by omega
            clear hp
            have zA' : b1 < wo.heap.size := by omega
            go_wp2_with fail
            go_loopw [32] (fun j wx => ∃ m : Nat, m ≤ 10 ∧ j = .int .i64 m ∧ wx.heap[wo.heap.size]? = some (.cells (uptoA (fun j => numAt b (p + j * 4)) m) 111 (0, 0)) ∧ Below wo.heap.size wo wx) (fun j _ => 10 - (intOf j).toNat)
            case atStart => exact ⟨0, by omega, rfl, heap_alloc_new _ _, new_ok _⟩
            case round =>
              obtain ⟨m, hm, rfl, hblk, hbel2⟩ := hrel
              have HK := Lib.hid hblk
              have HB2 := Lib.hid hbel2
              have zF := lt_of_block hblk
              by_cases hlm : m < 10
              · have hcell : wr.cell? ⟨wo.heap.size, m, none⟩ = some (.int .u32 0) := by
                  unfold World.cell?; rw [hblk]; exact upto_at _ hlm
                have hfroz : wr.frozen? ⟨wo.heap.size, m, none⟩ = false := by
                  unfold World.frozen?; rw [hblk]; simp
                have gg := get4 (c := c - (p + m * 4)) (n := b.length - (p + m * 4)) (p := p + m * 4) (o := o1) hx.out HR.out.2.1 (by have := HS.out; omega) (by have := HS.out; omega) wr (fun o => (hbel2.cell (p := ⟨b1, o, none⟩) zA').trans (hbel1.out.cell (p := ⟨b1, o, none⟩) zA))
                have GG := Lib.hid gg
                have t0 : 0 ≤ (p : Int) + (m : Int) * 4 := by omega
                have t1 : (p : Int) + (m : Int) * 4 ≤ b.length := by have := HS.out; omega
                have t2 : ((p : Int) + (m : Int) * 4).toNat = p + m * 4 := by omega
                have t3 : ¬ c = p + m * 4 := by have := HS.out; omega
                clear hblk hbel2 gg
                go_wp2_with fail
                refine (size_any k _ (by omega)).mono ?_
                rintro e w' ⟨he, rfl⟩
                rw [← HP.out] at he
                subst he
                go_wp2_with fail
                refine GG.out.mono ?_
                rintro e w' ⟨rfl, q, rfl⟩
                go_wp2_with fail
                go_roundw
                case rel =>
                  exact ⟨m + 1, by omega, by go_num, by rw [← upto_set _ hlm]; exact cells_setOne (w := wr.drewN q) HK.out, (bel_drewN HB2.out q).setCell (Nat.le_refl _) _⟩
                case measure => simp [intOf]; omega
              · have hm10 : m = 10 := by omega
                subst hm10
                have cc : ∀ j v, (uptoA (fun j => numAt b (p + j * 4)) 10)[j]? = some v → wr.cell? ⟨wo.heap.size, j, none⟩ = some v := fun j v h => by unfold World.cell?; rw [hblk]; exact h
                have c0 : wr.cell? ⟨wo.heap.size, 0, none⟩ = some (.int .u32 (numAt b p)) := cc 0 _ rfl
                have c1 : wr.cell? ⟨wo.heap.size, 1, none⟩ = some (.int .u32 (numAt b (p + 4))) := cc 1 _ rfl
                have c2 : wr.cell? ⟨wo.heap.size, 2, none⟩ = some (.int .u32 (numAt b (p + 8))) := cc 2 _ rfl
                have c3 : wr.cell? ⟨wo.heap.size, 3, none⟩ = some (.int .u32 (numAt b (p + 12))) := cc 3 _ rfl
                have c4 : wr.cell? ⟨wo.heap.size, 4, none⟩ = some (.int .u32 (numAt b (p + 16))) := cc 4 _ rfl
                have c5 : wr.cell? ⟨wo.heap.size, 5, none⟩ = some (.int .u32 (numAt b (p + 20))) := cc 5 _ rfl
                have c6 : wr.cell? ⟨wo.heap.size, 6, none⟩ = some (.int .u32 (numAt b (p + 24))) := cc 6 _ rfl
                have c7 : wr.cell? ⟨wo.heap.size, 7, none⟩ = some (.int .u32 (numAt b (p + 28))) := cc 7 _ rfl
                have c8 : wr.cell? ⟨wo.heap.size, 8, none⟩ = some (.int .u32 (numAt b (p + 32))) := cc 8 _ rfl
                have c9 : wr.cell? ⟨wo.heap.size, 9, none⟩ = some (.int .u32 (numAt b (p + 36))) := cc 9 _ rfl
                clear cc hblk hbel2 HK
                go_wp2_with fail
                refine (unpack_any (numAt b p) (numAt b (p + 4)) (numAt b (p + 8)) (numAt b (p + 12)) (numAt b (p + 16)) (numAt b (p + 20)) (numAt b (p + 24)) (numAt b (p + 28)) (numAt b (p + 32)) (numAt b (p + 36)) _).mono ?_
                rintro e w3 ⟨he, hb⟩
                obtain ⟨bd, hbd⟩ : ∃ bd, bd = bodyAt b p := ⟨_, rfl⟩
                have he : e = .returned (.agg bd.cells) := he.trans (by rw [hbd]; rfl)
                have HBD := Lib.hid hbd
                clear hbd
                obtain ⟨y0, y1, y2, y3, y4, y5, y6, y7, y8, y9⟩ := bd
                have he : e = .returned (.agg #[.int .u32 y0, .int .i32 y1, .int .i32 y2, .int .i32 y3, .int .i32 y4, .int .i32 y5, .int .i32 y6, .int .i32 y7, .int .i32 y8, .int .i32 y9]) := he
                subst he
                obtain ⟨g1, rfl⟩ := Grow.of hb
                have BW := Lib.hid (bel_grow (hbel1.out.trans (HB2.out.mono hz1)) g1)
                clear hb c0 c1 c2 c3 c4 c5 c6 c7 c8 c9
                have OW := Lib.hid (ho1.out.below ((HB2.out).trans (g1.below.mono (by omega))))
                have hsz2 : w.heap.size ≤ g1.world.heap.size := by have := g1.le; omega
                go_wp2_with (at_builtin; refine own_append bodyE w.heap.size rfl (.tmp 46) (.tmp 49) 38 27 _ 40 rfl Tryz.underlying38 bodyInfoD rfl (by decide) _ (rowsL b k) ⟨y0, y1, y2, y3, y4, y5, y6, y7, y8, y9⟩ _ (by rfl) rfl (by first | rfl | simp [go_sem]) OW.out BW.out hsz2 (by simp [rowsL]; omega) ?_; intro v1 w2 own1 bel1 gr1 sz1)
                go_roundw
                case rel => exact ⟨k + 1, by omega, by go_num, by rw [rows_succ, ← HP.out, ← HBD.out]; exact own1, bel1⟩
                case measure => simp [intOf]; omega
          · have hkn : k = N := by omega
            have HK := Lib.hid hkn
            have HRD := Lib.hid (ho1.out.reads (by simp [rowsL]; omega))
            obtain ⟨A2, c2, rfl⟩ := ho1.out.form
            have hw : wellB b = true := by unfold wellB; rw [decide_eq_true HM.out, decide_eq_true (p := (b.length : Int) = _) (by rw [← HN.out]; have := HS.out; omega), decide_eq_true (by omega)]; rfl
            have hrows : rowsL b ((b.length - 8) / 40) = rowsL b k := by rw [show (b.length - 8) / 40 = k from by have := HS.out; omega]
            have HW := Lib.hid hw
            have HROWS := Lib.hid hrows
            clear hkn hw hrows
            by_cases he : checkL (rowsL b k) = 0
            · have HE := Lib.hid he
              have he' : (checkL (rowsL b k) == 0) = true := by simpa using he
              clear he
              go_wp2_with fail
              refine (viewCheck_any _ (rowsL b k) _ (by exact HRD.out)).mono ?_
              rintro e w1 ⟨rfl, hb⟩
              obtain ⟨g0, rfl⟩ := Grow.of hb
              clear hb
              go_wp2_with fail
              go_ret2
              exact ⟨_, ret_vi (by rw [dec_ok HW.out (by rw [HROWS.out]; exact HE.out)]), by rw [dec_ok HW.out (by rw [HROWS.out]; exact HE.out), HROWS.out]; exact HRD.out.grow g0, bel_grow hbel1.out g0, fun k h => ho1.out.base_le k h⟩
            · have HE := Lib.hid he
              have he' : (checkL (rowsL b k) == 0) = false := by simpa using he
              clear he
              go_wp2_with fail
              refine (viewCheck_any _ (rowsL b k) _ (by exact HRD.out)).mono ?_
              rintro e w1 ⟨rfl, hb⟩
              obtain ⟨g0, rfl⟩ := Grow.of hb
              clear hb
              go_wp2_with fail
              go_ret2
              exact ⟨.slice none 0 0, ret_vi (by rw [dec_err HW.out (by rw [HROWS.out]; exact HE.out), HROWS.out]), by rw [dec_err HW.out (by rw [HROWS.out]; exact HE.out)]; exact Reads.none _ _, bel_grow hbel1.out g0, fun k h => by simp [Value.ownBlock] at h⟩
      · have hs' : ((b.length : Int) == ((8 + N * 40 : Nat) : Int)) = false := by rw [beq_eq_false_iff_ne]; omega
        have HS := Lib.hid hs
        clear hs
        go_enter Tryz.func24, Tryz.ntmps24
        go_wp2_with fail
        refine G4.out.mono ?_
        rintro e w' ⟨rfl, k, rfl⟩
        go_wp2_with fail
        refine (size_any N _ (by omega)).mono ?_
        rintro e w' ⟨rfl, rfl⟩
        go_wp2_with fail
        go_ret2
        have hw : wellB b = false := by unfold wellB; rw [decide_eq_false (p := (b.length : Int) = _) (by rw [← HN.out]; have := HS.out; omega)]; simp
        exact ⟨.slice none 0 0, ret_vi (by rw [dec_bad hw]), by rw [dec_bad hw]; exact Reads.none _ _, bel_drewN (Below.refl _ _) _, fun k h => by simp [Value.ownBlock] at h⟩
    · obtain ⟨s, hs⟩ : ∃ s, strOfNums (b.take 4) = s := ⟨_, rfl⟩
      have hne : s ≠ ⟨#[66, 73, 76, 49]⟩ := hs ▸ magic_ne (fun a ha => HR.out.2.1 a (List.mem_of_mem_take ha)) hm
      have hne := magic_list hne
      rw [hs] at kc
      clear hs
      have HM := Lib.hid hm
      clear hm
      go_enter Tryz.func24, Tryz.ntmps24
      go_wp2
      go_ret2
      have hw : wellB b = false := by unfold wellB; rw [decide_eq_false HM.out]; simp
      exact ⟨.slice none 0 0, ret_vi (by rw [dec_bad hw]), by rw [dec_bad hw]; exact Reads.none _ _, Below.refl _ _, fun k h => by simp [Value.ownBlock] at h⟩
theorem decode_any (v : Value) (b : List Int) (w : World) (hb : RB w v b) :
    Calls Tryz.prog 24 #[v] w fun e w' => ∃ v', e = .returned (.tuple #[v', .int .i64 (decL b).2]) ∧ Reads bodyE w' v' (decL b).1 ∧ Below w.heap.size w w' :=
  (decode_own v b w hb).mono fun _ _ ⟨v', h1, h2, h3, _⟩ => ⟨v', h1, h2, h3⟩
end Go.Proofs.YtnhaiecbjipodaaGreatDoor
/- Plain facts of the encoding: what is encoded is decoded, and back. -/
namespace Go.Proofs.YtnhaiecbjipodaaGreatDoor
open Go.RowKit

theorem byteAt_right (pre r : List Int) (j : Nat) : byteAt (pre ++ r) (pre.length + j) = byteAt r j := by
  simp [byteAt, List.getD, List.getElem?_append_right]
theorem byteAt_left {pre r : List Int} {j : Nat} (h : j < pre.length) : byteAt (pre ++ r) j = byteAt pre j := by
  simp [byteAt, List.getD, List.getElem?_append_left h]
theorem numAt_right (pre r : List Int) (j : Nat) : numAt (pre ++ r) (pre.length + j) = numAt r j := by
  unfold numAt
  rw [byteAt_right, Nat.add_assoc, byteAt_right, Nat.add_assoc, byteAt_right, Nat.add_assoc, byteAt_right]
theorem bodyAt_right (pre r : List Int) : bodyAt (pre ++ r) pre.length = bodyAt r 0 := by
  unfold bodyAt
  rw [show numAt (pre ++ r) pre.length = numAt r 0 from numAt_right pre r 0]
  simp only [numAt_right, Nat.zero_add]
theorem body_rec {b : Body} (h : b.Fit) (suf : List Int) : bodyAt (recL b ++ suf) 0 = b := by
  have e0 : numAt (recL b ++ suf) 0 = b.key := num4_word _
  have e1 : numAt (recL b ++ suf) 4 = ug b.radius := num4_word _
  have e2 : numAt (recL b ++ suf) 8 = ug b.ax := num4_word _
  have e3 : numAt (recL b ++ suf) 12 = ug b.ay := num4_word _
  have e4 : numAt (recL b ++ suf) 16 = ug b.inv := num4_word _
  have e5 : numAt (recL b ++ suf) 20 = ug b.bounce := num4_word _
  have e6 : numAt (recL b ++ suf) 24 = ug b.px := num4_word _
  have e7 : numAt (recL b ++ suf) 28 = ug b.py := num4_word _
  have e8 : numAt (recL b ++ suf) 32 = ug b.vx := num4_word _
  have e9 : numAt (recL b ++ suf) 36 = ug b.vy := num4_word _
  unfold bodyAt
  simp only [Nat.zero_add, e0, e1, e2, e3, e4, e5, e6, e7, e8, e9, bodyOf, sg_ug h.radius, sg_ug h.ax, sg_ug h.ay, sg_ug h.inv, sg_ug h.bounce, sg_ug h.px, sg_ug h.py, sg_ug h.vx, sg_ug h.vy]
theorem rows_recs : ∀ (l : List Body) (pre : List Int), (∀ b ∈ l, b.Fit) → (List.range l.length).map (fun i => bodyAt (pre ++ l.flatMap recL) (pre.length + i * 40)) = l
  | [], _, _ => rfl
  | x :: r, pre, h => by
    rw [List.length_cons, List.range_succ_eq_map, List.map_cons, List.map_map, List.flatMap_cons]
    have h0 : bodyAt (pre ++ (recL x ++ r.flatMap recL)) (pre.length + 0 * 40) = x := by
      rw [Nat.zero_mul, Nat.add_zero, bodyAt_right]
      exact body_rec (h x (by simp)) _
    have h1 := rows_recs r (pre ++ recL x) (fun b hb => h b (by simp [hb]))
    rw [h0]
    congr 1
    refine Eq.trans ?_ h1
    refine List.map_congr_left fun i _ => ?_
    rw [← List.append_assoc, List.length_append, recL_len]
    show bodyAt _ (pre.length + (i + 1) * 40) = _
    rw [show pre.length + (i + 1) * 40 = pre.length + 40 + i * 40 from by omega]
theorem headL_len (n : Nat) : (headL n).length = 8 := rfl
theorem rows_bytes {l : List Body} (h : ∀ b ∈ l, b.Fit) : rowsL (bytesL l) l.length = l := rows_recs l (headL l.length) h
theorem num_bytes (l : List Body) : numAt (bytesL l) 4 = (l.length : Int) := num4_word _
theorem well_bytes (l : List Body) : wellB (bytesL l) = true := by
  unfold wellB
  rw [num_bytes, bytesL_len, decide_eq_true (by omega : 8 ≤ 8 + l.length * 40), decide_eq_true (by omega : ((8 + l.length * 40 : Nat) : Int) = 8 + (l.length : Int) * 40)]
  rfl
theorem dec_bytes {l : List Body} (h : ∀ b ∈ l, b.Fit) : decL (bytesL l) = if checkL l = 0 then (l, 0) else ([], checkL l) := by
  have hr : rowsL (bytesL l) (((bytesL l).length - 8) / 40) = l := by
    rw [bytesL_len, show (8 + l.length * 40 - 8) / 40 = l.length from by omega]
    exact rows_bytes h
  by_cases hc : checkL l = 0
  · rw [if_pos hc, dec_ok (well_bytes l) (by rw [hr]; exact hc), hr]
  · rw [if_neg hc, dec_err (well_bytes l) (by rw [hr]; exact hc), hr]

section
variable {b : List Int}
theorem chunk4 (hf : ∀ a ∈ b, 0 ≤ a ∧ a ≤ 255) {p : Nat} (h : p + 4 ≤ b.length) : (b.drop p).take 4 = word4 (numAt b p) := by
  unfold numAt
  rw [word4_num (byteAt_fit hf _) (byteAt_fit hf _) (byteAt_fit hf _)]
  refine List.ext_getElem (by simp; omega) fun i h1 h2 => ?_
  simp only [List.getElem_take, List.getElem_drop]
  rw [byteAt_get (by simp at h1; omega)]
  have hi : i < 4 := by simpa using h2
  obtain rfl | rfl | rfl | rfl : i = 0 ∨ i = 1 ∨ i = 2 ∨ i = 3 := by omega
  all_goals rfl
theorem chunk_next {p m n : Nat} : (b.drop p).take (m + n) = (b.drop p).take m ++ (b.drop (p + m)).take n := by
  rw [List.take_add, List.drop_drop]
theorem chunk40 (hf : ∀ a ∈ b, 0 ≤ a ∧ a ≤ 255) {p : Nat} (h : p + 40 ≤ b.length) : recL (bodyAt b p) = (b.drop p).take 40 := by
  have hr := fun q => numAt_range hf q
  have e : recL (bodyAt b p) = word4 (numAt b p) ++ (word4 (numAt b (p + 4)) ++ (word4 (numAt b (p + 8)) ++ (word4 (numAt b (p + 12)) ++ (word4 (numAt b (p + 16)) ++ (word4 (numAt b (p + 20)) ++ (word4 (numAt b (p + 24)) ++ (word4 (numAt b (p + 28)) ++ (word4 (numAt b (p + 32)) ++ word4 (numAt b (p + 36)))))))))) := by
    simp only [recL, fieldsL, bodyAt, bodyOf, ug_sg (hr _), List.flatMap_cons, List.flatMap_nil, List.append_nil]
  rw [e, ← chunk4 hf (p := p) (by omega), ← chunk4 hf (p := p + 4) (by omega), ← chunk4 hf (p := p + 8) (by omega), ← chunk4 hf (p := p + 12) (by omega), ← chunk4 hf (p := p + 16) (by omega), ← chunk4 hf (p := p + 20) (by omega), ← chunk4 hf (p := p + 24) (by omega), ← chunk4 hf (p := p + 28) (by omega), ← chunk4 hf (p := p + 32) (by omega), ← chunk4 hf (p := p + 36) (by omega)]
  rw [show (40 : Nat) = 4 + 36 from rfl, chunk_next, show (36 : Nat) = 4 + 32 from rfl, chunk_next, show (32 : Nat) = 4 + 28 from rfl, chunk_next, show (28 : Nat) = 4 + 24 from rfl, chunk_next, show (24 : Nat) = 4 + 20 from rfl, chunk_next,
    show (20 : Nat) = 4 + 16 from rfl, chunk_next, show (16 : Nat) = 4 + 12 from rfl, chunk_next, show (12 : Nat) = 4 + 8 from rfl, chunk_next, show (8 : Nat) = 4 + 4 from rfl, chunk_next]
theorem recs_rows (hf : ∀ a ∈ b, 0 ≤ a ∧ a ≤ 255) : ∀ n, 8 + n * 40 ≤ b.length → (rowsL b n).flatMap recL = (b.drop 8).take (n * 40)
  | 0, _ => by simp [rowsL]
  | n + 1, h => by
    rw [rows_succ, List.flatMap_append, recs_rows hf n (by omega), show (n + 1) * 40 = n * 40 + 40 from by omega, chunk_next]
    congr 1
    simp only [List.flatMap_cons, List.flatMap_nil, List.append_nil]
    exact chunk40 hf (by omega)
theorem well_parts (h : wellB b = true) : 8 ≤ b.length ∧ b.take 4 = magicL ∧ (b.length : Int) = 8 + numAt b 4 * 40 := by
  unfold wellB at h
  simp only [Bool.and_eq_true, decide_eq_true_eq] at h
  exact ⟨h.1, h.2.1, h.2.2⟩
theorem rows_len (n : Nat) : (rowsL b n).length = n := by simp [rowsL]
/-- Bytes that are decoded are the encoding of the result. -/
theorem bytes_rows (hf : ∀ a ∈ b, 0 ≤ a ∧ a ≤ 255) (h : wellB b = true) : bytesL (rowsL b ((b.length - 8) / 40)) = b := by
  obtain ⟨h8, hm, hn⟩ := well_parts h
  have hr := numAt_range hf 4
  obtain ⟨N, hN⟩ := Int.eq_ofNat_of_zero_le hr.1
  rw [hN] at hn
  have hlen : b.length = 8 + N * 40 := by omega
  have hq : (b.length - 8) / 40 = N := by omega
  rw [hq]
  unfold bytesL
  rw [rows_len, recs_rows hf N (by omega)]
  have h1 : headL N = b.take 8 := by
    unfold headL
    rw [show (8 : Nat) = 4 + 4 from rfl, List.take_add, hm, chunk4 hf (by omega), hN]
    rfl
  rw [h1, List.take_of_length_le (l := b.drop 8) (by simp; omega), List.take_append_drop]
theorem rows_fit (hf : ∀ a ∈ b, 0 ≤ a ∧ a ≤ 255) (n : Nat) : ∀ x ∈ rowsL b n, x.Fit := by
  intro x hx
  obtain ⟨i, _, rfl⟩ := List.mem_map.1 hx
  exact ⟨numAt_range hf _, sg_fit _, sg_fit _, sg_fit _, sg_fit _, sg_fit _, sg_fit _, sg_fit _, sg_fit _, sg_fit _⟩
theorem dec_facts (hf : ∀ a ∈ b, 0 ≤ a ∧ a ≤ 255) {y : List Body} {e : Int} (h : decL b = (y, e)) : (∀ x ∈ y, x.Fit) ∧ (¬ e = 0 → y = []) ∧ (e = 0 → encL y = (b, 0) ∧ checkL y = 0) ∧ y.length * 40 ≤ b.length := by
  by_cases hw : wellB b = true
  · have hl := well_parts hw
    by_cases hc : checkL (rowsL b ((b.length - 8) / 40)) = 0
    · rw [dec_ok hw hc] at h
      simp only [Prod.mk.injEq] at h
      obtain ⟨rfl, rfl⟩ := h
      refine ⟨rows_fit hf _, fun h => absurd rfl h, fun _ => ⟨by rw [enc_ok hc, bytes_rows hf hw], hc⟩, by rw [rows_len]; omega⟩
    · rw [dec_err hw hc] at h
      simp only [Prod.mk.injEq] at h
      obtain ⟨rfl, rfl⟩ := h
      exact ⟨by simp, fun _ => rfl, fun h => absurd h hc, by simp⟩
  · rw [dec_bad (by simpa using hw)] at h
    simp only [Prod.mk.injEq] at h
    obtain ⟨rfl, rfl⟩ := h
    exact ⟨by simp, fun _ => rfl, fun h => absurd h (by decide), by simp⟩
end

theorem bytes_inj {l m : List Body} (hl : ∀ b ∈ l, b.Fit) (hm : ∀ b ∈ m, b.Fit) (h : bytesL l = bytesL m) : l = m := by
  have hn : l.length = m.length := by
    have := congrArg (fun b => numAt b 4) h
    simp only [num_bytes] at this
    omega
  rw [← rows_bytes hl, h, hn, rows_bytes hm]

theorem well_take (l : List Body) {k : Nat} (hk : k < (bytesL l).length) : wellB ((bytesL l).take k) = false := by
  have hl := bytesL_len l
  have hlen : ((bytesL l).take k).length = k := by rw [List.length_take]; omega
  unfold wellB
  rw [hlen]
  by_cases h8 : 8 ≤ k
  · have e : numAt ((bytesL l).take k) 4 = l.length := by
      rw [← num_bytes l]
      have hb : ∀ j, j < 8 → byteAt ((bytesL l).take k) j = byteAt (bytesL l) j := fun j hj => by
        simp [byteAt, List.getD, List.getElem?_take_of_lt (show j < k by omega)]
      unfold numAt
      rw [hb 4 (by omega), hb 5 (by omega), hb 6 (by omega), hb 7 (by omega)]
    rw [e, decide_eq_false (p := (k : Int) = _) (by omega)]
    simp
  · rw [decide_eq_false h8]; rfl
theorem well_more (l : List Body) : wellB (bytesL l ++ [0]) = false := by
  have hl := bytesL_len l
  have e : numAt (bytesL l ++ [0]) 4 = l.length := by
    rw [← num_bytes l]
    unfold numAt
    rw [byteAt_left (by omega), byteAt_left (by omega), byteAt_left (by omega), byteAt_left (by omega)]
  unfold wellB
  rw [e, List.length_append, hl, decide_eq_false (p := ((8 + l.length * 40 + [0].length : Nat) : Int) = _) (by simp; omega)]
  simp
theorem well_set (l : List Body) {i : Nat} {y : Int} (hi : i < 4) (hne : y ≠ byteAt (bytesL l) (4 + i)) (hf : ∀ a ∈ bytesL l, 0 ≤ a ∧ a ≤ 255) : wellB ((bytesL l).set (4 + i) y) = false := by
  have hl := bytesL_len l
  have hg : ∀ j, byteAt ((bytesL l).set (4 + i) y) (4 + j) = if i = j then y else byteAt (bytesL l) (4 + j) := fun j => by
    by_cases h : i = j
    · subst h
      simp [byteAt, List.getD, show 4 + i < (bytesL l).length by omega]
    · rw [if_neg h]
      simp [byteAt, List.getD, List.getElem?_set_ne (show 4 + i ≠ 4 + j by omega)]
  have hn : numAt ((bytesL l).set (4 + i) y) 4 ≠ numAt (bytesL l) 4 := by
    intro e
    unfold numAt at e
    have g0 := hg 0
    have g1 := hg 1
    have g2 := hg 2
    have g3 := hg 3
    simp only [Nat.add_zero, Nat.reduceAdd] at g0 g1 g2 g3 e
    rw [g0, g1, g2, g3] at e
    have f0 := byteAt_fit hf 4
    have f1 := byteAt_fit hf 5
    have f2 := byteAt_fit hf 6
    have f3 := byteAt_fit hf 7
    unfold num4 at e
    obtain rfl | rfl | rfl | rfl : i = 0 ∨ i = 1 ∨ i = 2 ∨ i = 3 := by omega
    all_goals
      simp at e hne
      omega
  rw [num_bytes] at hn
  unfold wellB
  rw [List.length_set, hl, decide_eq_false (p := ((8 + l.length * 40 : Nat) : Int) = _) (by omega)]
  simp
theorem bytes_fit {l : List Body} (h : ∀ b ∈ l, b.Fit) (hn : l.length ≤ 4294967295) : ∀ a ∈ bytesL l, 0 ≤ a ∧ a ≤ 255 := by
  intro a ha
  unfold bytesL headL at ha
  rcases List.mem_append.1 ha with ha | ha
  · rcases List.mem_append.1 ha with ha | ha
    · exact magic_fit a ha
    · exact word4_fit (by omega) (by omega) a ha
  · obtain ⟨b, hb, ha⟩ := List.mem_flatMap.1 ha
    obtain ⟨f, hf, ha⟩ := List.mem_flatMap.1 ha
    have := fields_fit (h b hb) f hf
    exact word4_fit this.1 this.2 a ha
end Go.Proofs.YtnhaiecbjipodaaGreatDoor
