/- The contract of codec.Encode. -/
import Derived.Test.YtlibkfjafhggkaaCheck7
import Derived.Test.YtlibkfjafhggkaaPack
import Derived.Lib.SlBytesConst
namespace Go.Proofs.Ytlibkfjafhggkaa
open Go.RowKit
attribute [local go_sem] Grow.cell Grow.froz Grow.lt

def recL (b : Body) : List Int := (fieldsL b).flatMap word4
def headL (n : Nat) : List Int := [66, 73, 76, 49] ++ word4 n
def bytesL (l : List Body) : List Int := headL l.length ++ l.flatMap recL
def encL (l : List Body) : List Int × Int := if checkL l ≠ 0 then ([], checkL l) else (bytesL l, 0)
theorem enc_err {l : List Body} (h : ¬ checkL l = 0) : encL l = ([], checkL l) := by unfold encL; rw [if_pos h]
theorem enc_ok {l : List Body} (h : checkL l = 0) : encL l = (bytesL l, 0) := by unfold encL; rw [if_neg (by simpa using h)]
theorem recL_len (b : Body) : (recL b).length = 40 := rfl
theorem recs_len (l : List Body) : (l.flatMap recL).length = l.length * 40 := by
  induction l with
  | nil => rfl
  | cons a r ih => rw [List.flatMap_cons, List.length_append, ih, recL_len, List.length_cons]; omega
theorem bytesL_len (l : List Body) : (bytesL l).length = 8 + l.length * 40 := by
  unfold bytesL
  rw [List.length_append, recs_len]; rfl
theorem words_len (l : List Int) : (l.flatMap word4).length = l.length * 4 := by
  induction l with
  | nil => rfl
  | cons a r ih => rw [List.flatMap_cons, List.length_append, ih, word4_len, List.length_cons]; omega
theorem recs_take {l : List Body} {k : Nat} (h : k < l.length) : (l.take (k + 1)).flatMap recL = (l.take k).flatMap recL ++ recL l[k] := by
  rw [List.take_succ_eq_append_getElem h, List.flatMap_append]; simp
theorem words_take {l : List Int} {k : Nat} (h : k < l.length) : (l.take (k + 1)).flatMap word4 = (l.take k).flatMap word4 ++ word4 l[k] := by
  rw [List.take_succ_eq_append_getElem h, List.flatMap_append]; simp
theorem each_len {l : List Body} (h : eachL l = 0) : l.length ≤ 4096 := by
  unfold eachL at h
  split at h
  · exact absurd h (by decide)
  · omega
theorem check_each {l : List Body} (h : checkL l = 0) : eachL l = 0 := by
  unfold checkL at h
  split at h
  · rename_i h1; exact absurd h h1
  · rename_i h1; simpa using h1

theorem arr_at (k r ax ay m o px py vx vy : Int) (j : Nat) (hj : j < 10) (w : World) : (Instr.index 49 (.agg #[.int .u32 k, .int .u32 r, .int .u32 ax, .int .u32 ay, .int .u32 m, .int .u32 o, .int .u32 px, .int .u32 py, .int .u32 vx, .int .u32 vy]) (.int .i64 (j : Int))).run Try.prog w = .ok (.int .u32 ([k, r, ax, ay, m, o, px, py, vx, vy][j]'(by simpa using hj))) w := by
  obtain rfl | rfl | rfl | rfl | rfl | rfl | rfl | rfl | rfl | rfl : j = 0 ∨ j = 1 ∨ j = 2 ∨ j = 3 ∨ j = 4 ∨ j = 5 ∨ j = 6 ∨ j = 7 ∨ j = 8 ∨ j = 9 := by omega
  all_goals kernel_rfl

theorem full_new {w : World} {base : Nat} (l : List Int) (fr : Nat × Nat) (hf : ∀ a ∈ l, 0 ≤ a ∧ a ≤ 255) (hb : base ≤ w.heap.size) : OF (w.alloc (.cells (l.map (Value.int .u8)).toArray byteT fr)) base (.slice (some ⟨w.heap.size, 0, none⟩) l.length l.length) l := by
  refine ⟨hf, .inr ⟨w.heap.size, rfl, hb, fun i a ha => ?_⟩⟩
  have hc := heap_alloc_new w (.cells (l.map (Value.int .u8)).toArray byteT fr)
  unfold World.cell?
  rw [hc]
  simp [ha]
theorem magic_fit : ∀ a ∈ ([66, 73, 76, 49] : List Int), 0 ≤ a ∧ a ≤ 255 := by decide
theorem fields_fit {b : Body} (h : b.Fit) : ∀ a ∈ fieldsL b, 0 ≤ a ∧ a ≤ 4294967295 := by
  intro a ha
  simp only [fieldsL, List.mem_cons, List.not_mem_nil, or_false] at ha
  have := h.key
  rcases ha with rfl | rfl | rfl | rfl | rfl | rfl | rfl | rfl | rfl | rfl
  · exact this
  all_goals exact ug_fit _
theorem ret_vi {v : Value} {a b : Int} (h : a = b) : Ending.returned (.tuple #[v, .int .i64 a]) = .returned (.tuple #[v, .int .i64 b]) := by rw [h]
set_option maxHeartbeats 4000000 in
set_option maxRecDepth 100000 in
theorem encode_any (v : Value) (l : List Body) (w : World) (hl : Reads bodyE w v l) (hf : ∀ b ∈ l, b.Fit) :
    Calls Try.prog 9 #[v] w fun e w' => ∃ v', e = .returned (.tuple #[v', .int .i64 (encL l).2]) ∧ OB w' w.heap.size v' (encL l).1 ∧ Below w.heap.size w w' := by
  have q := hl.1
  have HR := Lib.hid hl
  have HFIT := Lib.hid hf
  obtain ⟨A, c, b1, o1, rfl, hA, hx⟩ := hl.bodies
  have hA := Lib.hid hA
  have hx := Lib.hid hx
  clear hl hf
  by_cases he : checkL l = 0
  · have HE := Lib.hid he
    have he' : (checkL l == 0) = true := by simpa using he
    have hlen := each_len (check_each he)
    have kc := fun (w : World) (C : Array Value) (n c : Nat) => Lib.run_convert_bytes_const (P := Try.prog) w 23 5 C n c Try.underlying23 Try.underlying5
    clear he
    go_enter Try.func9, Try.ntmps9
    go_wp2_with fail
    refine (viewCheck_any _ l _ (by exact HR.out)).mono ?_
    rintro e w1 ⟨rfl, hb⟩
    obtain ⟨g0, rfl⟩ := Grow.of hb
    clear hb
    go_wp2_with fail
    refine (put_any _ [66, 73, 76, 49] l.length w.heap.size _ (full_new [66, 73, 76, 49] (4, 5) magic_fit g0.le) (by simp; have := g0.le; omega) (by omega) (by omega) (by simp)).mono ?_
    rintro e w2 ⟨v2, rfl, HO, HB, hz⟩
    have HO := Lib.hid HO
    have HB := Lib.hid ((bel_alloc (bel_grow (Below.refl _ _) g0) _).trans HB)
    go_wp2_with fail
    go_loopw [5, 23] (fun v i wr => ∃ k : Nat, k ≤ l.length ∧ i = .int .i64 k ∧ OB wr w.heap.size v (headL l.length ++ (l.take k).flatMap recL) ∧ Below w.heap.size w wr) (fun _ i _ => l.length - (intOf i).toNat)
    case atStart => exact ⟨0, by omega, rfl, by simpa [headL] using HO.out, HB.out⟩
    case round =>
      obtain ⟨k, hk, rfl, ho, hbel⟩ := hrel
      have hz1 := hbel.size
      by_cases hlt : k < l.length
      · obtain ⟨eA, zA⟩ := hA.out (by omega)
        have ix := fun w => idx_body (c := c) eA hlt w
        clear eA
        obtain ⟨q0, q1, q2, q3, q4, q5, q6, q7, q8, q9⟩ := (hx.out k hlt).below hbel
        have zA' : b1 < wr.heap.size := Nat.lt_of_lt_of_le zA hbel.size
        have ho1 := Lib.hid ho
        have hbel1 := Lib.hid hbel
        have hfit := Lib.hid (fields_fit (HFIT.out l[k] (List.getElem_mem hlt)))
        have hpre : (headL l.length ++ (l.take k).flatMap recL).length = 8 + k * 40 := by rw [List.length_append, recs_len]; simp [headL, word4]; omega
        have hpre := Lib.hid hpre
        clear ho hbel
        go_wp2_with fail
        refine (pack_any _ _ _ _ _ _ _ _ _ _ _).mono ?_
        rintro e w3 ⟨rfl, hb⟩
        obtain ⟨g1, rfl⟩ := Grow.of hb
        have hbel2 := Lib.hid (bel_grow (bel_alloc hbel1.out (.cells #[.int .u32 l[k].key, .int .i32 l[k].radius, .int .i32 l[k].ax, .int .i32 l[k].ay, .int .i32 l[k].inv, .int .i32 l[k].bounce, .int .i32 l[k].px, .int .i32 l[k].py, .int .i32 l[k].vx, .int .i32 l[k].vy] 46)) g1)
        have ho2 := Lib.hid ((ho1.out.below (new_ok _)).below g1.below)
        clear hb
        have aa := arr_at l[k].key (ug l[k].radius) (ug l[k].ax) (ug l[k].ay) (ug l[k].inv) (ug l[k].bounce) (ug l[k].px) (ug l[k].py) (ug l[k].vx) (ug l[k].vy)
        have AA := Lib.hid aa
        clear aa
        go_wp2_with fail
        go_loopw [5, 29] (fun v j wx => ∃ m : Nat, m ≤ 10 ∧ j = .int .i64 m ∧ OB wx w.heap.size v (headL l.length ++ (l.take k).flatMap recL ++ ((fieldsL l[k]).take m).flatMap word4) ∧ Below w.heap.size w wx) (fun _ j _ => 10 - (intOf j).toNat)
        case atStart => exact ⟨0, by omega, rfl, by simpa using ho2.out, hbel2.out⟩
        case round =>
          obtain ⟨m, hm, rfl, ho, hbel⟩ := hrel
          have ho3 := Lib.hid ho
          have hbel3 := Lib.hid hbel
          clear ho hbel
          by_cases hlm : m < 10
          · have ax := AA.out m hlm
            have hml : m < (fieldsL l[k]).length := hlm
            obtain ⟨f, hf⟩ : ∃ f, f = (fieldsL l[k])[m] := ⟨_, rfl⟩
            have hf0 := hfit.out f (by rw [hf]; exact List.getElem_mem hml)
            have HF := Lib.hid hf
            obtain ⟨f0, f1⟩ := hf0
            rw [show ([l[k].key, ug l[k].radius, ug l[k].ax, ug l[k].ay, ug l[k].inv, ug l[k].bounce, ug l[k].px, ug l[k].py, ug l[k].vx, ug l[k].vy] : List Int)[m] = f from hf.symm] at ax
            clear hf
            go_wp2_with fail
            refine (put_any _ _ f w.heap.size _ ho3.out.of hbel3.out.size f0 f1 (by rw [List.length_append, words_len, List.length_take, hpre.out]; omega)).mono ?_
            rintro e w4 ⟨v4, rfl, HO4, HB4, hz4⟩
            have HO4 := Lib.hid HO4
            have HB4 := Lib.hid (hbel3.out.trans HB4)
            go_wp2_with fail
            go_roundw
            case rel => exact ⟨m + 1, by omega, by go_num, by rw [words_take hml, ← HF.out, ← List.append_assoc]; exact HO4.out, HB4.out⟩
            case measure => simp [intOf]; omega
          · have hm10 : m = 10 := by omega
            have HM := Lib.hid hm10
            clear hm10
            go_wp2
            go_roundw
            case rel => exact ⟨k + 1, by omega, by go_num, by have := ho3.out; rw [HM.out] at this; rw [recs_take hlt, ← List.append_assoc]; exact this, hbel3.out⟩
            case measure => simp [intOf]; omega
      · have hkl : k = l.length := by omega
        have HN := Lib.hid hkl
        have ho1 := Lib.hid ho
        clear hkl ho
        go_wp2
        go_ret2
        exact ⟨_, ret_vi (by rw [enc_ok HE.out]), by rw [enc_ok HE.out]; have := ho1.out; rw [HN.out, List.take_length] at this; exact this, hbel⟩
  · have HE := Lib.hid he
    have he' : (checkL l == 0) = false := by simpa using he
    clear he
    go_enter Try.func9, Try.ntmps9
    go_wp2_with fail
    refine (viewCheck_any _ l _ (by exact HR.out)).mono ?_
    rintro e w1 ⟨rfl, hb⟩
    obtain ⟨g0, rfl⟩ := Grow.of hb
    clear hb
    go_wp2_with fail
    go_ret2
    exact ⟨.slice none 0 0, ret_vi (by rw [enc_err HE.out]), by rw [enc_err HE.out]; exact OB.nil _ _, bel_grow (Below.refl _ _) g0⟩
end Go.Proofs.Ytlibkfjafhggkaa
