/- The contract of the reference's Bytes. -/
import Derived.Test.YtlibkfjafhggkaaEnc
import Derived.Deep.DeepCutAuto
import Derived.Deep.RegionHeld3
import Derived.Deep.DrawnRows
namespace Go.Proofs.Ytlibkfjafhggkaa
open Go.RowKit
attribute [local go_sem] Grow.cell Grow.froz Grow.lt
attribute [local go_sem ↓] Go.wp_at_zero Go.wp_at_succ

/-- What the body of the loop knows at each step: the bytes so far, the body's own block. -/
structure Out (base : Nat) (w0 : World) (B : Nat) (x : Body) (n : Nat) (w : World) (v : Value) (l : List Int) : Prop where
  len : l.length + 4 * n ≤ 1000000
  own : OB w base v l
  bel : Below base w0 w
  size : base ≤ w.heap.size
  box : BoxAt w B x
  ne : v.ownBlock ≠ some B
section
variable {base B r : Nat} {w0 w w' : World} {x : Body} {v : Value} {l : List Int}
theorem below_drew {n : Nat} {a w : World} (h : Below n a w) : Below n a w.drew := ⟨h.os, h.tape, h.output, h.size, h.block⟩
theorem Out.lt (h : Out base w0 B x r w v l) : B < w.heap.size := World.block_lt_of_cell? w _ h.box.1
theorem Out.drew (h : Out base w0 B x r w v l) : Out base w0 B x r w.drew v l := ⟨h.len, h.own.below (bel_drew (Below.refl _ _)), below_drew h.bel, h.size, h.box, h.ne⟩
theorem BoxAt.keep {b : Nat} {x : Body} (h : BoxAt w b x) (k : ∀ o, w'.cell? ⟨b, o, none⟩ = w.cell? ⟨b, o, none⟩) : BoxAt w' b x := by
  obtain ⟨h0, h1, h2, h3, h4, h5, h6, h7, h8, h9⟩ := h
  exact ⟨(k _).trans h0, (k _).trans h1, (k _).trans h2, (k _).trans h3, (k _).trans h4, (k _).trans h5, (k _).trans h6, (k _).trans h7, (k _).trans h8, (k _).trans h9⟩
theorem Out.alloc (h : Out base w0 B x r w v l) (o : Obj) : Out base w0 B x r (w.alloc o) v l :=
  ⟨h.len, h.own.below (new_ok _), h.bel.alloc h.size _, by have := h.size; simp; omega, h.box.keep (keepB (new_ok o) B h.lt), h.ne⟩
end

/-- A word that has been laid in a block of its own. -/
def Laid (w : World) (q : Nat) (ys : List Int) : Prop := ∀ j u, ys[j]? = some u → w.cell? ((⟨q, 0, none⟩ : Addr).add j) = some (.int .u8 u)

theorem word_out (base B r : Nat) (w0 : World) (x : Body) (v : Value) (l : List Int) (n : Int) (w : World) (h : Out base w0 B x r w v l) (h0 : -2147483648 ≤ n) (h1 : n ≤ 4294967295) :
    Calls Try.prog 25 #[.int .i64 n] w fun e w' => ∃ q, e = .returned (.slice (some ⟨q, 0, none⟩) 4 4) ∧ Laid w' q (word4 (ug n)) ∧ Out base w0 B x r w' v l :=
  (word_any n w h0 h1).mono fun _ _ ⟨he, hw⟩ => ⟨_, he, by subst hw; exact new_bytes _ _, by subst hw; exact h.alloc _⟩

theorem step_bytes {P : Program} (hP : P = Try.prog) {ops : Array Oper} {o : Oper} {a : Act} {K : Act → World → Prop} {Q : Exit → Act → World → Prop} {E : Prop} {base B r : Nat} {w0 W : World} {x : Body} {v : Value} {l : List Int} {q : Nat} {n : Int} (hgd : o.guard = none) (s y : Operand)
    (ho : o.op = .call { callee := .builtin .append, args := #[s, y], argTypes := #[23, 23] })
    (H : Out base w0 B x (r + 1) W v l) (HQ : Laid W q (word4 (ug n))) (hs : a.eval s = v) (hx : a.eval y = .slice (some ⟨q, 0, none⟩) 4 4)
    (h : ∀ v1 w1, Out base w0 B x r w1 v1 (l ++ word4 (ug n)) → K (a.put o.dst v1) w1) :
    if Region.wanted o (yielded ops a.tmps) = true then Oper.wp P o a W K Q else E := by
  subst hP
  have hl := H.len
  have hw : Region.wanted o (yielded ops a.tmps) = true := by simp [Region.wanted, hgd]
  rw [if_pos hw]
  obtain ⟨i0, hi, hz0, hz1, hz2⟩ := info_parts byte_info
  have hone : ∀ u ∈ (word4 (ug n)).map (Value.int .u8), u.oneCell' = true := by
    intro u hu
    obtain ⟨m, _, rfl⟩ := List.mem_map.1 hu
    rfl
  have hn' : ∀ j u, ((word4 (ug n)).map (Value.int .u8))[j]? = some u → W.cell? ((⟨q, 0, none⟩ : Addr).add j) = some u := by
    intro j u hu
    rw [List.getElem?_map] at hu
    obtain ⟨m, hm, rfl⟩ := Option.map_eq_some_iff.1 hu
    exact HQ j m hm
  refine wp_append_lies W s y 23 ho base byteT i0 (.int .u8 0) 1 1 Try.underlying23 hi hz0 hz1 hz2 rfl (by decide) v l.length (l.flatMap byteE.cells) hs H.own.2 ⟨q, 0, none⟩ 4 4 ((word4 (ug n)).map (Value.int .u8)) hx rfl
      hn' hone (by decide) (by simp only [maxLen]; omega) (by omega) H.size W.heap.size rfl ?_
  intro g cap w1 hown hg hat hlt
  have hfit : ∀ b ∈ l ++ word4 (ug n), 0 ≤ b ∧ b ≤ 255 := fun b hb => (List.mem_append.1 hb).elim (H.own.1 b) (word4_fit (ug_fit n).1 (ug_fit n).2 b)
  refine h _ w1 ⟨by rw [List.length_append, word4_len]; omega, ⟨hfit, ?_⟩, H.bel.grown hg H.size (fun k hk => Own.base_le H.own.2 k hk), Nat.le_trans H.size hg.size, ?_, ?_⟩
  · unfold Own
    rw [List.length_append, List.flatMap_append, byte_flat (word4 (ug n))]
    exact hown
  · refine H.box.keep fun o => World.cell?_of_block (hg.block B H.lt (fun e => H.ne e.symm))
  · intro e
    have e' : g = B := by simpa [Value.ownBlock] using e
    rcases hat with hat | hat
    · exact H.ne (by rw [hat, e'])
    · have := H.lt; omega
theorem new_bytes_at (w : World) (l : List Int) (q : Nat) (hq : q = w.heap.size) : ∀ j u, l[j]? = some u → (w.alloc (.cells (l.map (Value.int .u8)).toArray byteT)).cell? ((⟨q, 0, none⟩ : Addr).add j) = some (.int .u8 u) := by
  subst hq; exact new_bytes w l
theorem ob_ne {base : Nat} {w : World} {v : Value} {l : List Int} (h : OB w base v l) : v.ownBlock ≠ some w.heap.size := by
  intro e
  rcases h.2.2 with ⟨rfl, _⟩ | ⟨g, cap, cur, rfl, _, hg, _⟩
  · simp [Value.ownBlock] at e
  · have e' : g = w.heap.size := by simpa [Value.ownBlock] using e
    have := lt_of_block hg
    omega
theorem ug_key {n : Int} (h0 : 0 ≤ n) (h1 : n ≤ 4294967295) : ug n = n := by unfold ug; omega
theorem rec_parts {x0 x1 x2 x3 x4 x5 x6 x7 x8 x9 : Int} (h0 : 0 ≤ x0) (h1 : x0 ≤ 4294967295) : recL ⟨x0, x1, x2, x3, x4, x5, x6, x7, x8, x9⟩ = word4 (ug x0) ++ (word4 (ug x1) ++ (word4 (ug x2) ++ (word4 (ug x3) ++ (word4 (ug x4) ++ (word4 (ug x5) ++ (word4 (ug x6) ++ (word4 (ug x7) ++ (word4 (ug x8) ++ word4 (ug x9))))))))) := by
  rw [ug_key h0 h1]; rfl
set_option maxHeartbeats 8000000 in
set_option maxRecDepth 100000 in
theorem bytes_any (v : Value) (l : List Body) (w : World) (hl : Reads bodyE w v l) (hf : ∀ b ∈ l, b.Fit) (hn : l.length ≤ 4096) :
    Calls Try.prog 16 #[v] w fun e w' => ∃ v', e = .returned v' ∧ OB w' w.heap.size v' (bytesL l) ∧ Below w.heap.size w w' := by
  have q := hl.1
  have HFIT := Lib.hid hf
  obtain ⟨A, c, b1, o1, rfl, hA, hx⟩ := hl.bodies
  have hA := Lib.hid hA
  have hx := Lib.hid hx
  clear hl hf
  have kc := fun (w : World) (C : Array Value) (n c : Nat) => Lib.run_convert_bytes_const (P := Try.prog) w 23 5 C n c Try.underlying23 Try.underlying5
  go_enter Try.func16, Try.ntmps16
  go_wp2_with fail
  refine (word_any _ _ (by omega) (by omega)).mono ?_
  rintro e w1 ⟨rfl, rfl⟩
  have hug : ug (l.length : Int) = l.length := ug_key (by omega) (by omega)
  rw [hug]
  have fl : OF ((w.alloc (.cells (([66, 73, 76, 49] : List Int).map (Value.int .u8)).toArray byteT (4, 5))).alloc (.cells ((word4 (l.length : Int)).map (Value.int .u8)).toArray byteT)) w.heap.size (.slice (some ⟨w.heap.size, 0, none⟩) 4 4) [66, 73, 76, 49] := (full_new [66, 73, 76, 49] (4, 5) magic_fit (Nat.le_refl _)).below (new_ok _)
  have FL := Lib.hid fl
  clear hug fl
  go_wp2_with (at_builtin; go_loud (refine bytes_append w.heap.size rfl (.tmp 7) (.tmp 10) rfl _ [66, 73, 76, 49] (word4 (l.length : Int)) rfl ⟨w.heap.size + 1, 0, none⟩ 4 rfl (word4_fit (by omega) (by omega)) (by simp [word4]) (new_bytes_at (w.alloc (.cells (([66, 73, 76, 49] : List Int).map (Value.int .u8)).toArray byteT (4, 5))) _ _ (by simp)) FL.out (bel_alloc (bel_alloc (Below.refl _ _) _) _) (by simp; omega) (by simp [word4]) ?_); intro v1 w1 HO HB hz hz1)
  have HO := Lib.hid HO
  have HB := Lib.hid HB
  clear FL
  go_wp2_with fail
  go_loopw [3, 4] (fun v i wr => ∃ k : Nat, k ≤ l.length ∧ i = .int .i64 k ∧ OB wr w.heap.size v (headL l.length ++ (l.take k).flatMap recL) ∧ Below w.heap.size w wr) (fun _ i _ => l.length - (intOf i).toNat)
  case atStart => exact ⟨0, by omega, rfl, by simpa [headL] using HO.out, HB.out⟩
  case round =>
    obtain ⟨k, hk, rfl, ho, hbel⟩ := hrel
    by_cases hlt : k < l.length
    · obtain ⟨eA, zA⟩ := hA.out (by omega)
      have ix := fun w => idx_body (c := c) eA hlt w
      clear eA
      obtain ⟨q0, q1, q2, q3, q4, q5, q6, q7, q8, q9⟩ := (hx.out k hlt).below hbel
      have hpre : (headL l.length ++ (l.take k).flatMap recL).length = 8 + k * 40 := by rw [List.length_append, recs_len]; simp [headL, word4]; omega
      have hfit := HFIT.out l[k] (List.getElem_mem hlt)
      obtain ⟨pre, hp⟩ : ∃ pre, pre = headL l.length ++ (l.take k).flatMap recL := ⟨_, rfl⟩
      rw [← hp] at ho hpre
      have HP := Lib.hid hp
      obtain ⟨x, hxx⟩ : ∃ x, x = l[k] := ⟨_, rfl⟩
      rw [← hxx] at q0 q1 q2 q3 q4 q5 q6 q7 q8 q9 hfit
      have HX := Lib.hid hxx
      clear hp hxx
      obtain ⟨x0, x1, x2, x3, x4, x5, x6, x7, x8, x9⟩ := x
      obtain ⟨⟨f00, f01⟩, ⟨f10, f11⟩, ⟨f20, f21⟩, ⟨f30, f31⟩, ⟨f40, f41⟩, ⟨f50, f51⟩, ⟨f60, f61⟩, ⟨f70, f71⟩, ⟨f80, f81⟩, ⟨f90, f91⟩⟩ := hfit
      simp only at f00 f01 f10 f11 f20 f21 f30 f31 f40 f41 f50 f51 f60 f61 f70 f71 f80 f81 f90 f91 q0 q1 q2 q3 q4 q5 q6 q7 q8 q9
      have hout : Out w.heap.size w wr.heap.size ⟨x0, x1, x2, x3, x4, x5, x6, x7, x8, x9⟩ 10 (wr.alloc (.cells #[.int .u32 x0, .int .i32 x1, .int .i32 x2, .int .i32 x3, .int .i32 x4, .int .i32 x5, .int .i32 x6, .int .i32 x7, .int .i32 x8, .int .i32 x9] 46)) u3 pre :=
        ⟨by omega, ho.below (new_ok _), hbel.alloc hbel.size _, by have := hbel.size; simp; omega, box_of (x := ⟨x0, x1, x2, x3, x4, x5, x6, x7, x8, x9⟩) (heap_alloc_new wr _), ob_ne ho⟩
      have HO := hout.drew
      have W0 := IntWalk.i64_in x0 (by omega)
      have W1 := IntWalk.i64_in x1 (by omega)
      have W2 := IntWalk.i64_in x2 (by omega)
      have W3 := IntWalk.i64_in x3 (by omega)
      have W4 := IntWalk.i64_in x4 (by omega)
      have W5 := IntWalk.i64_in x5 (by omega)
      have W6 := IntWalk.i64_in x6 (by omega)
      have W7 := IntWalk.i64_in x7 (by omega)
      have W8 := IntWalk.i64_in x8 (by omega)
      have W9 := IntWalk.i64_in x9 (by omega)
      clear hout ho hbel
      go_wp2_with fail
      go_region_held3 (fun w' => w'.cell? ⟨wr.heap.size, 0, none⟩ = some (.int .u32 x0) ∧ w'.cell? ⟨wr.heap.size, 1, none⟩ = some (.int .i32 x1)) (exact ⟨HO.box.1, HO.box.2.1⟩)
        (first
          | (go_at_call 25; refine (word_out _ _ _ _ _ _ _ _ _ HO (by omega) (by omega)).mono ?_; rintro e w1 ⟨qq, rfl, HQ, HO⟩)
          | (refine step_bytes rfl (by rfl) _ _ (by rfl) HO HQ (by rfl) (by rfl) ?_; intro v1 w1 HO))
      have HO := HO.drew
      go_wp2_with fail
      go_region_held3 (fun w' => w'.cell? ⟨wr.heap.size, 2, none⟩ = some (.int .i32 x2) ∧ w'.cell? ⟨wr.heap.size, 3, none⟩ = some (.int .i32 x3)) (exact ⟨HO.box.2.2.1, HO.box.2.2.2.1⟩)
        (first
          | (go_at_call 25; refine (word_out _ _ _ _ _ _ _ _ _ HO (by omega) (by omega)).mono ?_; rintro e w1 ⟨qq, rfl, HQ, HO⟩)
          | (refine step_bytes rfl (by rfl) _ _ (by rfl) HO HQ (by rfl) (by rfl) ?_; intro v1 w1 HO))
      have HO := HO.drew
      go_wp2_with fail
      go_region_held3 (fun w' => w'.cell? ⟨wr.heap.size, 4, none⟩ = some (.int .i32 x4) ∧ w'.cell? ⟨wr.heap.size, 5, none⟩ = some (.int .i32 x5)) (exact ⟨HO.box.2.2.2.2.1, HO.box.2.2.2.2.2.1⟩)
        (first
          | (go_at_call 25; refine (word_out _ _ _ _ _ _ _ _ _ HO (by omega) (by omega)).mono ?_; rintro e w1 ⟨qq, rfl, HQ, HO⟩)
          | (refine step_bytes rfl (by rfl) _ _ (by rfl) HO HQ (by rfl) (by rfl) ?_; intro v1 w1 HO))
      have HO := HO.drew
      go_wp2_with fail
      go_region_held3 (fun w' => w'.cell? ⟨wr.heap.size, 6, none⟩ = some (.int .i32 x6) ∧ w'.cell? ⟨wr.heap.size, 7, none⟩ = some (.int .i32 x7)) (exact ⟨HO.box.2.2.2.2.2.2.1, HO.box.2.2.2.2.2.2.2.1⟩)
        (first
          | (go_at_call 25; refine (word_out _ _ _ _ _ _ _ _ _ HO (by omega) (by omega)).mono ?_; rintro e w1 ⟨qq, rfl, HQ, HO⟩)
          | (refine step_bytes rfl (by rfl) _ _ (by rfl) HO HQ (by rfl) (by rfl) ?_; intro v1 w1 HO))
      have HO := HO.drew
      go_wp2_with fail
      go_region_held3 (fun w' => w'.cell? ⟨wr.heap.size, 8, none⟩ = some (.int .i32 x8) ∧ w'.cell? ⟨wr.heap.size, 9, none⟩ = some (.int .i32 x9)) (exact ⟨HO.box.2.2.2.2.2.2.2.2.1, HO.box.2.2.2.2.2.2.2.2.2⟩)
        (first
          | (go_at_call 25; refine (word_out _ _ _ _ _ _ _ _ _ HO (by omega) (by omega)).mono ?_; rintro e w1 ⟨qq, rfl, HQ, HO⟩)
          | (refine step_bytes rfl (by rfl) _ _ (by rfl) HO HQ (by rfl) (by rfl) ?_; intro v1 w1 HO))
      have HO2 := Lib.hid HO
      clear HO
      clear W0 W1 W2 W3 W4 W5 W6 W7 W8 W9
      go_wp2
      go_roundw
      case rel => exact ⟨k + 1, by omega, by go_num, by have := HO2.out.own; rw [recs_take hlt, ← List.append_assoc, ← HP.out, ← HX.out, rec_parts f00 f01]; simpa only [List.append_assoc] using this, HO2.out.bel⟩
      case measure => simp [intOf]; omega
    · have hkl : k = l.length := by omega
      have HN := Lib.hid hkl
      have ho1 := Lib.hid ho
      clear hkl ho
      go_wp2
      go_ret
      exact ⟨_, rfl, by have := ho1.out; rw [HN.out, List.take_length] at this; exact this, hbel⟩
end Go.Proofs.Ytlibkfjafhggkaa
