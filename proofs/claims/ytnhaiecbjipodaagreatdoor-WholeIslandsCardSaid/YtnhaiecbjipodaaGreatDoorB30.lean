/- Contracts of the program's functions, by walks, and plain facts beside them: Ref21, RefDec. -/
import Derived.Test.YtnhaiecbjipodaaGreatDoorB29
import Derived.Deep.DeepCutAuto
import Derived.Deep.RegionHeld3
import Derived.Deep.DrawnRows
/- The contract of the reference's Bytes. -/
namespace Go.Proofs.YtnhaiecbjipodaaGreatDoor
open Go.RowKit
attribute [local go_sem] Grow.cell Grow.froz Grow.lt
attribute [local go_sem ↓] Go.wp_at_zero Go.wp_at_succ

/-- What the body of the loop knows at each step: the bytes so far, the body's own block. -/
structure Out (base : Nat) (w0 : World) (B : Nat) (x : Body) (n : Nat) (w : World) (v : Value) (l : List Int) : Prop where
  len : l.length + 4 * n ≤ 1000000
  own : OB w base v l
  bel : Below base w0 w
  size : base ≤ w.heap.size
  box : BoxAt w B x
  ne : v.ownBlock ≠ some B
section
variable {base B r : Nat} {w0 w w' : World} {x : Body} {v : Value} {l : List Int}
theorem below_drew {n : Nat} {a w : World} (h : Below n a w) : Below n a w.drew := ⟨h.os, h.tape, h.output, h.size, h.block⟩
theorem Out.lt (h : Out base w0 B x r w v l) : B < w.heap.size := World.block_lt_of_cell? w _ h.box.1
theorem Out.drew (h : Out base w0 B x r w v l) : Out base w0 B x r w.drew v l := ⟨h.len, h.own.below (bel_drew (Below.refl _ _)), below_drew h.bel, h.size, h.box, h.ne⟩
theorem BoxAt.keep {b : Nat} {x : Body} (h : BoxAt w b x) (k : ∀ o, w'.cell? ⟨b, o, none⟩ = w.cell? ⟨b, o, none⟩) : BoxAt w' b x := by
  obtain ⟨h0, h1, h2, h3, h4, h5, h6, h7, h8, h9⟩ := h
  exact ⟨(k _).trans h0, (k _).trans h1, (k _).trans h2, (k _).trans h3, (k _).trans h4, (k _).trans h5, (k _).trans h6, (k _).trans h7, (k _).trans h8, (k _).trans h9⟩
theorem Out.alloc (h : Out base w0 B x r w v l) (o : Obj) : Out base w0 B x r (w.alloc o) v l :=
  ⟨h.len, h.own.below (new_ok _), h.bel.alloc h.size _, by have := h.size; simp; omega, h.box.keep (keepB (new_ok o) B h.lt), h.ne⟩
end

/-- A word that has been laid in a block of its own. -/
def Laid (w : World) (q : Nat) (ys : List Int) : Prop := ∀ j u, ys[j]? = some u → w.cell? ((⟨q, 0, none⟩ : Addr).add j) = some (.int .u8 u)

theorem word_out (base B r : Nat) (w0 : World) (x : Body) (v : Value) (l : List Int) (n : Int) (w : World) (h : Out base w0 B x r w v l) (h0 : -2147483648 ≤ n) (h1 : n ≤ 4294967295) :
    Calls Tryz.prog 103 #[.int .i64 n] w fun e w' => ∃ q, e = .returned (.slice (some ⟨q, 0, none⟩) 4 4) ∧ Laid w' q (word4 (ug n)) ∧ Out base w0 B x r w' v l :=
  (word_any n w h0 h1).mono fun _ _ ⟨he, hw⟩ => ⟨_, he, by subst hw; exact new_bytes _ _, by subst hw; exact h.alloc _⟩

theorem step_bytes {P : Program} (hP : P = Tryz.prog) {ops : Array Oper} {o : Oper} {a : Act} {K : Act → World → Prop} {Q : Exit → Act → World → Prop} {E : Prop} {base B r : Nat} {w0 W : World} {x : Body} {v : Value} {l : List Int} {q : Nat} {n : Int} (hgd : o.guard = none) (s y : Operand)
    (ho : o.op = .call { callee := .builtin .append, args := #[s, y], argTypes := #[28, 28] })
    (H : Out base w0 B x (r + 1) W v l) (HQ : Laid W q (word4 (ug n))) (hs : a.eval s = v) (hx : a.eval y = .slice (some ⟨q, 0, none⟩) 4 4)
    (h : ∀ v1 w1, Out base w0 B x r w1 v1 (l ++ word4 (ug n)) → K (a.put o.dst v1) w1) :
    if Region.wanted o (yielded ops a.tmps) = true then Oper.wp P o a W K Q else E := by
  subst hP
  have hl := H.len
  have hw : Region.wanted o (yielded ops a.tmps) = true := by simp [Region.wanted, hgd]
  rw [if_pos hw]
  obtain ⟨i0, hi, hz0, hz1, hz2⟩ := info_parts byte_info
  have hone : ∀ u ∈ (word4 (ug n)).map (Value.int .u8), u.oneCell' = true := by
    intro u hu
    obtain ⟨m, _, rfl⟩ := List.mem_map.1 hu
    rfl
  have hn' : ∀ j u, ((word4 (ug n)).map (Value.int .u8))[j]? = some u → W.cell? ((⟨q, 0, none⟩ : Addr).add j) = some u := by
    intro j u hu
    rw [List.getElem?_map] at hu
    obtain ⟨m, hm, rfl⟩ := Option.map_eq_some_iff.1 hu
    exact HQ j m hm
  refine wp_append_lies W s y 28 ho base byteT i0 (.int .u8 0) 1 1 Tryz.underlying28 hi hz0 hz1 hz2 rfl (by decide) v l.length (l.flatMap byteE.cells) hs H.own.2 ⟨q, 0, none⟩ 4 4 ((word4 (ug n)).map (Value.int .u8)) hx rfl
      hn' hone (by decide) (by simp only [maxLen]; omega) (by omega) H.size W.heap.size rfl ?_
  intro g cap w1 hown hg hat hlt
  have hfit : ∀ b ∈ l ++ word4 (ug n), 0 ≤ b ∧ b ≤ 255 := fun b hb => (List.mem_append.1 hb).elim (H.own.1 b) (word4_fit (ug_fit n).1 (ug_fit n).2 b)
  refine h _ w1 ⟨by rw [List.length_append, word4_len]; omega, ⟨hfit, ?_⟩, H.bel.grown hg H.size (fun k hk => Own.base_le H.own.2 k hk), Nat.le_trans H.size hg.size, ?_, ?_⟩
  · unfold Own
    rw [List.length_append, List.flatMap_append, byte_flat (word4 (ug n))]
    exact hown
  · refine H.box.keep fun o => World.cell?_of_block (hg.block B H.lt (fun e => H.ne e.symm))
  · intro e
    have e' : g = B := by simpa [Value.ownBlock] using e
    rcases hat with hat | hat
    · exact H.ne (by rw [hat, e'])
    · have := H.lt; omega
theorem new_bytes_at (w : World) (l : List Int) (q : Nat) (hq : q = w.heap.size) : ∀ j u, l[j]? = some u → (w.alloc (.cells (l.map (Value.int .u8)).toArray byteT)).cell? ((⟨q, 0, none⟩ : Addr).add j) = some (.int .u8 u) := by
  subst hq; exact new_bytes w l
theorem ob_ne {base : Nat} {w : World} {v : Value} {l : List Int} (h : OB w base v l) : v.ownBlock ≠ some w.heap.size := by
  intro e
  rcases h.2.2 with ⟨rfl, _⟩ | ⟨g, cap, cur, rfl, _, hg, _⟩
  · simp [Value.ownBlock] at e
  · have e' : g = w.heap.size := by simpa [Value.ownBlock] using e
    have := lt_of_block hg
    omega
theorem ug_key {n : Int} (h0 : 0 ≤ n) (h1 : n ≤ 4294967295) : ug n = n := by unfold ug; omega
theorem rec_parts {x0 x1 x2 x3 x4 x5 x6 x7 x8 x9 : Int} (h0 : 0 ≤ x0) (h1 : x0 ≤ 4294967295) : recL ⟨x0, x1, x2, x3, x4, x5, x6, x7, x8, x9⟩ = word4 (ug x0) ++ (word4 (ug x1) ++ (word4 (ug x2) ++ (word4 (ug x3) ++ (word4 (ug x4) ++ (word4 (ug x5) ++ (word4 (ug x6) ++ (word4 (ug x7) ++ (word4 (ug x8) ++ word4 (ug x9))))))))) := by
  rw [ug_key h0 h1]; rfl
set_option maxHeartbeats 8000000 in
set_option maxRecDepth 100000 in
theorem bytes_any (v : Value) (l : List Body) (w : World) (hl : Reads bodyE w v l) (hf : ∀ b ∈ l, b.Fit) (hn : l.length ≤ 4096) :
    Calls Tryz.prog 68 #[v] w fun e w' => ∃ v', e = .returned v' ∧ OB w' w.heap.size v' (bytesL l) ∧ Below w.heap.size w w' := by
  have q := hl.1
  have HFIT := Lib.hid hf
  obtain ⟨A, c, b1, o1, rfl, hA, hx⟩ := hl.bodies
  have hA := Lib.hid hA
  have hx := Lib.hid hx
  clear hl hf
  have kc := fun (w : World) (C : Array Value) (n c : Nat) => Lib.run_convert_bytes_const (P := Tryz.prog) w 28 5 C n c Tryz.underlying28 Tryz.underlying5
  go_enter Tryz.func68, Tryz.ntmps68
  go_wp2_with fail
  refine (word_any _ _ (by omega) (by omega)).mono ?_
  rintro e w1 ⟨rfl, rfl⟩
  have hug : ug (l.length : Int) = l.length := ug_key (by omega) (by omega)
  rw [hug]
  have fl : OF ((w.alloc (.cells (([66, 73, 76, 49] : List Int).map (Value.int .u8)).toArray byteT (4, 5))).alloc (.cells ((word4 (l.length : Int)).map (Value.int .u8)).toArray byteT)) w.heap.size (.slice (some ⟨w.heap.size, 0, none⟩) 4 4) [66, 73, 76, 49] := (full_new [66, 73, 76, 49] (4, 5) magic_fit (Nat.le_refl _)).below (new_ok _)
  have FL := Lib.hid fl
  clear hug fl
  go_wp2_with (at_builtin; go_loud (refine bytes_append w.heap.size rfl (.tmp 7) (.tmp 10) rfl _ [66, 73, 76, 49] (word4 (l.length : Int)) rfl ⟨w.heap.size + 1, 0, none⟩ 4 rfl (word4_fit (by omega) (by omega)) (by simp [word4]) (new_bytes_at (w.alloc (.cells (([66, 73, 76, 49] : List Int).map (Value.int .u8)).toArray byteT (4, 5))) _ _ (by simp)) FL.out (bel_alloc (bel_alloc (Below.refl _ _) _) _) (by simp; omega) (by simp [word4]) ?_); intro v1 w1 HO HB hz hz1)
  have HO := Lib.hid HO
  have HB := Lib.hid HB
  clear FL
  go_wp2_with fail
  go_loopw [3, 4] (fun v i wr => ∃ k : Nat, k ≤ l.length ∧ i = .int .i64 k ∧ OB wr w.heap.size v (headL l.length ++ (l.take k).flatMap recL) ∧ Below w.heap.size w wr) (fun _ i _ => l.length - (intOf i).toNat)
  case atStart => exact ⟨0, by omega, rfl, by simpa [headL] using HO.out, HB.out⟩
  case round =>
    obtain ⟨k, hk, rfl, ho, hbel⟩ := hrel
    by_cases hlt : k < l.length
    · obtain ⟨eA, zA⟩ := hA.out (by omega)
      have ix := fun w => idx_body (c := c) eA hlt w
      clear eA
      obtain ⟨q0, q1, q2, q3, q4, q5, q6, q7, q8, q9⟩ := (hx.out k hlt).below hbel
      have hpre : (headL l.length ++ (l.take k).flatMap recL).length = 8 + k * 40 := by rw [List.length_append, recs_len]; simp [headL, word4]; omega
      have hfit := HFIT.out l[k] (List.getElem_mem hlt)
      obtain ⟨pre, hp⟩ : ∃ pre, pre = headL l.length ++ (l.take k).flatMap recL := ⟨_, rfl⟩
      rw [← hp] at ho hpre
      have HP := Lib.hid hp
      obtain ⟨x, hxx⟩ : ∃ x, x = l[k] := ⟨_, rfl⟩
      rw [← hxx] at q0 q1 q2 q3 q4 q5 q6 q7 q8 q9 hfit
      have HX := Lib.hid hxx
      clear hp hxx
      obtain ⟨x0, x1, x2, x3, x4, x5, x6, x7, x8, x9⟩ := x
      obtain ⟨⟨f00, f01⟩, ⟨f10, f11⟩, ⟨f20, f21⟩, ⟨f30, f31⟩, ⟨f40, f41⟩, ⟨f50, f51⟩, ⟨f60, f61⟩, ⟨f70, f71⟩, ⟨f80, f81⟩, ⟨f90, f91⟩⟩ := hfit
      simp only at f00 f01 f10 f11 f20 f21 f30 f31 f40 f41 f50 f51 f60 f61 f70 f71 f80 f81 f90 f91 q0 q1 q2 q3 q4 q5 q6 q7 q8 q9
      have hout : Out w.heap.size w wr.heap.size ⟨x0, x1, x2, x3, x4, x5, x6, x7, x8, x9⟩ 10 (wr.alloc (.cells #[.int .u32 x0, .int .i32 x1, .int .i32 x2, .int .i32 x3, .int .i32 x4, .int .i32 x5, .int .i32 x6, .int .i32 x7, .int .i32 x8, .int .i32 x9] 27)) u3 pre :=
        ⟨by omega, ho.below (new_ok _), hbel.alloc hbel.size _, by have := hbel.size; simp; omega, box_of (x := ⟨x0, x1, x2, x3, x4, x5, x6, x7, x8, x9⟩) (heap_alloc_new wr _), ob_ne ho⟩
      have HO := hout.drew
      have W0 := IntWalk.i64_in x0 (by omega)
      have W1 := IntWalk.i64_in x1 (by omega)
      have W2 := IntWalk.i64_in x2 (by omega)
      have W3 := IntWalk.i64_in x3 (by omega)
      have W4 := IntWalk.i64_in x4 (by omega)
      have W5 := IntWalk.i64_in x5 (by omega)
      have W6 := IntWalk.i64_in x6 (by omega)
      have W7 := IntWalk.i64_in x7 (by omega)
      have W8 := IntWalk.i64_in x8 (by omega)
      have W9 := IntWalk.i64_in x9 (by omega)
      clear hout ho hbel
      go_wp2_with fail
      go_region_held3 (fun w' => w'.cell? ⟨wr.heap.size, 0, none⟩ = some (.int .u32 x0) ∧ w'.cell? ⟨wr.heap.size, 1, none⟩ = some (.int .i32 x1)) (exact ⟨HO.box.1, HO.box.2.1⟩)
        (first
          | (go_at_call 103; refine (word_out _ _ _ _ _ _ _ _ _ HO (by omega) (by omega)).mono ?_; rintro e w1 ⟨qq, rfl, HQ, HO⟩)
          | (refine step_bytes rfl (by rfl) _ _ (by rfl) HO HQ (by rfl) (by rfl) ?_; intro v1 w1 HO))
      have HO := HO.drew
      go_wp2_with fail
      go_region_held3 (fun w' => w'.cell? ⟨wr.heap.size, 2, none⟩ = some (.int .i32 x2) ∧ w'.cell? ⟨wr.heap.size, 3, none⟩ = some (.int .i32 x3)) (exact ⟨HO.box.2.2.1, HO.box.2.2.2.1⟩)
        (first
          | (go_at_call 103; refine (word_out _ _ _ _ _ _ _ _ _ HO (by omega) (by omega)).mono ?_; rintro e w1 ⟨qq, rfl, HQ, HO⟩)
          | (refine step_bytes rfl (by rfl) _ _ (by rfl) HO HQ (by rfl) (by rfl) ?_; intro v1 w1 HO))
      have HO := HO.drew
      go_wp2_with fail
      go_region_held3 (fun w' => w'.cell? ⟨wr.heap.size, 4, none⟩ = some (.int .i32 x4) ∧ w'.cell? ⟨wr.heap.size, 5, none⟩ = some (.int .i32 x5)) (exact ⟨HO.box.2.2.2.2.1, HO.box.2.2.2.2.2.1⟩)
        (first
          | (go_at_call 103; refine (word_out _ _ _ _ _ _ _ _ _ HO (by omega) (by omega)).mono ?_; rintro e w1 ⟨qq, rfl, HQ, HO⟩)
          | (refine step_bytes rfl (by rfl) _ _ (by rfl) HO HQ (by rfl) (by rfl) ?_; intro v1 w1 HO))
      have HO := HO.drew
      go_wp2_with fail
      go_region_held3 (fun w' => w'.cell? ⟨wr.heap.size, 6, none⟩ = some (.int .i32 x6) ∧ w'.cell? ⟨wr.heap.size, 7, none⟩ = some (.int .i32 x7)) (exact ⟨HO.box.2.2.2.2.2.2.1, HO.box.2.2.2.2.2.2.2.1⟩)
        (first
          | (go_at_call 103; refine (word_out _ _ _ _ _ _ _ _ _ HO (by omega) (by omega)).mono ?_; rintro e w1 ⟨qq, rfl, HQ, HO⟩)
          | (refine step_bytes rfl (by rfl) _ _ (by rfl) HO HQ (by rfl) (by rfl) ?_; intro v1 w1 HO))
      have HO := HO.drew
      go_wp2_with fail
      go_region_held3 (fun w' => w'.cell? ⟨wr.heap.size, 8, none⟩ = some (.int .i32 x8) ∧ w'.cell? ⟨wr.heap.size, 9, none⟩ = some (.int .i32 x9)) (exact ⟨HO.box.2.2.2.2.2.2.2.2.1, HO.box.2.2.2.2.2.2.2.2.2⟩)
        (first
          | (go_at_call 103; refine (word_out _ _ _ _ _ _ _ _ _ HO (by omega) (by omega)).mono ?_; rintro e w1 ⟨qq, rfl, HQ, HO⟩)
          | (refine step_bytes rfl (by rfl) _ _ (by rfl) HO HQ (by rfl) (by rfl) ?_; intro v1 w1 HO))
      have HO2 := Lib.hid HO
      clear HO
      clear W0 W1 W2 W3 W4 W5 W6 W7 W8 W9
      go_wp2
      go_roundw
      case rel => exact ⟨k + 1, by omega, by go_num, by have := HO2.out.own; rw [recs_take hlt, ← List.append_assoc, ← HP.out, ← HX.out, rec_parts f00 f01]; simpa only [List.append_assoc] using this, HO2.out.bel⟩
      case measure => simp [intOf]; omega
    · have hkl : k = l.length := by omega
      have HN := Lib.hid hkl
      have ho1 := Lib.hid ho
      clear hkl ho
      go_wp2
      go_ret
      exact ⟨_, rfl, by have := ho1.out; rw [HN.out, List.take_length] at this; exact this, hbel⟩
end Go.Proofs.YtnhaiecbjipodaaGreatDoor
/- The contract of the reference's Decode. -/
namespace Go.Proofs.YtnhaiecbjipodaaGreatDoor
open Go.RowKit
attribute [local go_sem] Grow.cell Grow.froz Grow.lt
attribute [local go_sem ↓] Go.wp_at_zero Go.wp_at_succ

structure Rec (base : Nat) (w0 : World) (b1 o p : Nat) (b : List Int) (w : World) (v : Value) (l : List Body) : Prop where
  own : Own bodyE 27 w base v l
  bel : Below base w0 w
  size : base ≤ w.heap.size
  cells : ∀ j, j < 40 → w.cell? ⟨b1, o + p + j, none⟩ = some (.int .u8 (byteAt b (p + j)))
section
variable {base b1 o p : Nat} {b : List Int} {w0 w w' : World} {v : Value} {l : List Body}
theorem Rec.drewN (h : Rec base w0 b1 o p b w v l) (n : Nat) : Rec base w0 b1 o p b (w.drewN n) v l := ⟨h.own.below (bel_drewN (Below.refl _ _) n), ⟨h.bel.os, h.bel.tape, h.bel.output, h.bel.size, h.bel.block⟩, h.size, h.cells⟩
theorem Rec.drew (h : Rec base w0 b1 o p b w v l) : Rec base w0 b1 o p b w.drew v l := ⟨h.own.below (bel_drew (Below.refl _ _)), ⟨h.bel.os, h.bel.tape, h.bel.output, h.bel.size, h.bel.block⟩, h.size, h.cells⟩
theorem sgn_rec (h : Rec base w0 b1 o p b w v l) (hf : ∀ a ∈ b, 0 ≤ a ∧ a ≤ 255) (j c : Nat) (hj : j + 4 ≤ 40) :
    Calls Tryz.prog 105 #[.slice (some ⟨b1, o + p + j, none⟩) 4 c] w fun e w' => e = .returned (.int .i32 (sg (numAt b (p + j)))) ∧ Rec base w0 b1 o p b w' v l :=
  (signed_any b1 (o + p + j) 4 c _ _ _ _ w (Nat.le_refl _) (byteAt_fit hf _) (byteAt_fit hf _) (byteAt_fit hf _) (byteAt_fit hf _)
    (h.cells j (by omega)) (by rw [Nat.add_assoc]; exact h.cells (j + 1) (by omega)) (by rw [Nat.add_assoc]; exact h.cells (j + 2) (by omega)) (by rw [Nat.add_assoc]; exact h.cells (j + 3) (by omega))).mono
    fun _ _ ⟨he, k, hw⟩ => ⟨he, by subst hw; exact h.drewN k⟩
theorem num_rec (h : Rec base w0 b1 o p b w v l) (hf : ∀ a ∈ b, 0 ≤ a ∧ a ≤ 255) (c : Nat) :
    Calls Tryz.prog 104 #[.slice (some ⟨b1, o + p, none⟩) 4 c] w fun e w' => e = .returned (.int .i64 (numAt b p)) ∧ Rec base w0 b1 o p b w' v l :=
  (number_any b1 (o + p) 4 c _ _ _ _ w (Nat.le_refl _) (byteAt_fit hf _) (byteAt_fit hf _) (byteAt_fit hf _) (byteAt_fit hf _)
    (h.cells 0 (by omega)) (h.cells 1 (by omega)) (h.cells 2 (by omega)) (h.cells 3 (by omega))).mono
    fun _ _ ⟨he, k, hw⟩ => ⟨he, by subst hw; exact h.drewN k⟩

theorem step_body {P : Program} (hP : P = Tryz.prog) {ops : Array Oper} {q : Oper} {a : Act} {K : Act → World → Prop} {Q : Exit → Act → World → Prop} {E : Prop} (hgd : q.guard = none) (s y : Operand)
    (ho : q.op = .call { callee := .builtin .append, args := #[s, y], argTypes := #[38, 38] }) (x : Body) (cs : Array Value) (hcs : cs.toList = bodyE.cells x)
    (H : Rec base w0 b1 o p b w v l) (hs : a.eval s = v) (hx : a.eval y = .slice (some ⟨w.heap.size, 0, none⟩) 1 1) (hl : (l.length + 1) * 40 ≤ 140737488355328)
    (h : ∀ v1 w1, Own bodyE 27 w1 base v1 (l ++ [x]) → Below base w0 w1 → K (a.put q.dst v1) w1) :
    if Region.wanted q (yielded ops a.tmps) = true then Oper.wp P q a (w.alloc (.cells cs 27)) K Q else E := by
  subst hP
  have hw : Region.wanted q (yielded ops a.tmps) = true := by simp [Region.wanted, hgd]
  rw [if_pos hw]
  obtain ⟨i0, hi, hz0, hz1, hz2⟩ := info_parts bodyInfoD
  have hlen : l.length + 1 ≤ 140737488355328 := by omega
  refine wp_append_lies (w.alloc (.cells cs 27)) s y 38 ho base 27 i0 _ 10 40 Tryz.underlying38 hi hz0 hz1 hz2 rfl (by decide) v l.length (l.flatMap bodyE.cells) hs (Own.alloc H.own _) ⟨w.heap.size, 0, none⟩ 1 1 (bodyE.cells x) hx rfl
      (fun j u hu => World.news_of_block (cs := cs) (t := 27) (fr := (0, 0)) (heap_alloc_new w _) j u (by rw [hcs]; exact hu)) (bodyE.one x) (by decide) (by simp only [maxLen]; omega) hl (by have := H.size; simp; omega) _ rfl ?_
  intro g cap w1 hown hg hat hlt
  refine h _ w1 ?_ ((H.bel.alloc H.size _).grown hg (by have := H.size; simp; omega) (fun k hk => Own.base_le H.own k hk))
  unfold Own
  rw [List.length_append, List.flatMap_append, show [x].flatMap bodyE.cells = bodyE.cells x from by simp]
  exact hown
end


/-- Four bytes at a place, read by number. -/
theorem num4_at {w : World} {b : List Int} {b1 o c n p : Nat} (hx : ∀ i (hi : i < b.length), w.cell? ⟨b1, o + i, none⟩ = some (.int .u8 b[i])) (hf : ∀ a ∈ b, 0 ≤ a ∧ a ≤ 255) (hp : p + 4 ≤ b.length) (hn : 4 ≤ n) :
    Calls Tryz.prog 104 #[.slice (some ⟨b1, o + p, none⟩) n c] w fun e w'' => e = .returned (.int .i64 (numAt b p)) ∧ ∃ k, w'' = w.drewN k :=
  number_any b1 (o + p) n c _ _ _ _ w hn (byteAt_fit hf _) (byteAt_fit hf _) (byteAt_fit hf _) (byteAt_fit hf _)
    (by rw [hx p (by omega), byteAt_get]) (by rw [Nat.add_assoc, hx (p + 1) (by omega), byteAt_get]) (by rw [Nat.add_assoc, hx (p + 2) (by omega), byteAt_get]) (by rw [Nat.add_assoc, hx (p + 3) (by omega), byteAt_get])

set_option maxHeartbeats 8000000 in
set_option maxRecDepth 100000 in
theorem refDecode_any (v : Value) (b : List Int) (w : World) (hb : RB w v b) :
    Calls Tryz.prog 69 #[v] w fun e w' => ∃ v', e = .returned (.tuple #[v', .int .i64 (decL b).2]) ∧ Reads bodyE w' v' (decL b).1 ∧ Below w.heap.size w w' := by
  have q := hb.1
  have HR := Lib.hid hb
  obtain ⟨A, c, b1, o1, rfl, hc, hcm, hA, hx⟩ := hb.form
  have hA := Lib.hid hA
  have hx := Lib.hid hx
  clear hb
  by_cases h8 : b.length < 8
  · have hi8 : (b.length : Int) < 8 := by omega
    have H8 := Lib.hid h8
    clear h8
    go_enter Tryz.func69, Tryz.ntmps69
    go_wp2
    go_ret2
    have hw : wellB b = false := by unfold wellB; rw [decide_eq_false (by have := H8.out; omega)]; rfl
    exact ⟨.slice none 0 0, ret_vi (by rw [dec_bad hw]), by rw [dec_bad hw]; exact Reads.none _ _, Below.refl _ _⟩
  · have hi8 : 8 ≤ (b.length : Int) := by omega
    have hc0 : ¬ c = 0 := by omega
    have hc4 : ¬ c = 4 := by omega
    have hci : 8 ≤ (c : Int) := by omega
    obtain ⟨rfl, zA⟩ := hA.out (by omega)
    clear hA
    have kc := magic_run (c := c) (by omega) hx.out
    by_cases hm : b.take 4 = magicL
    · have g4 := num4_at (c := c - 4) (n := 4) (p := 4) (o := o1) hx.out HR.out.2.1 (by omega) (by omega)
      obtain ⟨n, hn⟩ : ∃ n, n = numAt b 4 := ⟨_, rfl⟩
      have hr := numAt_range HR.out.2.1 4
      rw [← hn] at g4 hr
      obtain ⟨r0, r1⟩ := hr
      obtain ⟨N, rfl⟩ := Int.eq_ofNat_of_zero_le r0
      have G4 := Lib.hid g4
      have HN := Lib.hid hn
      rw [hm, magic_str] at kc
      have HM := Lib.hid hm
      clear hm hn g4
      by_cases hs : b.length = 8 + N * 40
      · have hs2 : ((b.length : Int) != 8 + 40 * (N : Int)) = false := by rw [bne_eq_false_iff_eq]; omega
        have hs3 : decide ((b.length : Int) < 8) = false := decide_eq_false (by omega)
        have HS := Lib.hid hs
        clear hs
        go_enter Tryz.func69, Tryz.ntmps69
        go_wp2_with fail
        refine G4.out.mono ?_
        rintro e w' ⟨rfl, k, rfl⟩
        go_wp2_with fail
        go_loopw [4, 5] (fun v i wr => ∃ k : Nat, k ≤ N ∧ i = .int .i64 ((8 + k * 40 : Nat) : Int) ∧ Own bodyE 27 wr w.heap.size v (rowsL b k) ∧ Below w.heap.size w wr) (fun _ i _ => b.length - (intOf i).toNat)
        case atStart => exact ⟨0, by omega, rfl, Own.nil _ _ _ _, bel_drewN (Below.refl _ _) _⟩
        case round =>
          obtain ⟨k, hk, rfl, ho, hbel⟩ := hrel
          have hz1 := hbel.size
          have ho1 := Lib.hid ho
          have hbel1 := Lib.hid hbel
          clear ho hbel
          obtain ⟨p, hp⟩ : ∃ p, p = 8 + k * 40 := ⟨_, rfl⟩
          rw [← hp]
          by_cases hlt : k < N
          · have hp' : p + 40 ≤ b.length := by have := HS.out; omega
            have zA' : b1 < wr.heap.size := by omega
            have hp1 : (p : Int) + 40 ≤ b.length := by omega
            have hp2 : (p : Int) + 40 ≤ c := by omega
            have hp3 : ((p : Int) + 40).toNat = p + 40 := by omega
            have hp4 : ¬ c = p := by omega
            have hp5 : (p : Int) < b.length := by omega
            have hp6 : p + 40 - p = 40 := by omega
            have HP := Lib.hid hp
            clear hp
            go_wp2_with fail
            have HC : Rec w.heap.size w b1 o1 p b wr u4 (rowsL b k) := ⟨ho1.out, hbel1.out, hz1, fun j hj => by
              rw [hbel1.out.cell (p := ⟨b1, o1 + p + j, none⟩) zA, Nat.add_assoc, hx.out (p + j) (by omega), byteAt_get]⟩
            have HC := HC.drew
            have hr0 := numAt_range HR.out.2.1 p
            obtain ⟨d, hd⟩ : ∃ d, d = c - p := ⟨_, rfl⟩
            have hd40 : 40 ≤ d := by omega
            rw [← hd]
            have HD := Lib.hid hd
            clear hd
            have k4 : (4 : Int) ≤ d := by omega
            have k8 : (8 : Int) ≤ d := by omega
            have k12 : (12 : Int) ≤ d := by omega
            have k16 : (16 : Int) ≤ d := by omega
            have k20 : (20 : Int) ≤ d := by omega
            have k24 : (24 : Int) ≤ d := by omega
            have k28 : (28 : Int) ≤ d := by omega
            have k32 : (32 : Int) ≤ d := by omega
            have k36 : (36 : Int) ≤ d := by omega
            have k40 : (40 : Int) ≤ d := by omega
            have m0 : ¬ d = 0 := by omega
            have m4 : ¬ d = 4 := by omega
            have m8 : ¬ d = 8 := by omega
            have m12 : ¬ d = 12 := by omega
            have m16 : ¬ d = 16 := by omega
            have m20 : ¬ d = 20 := by omega
            have m24 : ¬ d = 24 := by omega
            have m28 : ¬ d = 28 := by omega
            have m32 : ¬ d = 32 := by omega
            have m36 : ¬ d = 36 := by omega
            have W0 : IntKind.u32.wrap (numAt b p) = numAt b p := u32_wrap_id _ hr0.1 (by omega)
            have HF := Lib.hid HR.out.2.1
            clear hp1 hp2 hp3 hp4 hp5 hp6 hs2 hs3
            have hrl : ((rowsL b k).length + 1) * 40 ≤ 140737488355328 := by simp [rowsL]; omega
            go_region_held3 (fun w' => True) (trivial)
              (first
                | (go_at_call 104; refine (num_rec HC HF.out _).mono ?_; rintro e w1 ⟨rfl, HC⟩)
                | (go_at_call 105; refine (sgn_rec HC HF.out _ _ (by omega)).mono ?_; rintro e w1 ⟨rfl, HC⟩)
                | (refine step_body rfl (by rfl) _ _ (by rfl) (bodyAt b p) _ (by rfl) HC (by rfl) (by first | rfl | simp [go_sem]) hrl ?_; intro v1 w1 HO HB))
            have HO1 := Lib.hid HO
            have HB1 := Lib.hid HB
            clear HO HB HC W0 hr0 k4 k8 k12 k16 k20 k24 k28 k32 k36 k40 m0 m4 m8 m12 m16 m20 m24 m28 m32 m36 hrl
            have hp1 : (p : Int) + 40 ≤ b.length := by omega
            go_wp2
            go_roundw
            case rel => exact ⟨k + 1, by omega, congrArg (Value.int .i64) (by have := HP.out; omega), by rw [rows_succ, ← HP.out]; exact HO1.out, HB1.out⟩
            case measure => simp [intOf]; omega
          · have hkn : k = N := by omega
            have hpl : (b.length : Int) ≤ p := by have := HS.out; omega
            have HK := Lib.hid hkn
            have HRD := Lib.hid (ho1.out.reads (by simp [rowsL]; omega))
            obtain ⟨A2, c2, rfl⟩ := ho1.out.form
            have hw : wellB b = true := by unfold wellB; rw [decide_eq_true HM.out, decide_eq_true (p := (b.length : Int) = _) (by rw [← HN.out]; have := HS.out; omega), decide_eq_true (by omega)]; rfl
            have hrows : rowsL b ((b.length - 8) / 40) = rowsL b k := by rw [show (b.length - 8) / 40 = k from by have := HS.out; omega]
            have HW := Lib.hid hw
            have HROWS := Lib.hid hrows
            clear hkn hw hrows hp
            by_cases he : checkL (rowsL b k) = 0
            · have HE := Lib.hid he
              have he' : (checkL (rowsL b k) == 0) = true := by simpa using he
              clear he
              go_wp2_with fail
              refine (refCheck7_any _ (rowsL b k) _ (by exact HRD.out)).mono ?_
              rintro e w1 ⟨rfl, hb⟩
              obtain ⟨g0, rfl⟩ := Grow.of hb
              clear hb
              go_wp2_with fail
              go_ret2
              exact ⟨_, ret_vi (by rw [dec_ok HW.out (by rw [HROWS.out]; exact HE.out)]), by rw [dec_ok HW.out (by rw [HROWS.out]; exact HE.out), HROWS.out]; exact HRD.out.grow g0, bel_grow hbel1.out g0⟩
            · have HE := Lib.hid he
              have he' : (checkL (rowsL b k) == 0) = false := by simpa using he
              clear he
              go_wp2_with fail
              refine (refCheck7_any _ (rowsL b k) _ (by exact HRD.out)).mono ?_
              rintro e w1 ⟨rfl, hb⟩
              obtain ⟨g0, rfl⟩ := Grow.of hb
              clear hb
              go_wp2_with fail
              go_ret2
              exact ⟨.slice none 0 0, ret_vi (by rw [dec_err HW.out (by rw [HROWS.out]; exact HE.out), HROWS.out]), by rw [dec_err HW.out (by rw [HROWS.out]; exact HE.out)]; exact Reads.none _ _, bel_grow hbel1.out g0⟩
      · have hs' : ((b.length : Int) == 8 + 40 * (N : Int)) = false := by rw [beq_eq_false_iff_ne]; omega
        have hs2 : ((b.length : Int) != 8 + 40 * (N : Int)) = true := by rw [bne_iff_ne]; omega
        have HS := Lib.hid hs
        clear hs
        go_enter Tryz.func69, Tryz.ntmps69
        go_wp2_with fail
        refine G4.out.mono ?_
        rintro e w' ⟨rfl, k, rfl⟩
        go_wp2_with fail
        go_ret2
        have hw : wellB b = false := by unfold wellB; rw [decide_eq_false (p := (b.length : Int) = _) (by rw [← HN.out]; have := HS.out; omega)]; simp
        exact ⟨.slice none 0 0, ret_vi (by rw [dec_bad hw]), by rw [dec_bad hw]; exact Reads.none _ _, bel_drewN (Below.refl _ _) _⟩
    · obtain ⟨s, hs⟩ : ∃ s, strOfNums (b.take 4) = s := ⟨_, rfl⟩
      have hne : s ≠ ⟨#[66, 73, 76, 49]⟩ := hs ▸ magic_ne (fun a ha => HR.out.2.1 a (List.mem_of_mem_take ha)) hm
      have hne := magic_list hne
      rw [hs] at kc
      clear hs
      have HM := Lib.hid hm
      clear hm
      go_enter Tryz.func69, Tryz.ntmps69
      go_wp2
      go_ret2
      have hw : wellB b = false := by unfold wellB; rw [decide_eq_false HM.out]; simp
      exact ⟨.slice none 0 0, ret_vi (by rw [dec_bad hw]), by rw [dec_bad hw]; exact Reads.none _ _, Below.refl _ _⟩
end Go.Proofs.YtnhaiecbjipodaaGreatDoor
