/- The contract of transform over the closure of Gravity, and of Gravity itself. -/
import Derived.Test.YthoapplkaidaaaaRefGrav
namespace Go.Proofs.Ythoapplkaidaaaa
open Go.RowKit
attribute [local go_sem] Grow.cell Grow.froz Grow.lt

theorem Flag.ne {w : World} {f b o : Nat} {c : Bool} {x : Body} (h : Flag w f c) (t : TenAt w b o x) : b ≠ f := by
  rintro rfl
  have h0 := t.1
  unfold Flag at h
  simp only [World.cell?, h] at h0
  cases o with
  | zero => simp at h0
  | succ n => simp at h0
theorem TenAt.grown {w w' : World} {b o f : Nat} {x : Body} (h : TenAt w b o x) (hg : w.grownBy w' (some f)) (hne : b ≠ f) : TenAt w' b o x := by
  obtain ⟨h0, h1, h2, h3, h4, h5, h6, h7, h8, h9⟩ := h
  have n : ∀ o, some (⟨b, o, none⟩ : Addr).block ≠ some f := fun _ e => hne (by simpa using e)
  exact ⟨hg.cell h0 (n _), hg.cell h1 (n _), hg.cell h2 (n _), hg.cell h3 (n _), hg.cell h4 (n _), hg.cell h5 (n _), hg.cell h6 (n _), hg.cell h7 (n _), hg.cell h8 (n _), hg.cell h9 (n _)⟩
theorem grown_below {w w1 w2 : World} {r : Option Nat} (h : w.grownBy w1 r) (hb : Below w.heap.size w1 w2) : w.grownBy w2 r :=
  ⟨hb.os.trans h.os, hb.tape.trans h.tape, hb.output.trans h.output, Nat.le_trans h.size hb.size, fun i hi hr => (hb.block i hi).trans (h.block i hi hr)⟩
theorem Flag.below {w w' : World} {f n : Nat} {c : Bool} (h : Flag w f c) (hb : Below n w w') (hf : f < n) : Flag w' f c := by
  unfold Flag at *
  rw [hb.block f hf, h]
theorem own_ne {α : Type} {E : Enc α} {t : TypeId} {w : World} {base f : Nat} {v : Value} {l : List α} (h : Own E t w base v l) (hf : f < base) : v.ownBlock = none ∨ v.ownBlock ≠ some f := by
  cases hv : v.ownBlock with
  | none => exact .inl rfl
  | some k => exact .inr (fun e => by have := h.base_le k hv; simp at e; omega)

set_option maxHeartbeats 1000000 in
theorem transformG (v : Value) (l : List Body) (f : Nat) (c0 : Bool) (w : World) (hl : Reads bodyE w v l) (hn : l.length ≤ 1000000) (hV : ∀ b ∈ l, Small b) (hF : Flag w f c0) :
    Calls Try.prog 23 #[v, .func (.func 24) #[] #[.pointer (some ⟨f, 0, none⟩)]] w fun e w' =>
      ∃ v', e = .returned v' ∧ Reads bodyE w' v' (l.map gravB) ∧ w.grownBy w' (some f) ∧ Flag w' f (c0 || l.any gravC) := by
  obtain ⟨A, c, b1, o1, rfl, hA, hx⟩ := hl.bodies
  have hfl := hF.lt
  have hA := Lib.hid hA
  have hx := Lib.hid hx
  have HV := Lib.hid hV
  have HFl := Lib.hid hF
  clear hl hV hF
  go_enter Try.func23, Try.ntmps23
  go_wp2
  go_loopw [5, 10] (fun v i wr => ∃ k : Nat, k ≤ l.length ∧ i = .int .i64 k ∧ Own bodyE 37 wr w.heap.size v ((l.take k).map gravB) ∧ w.grownBy wr (some f) ∧ Flag wr f (c0 || (l.take k).any gravC)) (fun _ i _ => l.length - (intOf i).toNat)
  case atStart => exact ⟨0, by omega, rfl, by simpa using Own.nil _ _ _ _, grown_refl _ _, by simpa using HFl.out⟩
  case round =>
    obtain ⟨k, hk, rfl, hown, hgr, hflag⟩ := hrel
    have HG := Lib.hid hgr
    have hz := hgr.size
    have HFk := Lib.hid hflag
    clear hgr hflag
    by_cases hlt : k < l.length
    · obtain ⟨eA, zA⟩ := hA.out (by omega)
      have ix := fun w => idx_body (c := c) eA hlt w
      clear eA
      obtain ⟨q0, q1, q2, q3, q4, q5, q6, q7, q8, q9⟩ := (hx.out k hlt).grown HG.out (HFl.out.ne (hx.out k hlt))
      obtain ⟨s0, s1, s2, s3, s4, s5, s6, s7, s8, s9⟩ := HV.out l[k] (List.getElem_mem hlt)
      go_wp2_with fail
      refine (gravClosure _ _ _ _ _ _ _ _ _ _ _ f _ _ (by exact HFk.out.alloc _) s4 s5).mono ?_
      rintro e w1 ⟨he, hg1, hfl1⟩
      obtain ⟨y, hy⟩ : ∃ y, y = gravB l[k] := ⟨_, rfl⟩
      have he' : e = .returned (.agg #[.int .u32 y.key, .int .i32 y.radius, .int .i32 y.ax, .int .i32 y.ay, .int .i32 y.inv, .int .i32 y.bounce, .int .i32 y.px, .int .i32 y.py, .int .i32 y.vx, .int .i32 y.vy]) := by rw [hy]; exact he
      subst he'
      have HY := Lib.hid hy
      clear hy he
      have HG1 := Lib.hid hg1
      have HF1 := Lib.hid hfl1
      have hz1 := hg1.size
      simp at hz1
      clear hg1 hfl1
      go_wp2_with (at_builtin; refine own_append bodyE w.heap.size rfl (.tmp 15) (.tmp 20) 22 37 _ 40 rfl Try.underlying22 bodyInfo rfl (by decide) _ ((l.take k).map gravB) y _ (by rfl) rfl (by first | rfl | simp [go_sem]) ((hown.alloc _).kept HG1.out (own_ne hown hfl)) (Below.refl _ _) (by omega) (by simp; omega) ?_; intro v1 w2 own1 bel1 gr1 sz1)
      go_roundw
      case rel => exact ⟨k + 1, by omega, by go_num, by rw [map_take gravB hlt, ← HY.out]; exact own1, grown_below (World.grownBy.trans (grown_alloc HG.out _) HG1.out) bel1, by rw [any_take gravC hlt, ← Bool.or_assoc]; exact HF1.out.below bel1 hfl⟩
      case measure => simp [intOf]; omega
    · have hkl : k = l.length := by omega
      have HN := Lib.hid hkl
      clear hkl
      go_wp2
      go_ret
      exact ⟨_, rfl, by have := hown.reads (by simp; omega); rw [HN.out, List.take_length] at this; exact this, HG.out, by have := HFk.out; rw [HN.out, List.take_length] at this; exact this⟩

theorem below_of_grown {w w' : World} {o : Obj} (h : (w.alloc o).grownBy w' (some w.heap.size)) : Below w.heap.size w w' := by
  have h1 : Below w.heap.size (w.alloc o) w' := ⟨h.os, h.tape, h.output, h.size, fun i hi => h.block i (by simp; omega) (by simp; omega)⟩
  exact (new_ok o).trans h1
theorem Flag.new (w : World) (c : Bool) : Flag (w.alloc (.cells #[.bool c] 4)) w.heap.size c := heap_alloc_new w _

set_option maxHeartbeats 1000000 in
theorem gravity_any (v : Value) (l : List Body) (w : World) (hl : Reads bodyE w v l) (hn : l.length ≤ 1000000) (hV : ∀ b ∈ l, Small b) :
    Calls Try.prog 11 #[v] w fun e w' => ∃ v', e = .returned (.tuple #[v', .bool (l.any gravC)]) ∧ Reads bodyE w' v' (l.map gravB) ∧ Below w.heap.size w w' := by
  have HL := Lib.hid hl
  have HV := Lib.hid hV
  obtain ⟨A, c, b1, o1, rfl, _, _⟩ := hl.bodies
  clear hl hV
  go_enter Try.func11, Try.ntmps11
  go_wp2_with fail
  refine (transformG _ l w.heap.size false _ (by exact HL.out.alloc _) hn HV.out (by exact Flag.new w false)).mono ?_
  rintro e w1 ⟨v1, rfl, hr, hg, hf⟩
  have hb := below_of_grown hg
  have HR := Lib.hid hr
  have hc := hf.cell
  have hfl := hf.lt
  simp only [Bool.false_or] at hc
  clear hr hg hf
  go_wp2_with fail
  refine wp_region_grow (by kernel_rfl) (by kernel_rfl) ?_
  repeat (first | go_big_quiet_skip | (go_big_quiet_want; go_big_quiet_op; first | go_big_quiet_on))
  refine wpQuiet_nil ?_
  rintro _ ⟨g, rfl⟩
  go_wp2_with fail
  go_ret2
  exact ⟨_, rfl, HR.out.grow g, bel_grow hb g⟩
end Go.Proofs.Ythoapplkaidaaaa
