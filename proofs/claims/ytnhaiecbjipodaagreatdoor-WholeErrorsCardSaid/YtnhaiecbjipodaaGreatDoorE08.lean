/- Contracts of the program's functions, by walks, and plain facts beside them: Fwd, ErrReg, Ref22D0, Ref22D1. -/
import Derived.Test.YtnhaiecbjipodaaGreatDoorB32
import Derived.Test.YtnhaiecbjipodaaGreatDoorB19
import Derived.Deep.RegionHeld3
import Derived.Test.YtnhaiecbjipodaaGreatDoorB14
import Derived.Test.YtnhaiecbjipodaaGreatDoorE07
import Derived.Test.YtnhaiecbjipodaaGreatDoorB16
import Derived.Test.YtnhaiecbjipodaaGreatDoorB30
/- billiardref23.Few and billiardtop.forward. -/
namespace Go.Proofs.YtnhaiecbjipodaaGreatDoor
open Go.RowKit Go.Shelf Go.Proofs Go.MapKept
attribute [local go_sem] Grow.cell Grow.froz Grow.lt lt_s1 lt_s2 lt_s3 lt_s4 lt_s5
theorem idx_op23 {A : Option Addr} {b off k len c : Nat} (hA : A = some ⟨b, off, none⟩) (hk : k < len) (w : World) :
    (Instr.indexAt 22 (.slice A len c) (.int .i64 (k : Int))).run Tryz.prog w = .ok (.pointer (some ⟨b, off + k * 15, none⟩)) w := by
  subst hA
  have hk' : (k : Int) < (len : Int) := by omega
  go_simp
theorem opInfo : (Tryz.prog.info? 44).map (fun i => (i.zero, i.size, i.bytes)) = some (some (.agg #[.int .i64 0, .int .u32 0, .int .i32 0, .int .i32 0, .int .i32 0, .int .i32 0, .int .i32 0, .int .i32 0, .int .i32 0, .int .i32 0, .int .i32 0, .int .u32 0, .int .i32 0, .int .i32 0, .slice none 0 0]), 15, 88) := by kernel_rfl
set_option maxRecDepth 100000 in
set_option maxHeartbeats 2000000 in
theorem forward_any (v : Value) (ops : List OpD) (w : World) (hv : Reads opE w v ops) (hn : ops.length ≤ 1000000) :
    Calls Tryz.prog 9 #[v] w fun e w' => ∃ v', e = .returned v' ∧ Own opE 44 w' w.heap.size v' ops ∧ Below w.heap.size w w' := by
  obtain ⟨A, c, b1, o1, rfl, hA, hx⟩ := hv.form
  have hA := Lib.hid hA
  have hx := Lib.hid hx
  have HNB := Lib.hid hn
  obtain ⟨N, hN⟩ : ∃ N, N = ops.length := ⟨_, rfl⟩
  rw [← hN]
  have HN := Lib.hid hN
  clear hv hn hN
  go_enter Tryz.func9, Tryz.ntmps9
  go_wp2
  go_loopw [3, 4] (fun u i wr => ∃ (k : Nat), k ≤ N ∧ i = .int .i64 k ∧ Own opE 44 wr w.heap.size u (ops.take k) ∧ Below w.heap.size w wr) (fun _ i _ => N - (intOf i).toNat)
  case atStart => exact ⟨0, by omega, rfl, Own.nil _ _ _ _, Below.refl _ _⟩
  case round =>
    obtain ⟨k, hk, rfl, hown, hbel⟩ := hrel
    by_cases hlt : k < N
    · have hko : k < ops.length := by rw [← HN.out]; exact hlt
      have hbig := HNB.out
      obtain ⟨eA, zA⟩ := hA.out (by omega)
      have ix := fun w => idx_op23 (c := c) eA hko w
      rw [← HN.out] at ix
      clear eA
      obtain ⟨o, hod⟩ : ∃ o, o = ops[k] := ⟨_, rfl⟩
      have hcell : ∀ j u, (opE.cells o)[j]? = some u → wr.cell? ⟨b1, o1 + k * 15 + j, none⟩ = some u := fun j u hu => by
        rw [hod] at hu
        exact (keepB hbel b1 zA _).trans (hx.out k hko j u hu)
      have e0 : wr.cell? ⟨b1, o1 + k * 15, none⟩ = some (.int .i64 o.k) := hcell 0 _ rfl
      have e1 : wr.cell? ⟨b1, o1 + k * 15 + 1, none⟩ = some (.int .u32 o.b.key) := hcell 1 _ rfl
      have e2 : wr.cell? ⟨b1, o1 + k * 15 + 2, none⟩ = some (.int .i32 o.b.radius) := hcell 2 _ rfl
      have e3 : wr.cell? ⟨b1, o1 + k * 15 + 3, none⟩ = some (.int .i32 o.b.ax) := hcell 3 _ rfl
      have e4 : wr.cell? ⟨b1, o1 + k * 15 + 4, none⟩ = some (.int .i32 o.b.ay) := hcell 4 _ rfl
      have e5 : wr.cell? ⟨b1, o1 + k * 15 + 5, none⟩ = some (.int .i32 o.b.inv) := hcell 5 _ rfl
      have e6 : wr.cell? ⟨b1, o1 + k * 15 + 6, none⟩ = some (.int .i32 o.b.bounce) := hcell 6 _ rfl
      have e7 : wr.cell? ⟨b1, o1 + k * 15 + 7, none⟩ = some (.int .i32 o.b.px) := hcell 7 _ rfl
      have e8 : wr.cell? ⟨b1, o1 + k * 15 + 8, none⟩ = some (.int .i32 o.b.py) := hcell 8 _ rfl
      have e9 : wr.cell? ⟨b1, o1 + k * 15 + 9, none⟩ = some (.int .i32 o.b.vx) := hcell 9 _ rfl
      have e10 : wr.cell? ⟨b1, o1 + k * 15 + 10, none⟩ = some (.int .i32 o.b.vy) := hcell 10 _ rfl
      have e11 : wr.cell? ⟨b1, o1 + k * 15 + 11, none⟩ = some (.int .u32 o.q) := hcell 11 _ rfl
      have e12 : wr.cell? ⟨b1, o1 + k * 15 + 12, none⟩ = some (.int .i32 o.x) := hcell 12 _ rfl
      have e13 : wr.cell? ⟨b1, o1 + k * 15 + 13, none⟩ = some (.int .i32 o.y) := hcell 13 _ rfl
      have e14 : wr.cell? ⟨b1, o1 + k * 15 + 14, none⟩ = some (.slice o.A o.n o.c) := hcell 14 _ rfl
      have HOD := Lib.hid hod
      have HOW := Lib.hid hown
      have HB := Lib.hid hbel
      clear hcell hown hbel hod
      go_upto_region 5 with fail
      obtain ⟨A3, n3, c3, rfl⟩ : ∃ A3 n3 c3, u3 = .slice A3 n3 c3 := (have ⟨A6, c6, e6⟩ := HOW.out.form; ⟨A6, _, c6, e6⟩)
      have hz1 : w.heap.size ≤ wr.heap.size := HB.out.size
      have htk : (ops.take k).length = k := by rw [List.length_take]; omega
      have HB1 := Lib.hid (bel_drew HB.out)
      have hzd : w.heap.size ≤ wr.drew.heap.size := hz1
      have zB : b1 < wr.heap.size := Nat.lt_of_lt_of_le zA hz1
      have HSA : ∀ ob : Obj, (fun w' : World => w'.cell? ⟨b1, o1 + k * 15, none⟩ = some (.int .i64 o.k) ∧ w'.cell? ⟨b1, o1 + k * 15 + 1, none⟩ = some (.int .u32 o.b.key) ∧ w'.cell? ⟨b1, o1 + k * 15 + 2, none⟩ = some (.int .i32 o.b.radius) ∧ w'.cell? ⟨b1, o1 + k * 15 + 3, none⟩ = some (.int .i32 o.b.ax) ∧ w'.cell? ⟨b1, o1 + k * 15 + 4, none⟩ = some (.int .i32 o.b.ay) ∧ w'.cell? ⟨b1, o1 + k * 15 + 5, none⟩ = some (.int .i32 o.b.inv) ∧ w'.cell? ⟨b1, o1 + k * 15 + 6, none⟩ = some (.int .i32 o.b.bounce) ∧ w'.cell? ⟨b1, o1 + k * 15 + 7, none⟩ = some (.int .i32 o.b.px) ∧ w'.cell? ⟨b1, o1 + k * 15 + 8, none⟩ = some (.int .i32 o.b.py) ∧ w'.cell? ⟨b1, o1 + k * 15 + 9, none⟩ = some (.int .i32 o.b.vx) ∧ w'.cell? ⟨b1, o1 + k * 15 + 10, none⟩ = some (.int .i32 o.b.vy) ∧ w'.cell? ⟨b1, o1 + k * 15 + 11, none⟩ = some (.int .u32 o.q) ∧ w'.cell? ⟨b1, o1 + k * 15 + 12, none⟩ = some (.int .i32 o.x) ∧ w'.cell? ⟨b1, o1 + k * 15 + 13, none⟩ = some (.int .i32 o.y) ∧ w'.cell? ⟨b1, o1 + k * 15 + 14, none⟩ = some (.slice o.A o.n o.c)) ((wr.alloc ob).drew) := fun ob => have h := keepB (bel_drew (bel_alloc (Below.refl _ _) ob)) b1 zB; ⟨(h _).trans e0, (h _).trans e1, (h _).trans e2, (h _).trans e3, (h _).trans e4, (h _).trans e5, (h _).trans e6, (h _).trans e7, (h _).trans e8, (h _).trans e9, (h _).trans e10, (h _).trans e11, (h _).trans e12, (h _).trans e13, (h _).trans e14⟩
      have HSB : ∀ w5 : World, wr.drew.grownBy w5 (Value.ownBlock (.slice A3 n3 c3)) → (fun w' : World => w'.cell? ⟨b1, o1 + k * 15, none⟩ = some (.int .i64 o.k) ∧ w'.cell? ⟨b1, o1 + k * 15 + 1, none⟩ = some (.int .u32 o.b.key) ∧ w'.cell? ⟨b1, o1 + k * 15 + 2, none⟩ = some (.int .i32 o.b.radius) ∧ w'.cell? ⟨b1, o1 + k * 15 + 3, none⟩ = some (.int .i32 o.b.ax) ∧ w'.cell? ⟨b1, o1 + k * 15 + 4, none⟩ = some (.int .i32 o.b.ay) ∧ w'.cell? ⟨b1, o1 + k * 15 + 5, none⟩ = some (.int .i32 o.b.inv) ∧ w'.cell? ⟨b1, o1 + k * 15 + 6, none⟩ = some (.int .i32 o.b.bounce) ∧ w'.cell? ⟨b1, o1 + k * 15 + 7, none⟩ = some (.int .i32 o.b.px) ∧ w'.cell? ⟨b1, o1 + k * 15 + 8, none⟩ = some (.int .i32 o.b.py) ∧ w'.cell? ⟨b1, o1 + k * 15 + 9, none⟩ = some (.int .i32 o.b.vx) ∧ w'.cell? ⟨b1, o1 + k * 15 + 10, none⟩ = some (.int .i32 o.b.vy) ∧ w'.cell? ⟨b1, o1 + k * 15 + 11, none⟩ = some (.int .u32 o.q) ∧ w'.cell? ⟨b1, o1 + k * 15 + 12, none⟩ = some (.int .i32 o.x) ∧ w'.cell? ⟨b1, o1 + k * 15 + 13, none⟩ = some (.int .i32 o.y) ∧ w'.cell? ⟨b1, o1 + k * 15 + 14, none⟩ = some (.slice o.A o.n o.c)) w5 := fun w5 hg => have h := fun o => World.cell?_of_block (w := wr.drew) (w' := w5) (a := ⟨b1, o, none⟩) (hg.block b1 zB (fun e => by have := HOW.out.base_le b1 e.symm; omega)); ⟨(h _).trans e0, (h _).trans e1, (h _).trans e2, (h _).trans e3, (h _).trans e4, (h _).trans e5, (h _).trans e6, (h _).trans e7, (h _).trans e8, (h _).trans e9, (h _).trans e10, (h _).trans e11, (h _).trans e12, (h _).trans e13, (h _).trans e14⟩
      go_region_held3 (fun w' : World => w'.cell? ⟨b1, o1 + k * 15, none⟩ = some (.int .i64 o.k) ∧ w'.cell? ⟨b1, o1 + k * 15 + 1, none⟩ = some (.int .u32 o.b.key) ∧ w'.cell? ⟨b1, o1 + k * 15 + 2, none⟩ = some (.int .i32 o.b.radius) ∧ w'.cell? ⟨b1, o1 + k * 15 + 3, none⟩ = some (.int .i32 o.b.ax) ∧ w'.cell? ⟨b1, o1 + k * 15 + 4, none⟩ = some (.int .i32 o.b.ay) ∧ w'.cell? ⟨b1, o1 + k * 15 + 5, none⟩ = some (.int .i32 o.b.inv) ∧ w'.cell? ⟨b1, o1 + k * 15 + 6, none⟩ = some (.int .i32 o.b.bounce) ∧ w'.cell? ⟨b1, o1 + k * 15 + 7, none⟩ = some (.int .i32 o.b.px) ∧ w'.cell? ⟨b1, o1 + k * 15 + 8, none⟩ = some (.int .i32 o.b.py) ∧ w'.cell? ⟨b1, o1 + k * 15 + 9, none⟩ = some (.int .i32 o.b.vx) ∧ w'.cell? ⟨b1, o1 + k * 15 + 10, none⟩ = some (.int .i32 o.b.vy) ∧ w'.cell? ⟨b1, o1 + k * 15 + 11, none⟩ = some (.int .u32 o.q) ∧ w'.cell? ⟨b1, o1 + k * 15 + 12, none⟩ = some (.int .i32 o.x) ∧ w'.cell? ⟨b1, o1 + k * 15 + 13, none⟩ = some (.int .i32 o.y) ∧ w'.cell? ⟨b1, o1 + k * 15 + 14, none⟩ = some (.slice o.A o.n o.c)) (first | exact ⟨e0, e1, e2, e3, e4, e5, e6, e7, e8, e9, e10, e11, e12, e13, e14⟩ | exact HSA _ | exact HS5)
        (first
          | (refine step_own (W := wr.drew) rfl opE w.heap.size (.tmp 11) (.tmp 38) 35 44 _ 88 (by rfl) Tryz.underlying35 opInfo rfl (by decide) (.slice A3 n3 c3) (ops.take k) o _ (by rfl) rfl rfl (HOW.out.below (bel_drew (Below.refl _ _))) hzd (by omega) ?_; intro v1 w5 own3 hg3 hb3; have HS5 := HSB _ hg3; have OWN := Lib.hid own3; have HG3 := Lib.hid hg3; clear own3 hg3 hb3))
      go_wp2
      go_roundw
      case rel => exact ⟨k + 1, by omega, by go_num, by rw [List.take_succ_eq_append_getElem hko, ← HOD.out]; exact OWN.out, HB1.out.grown HG3.out hzd (fun j hj => HOW.out.base_le j hj)⟩
      case measure => simp [intOf]; omega
    · have hkl : k = N := by omega
      have HK := Lib.hid hkl
      have HOW := Lib.hid hown
      have HB := Lib.hid hbel
      clear hkl hown hbel
      go_wp2
      go_ret
      refine ⟨_, rfl, ?_, HB.out⟩
      have := HOW.out
      rwa [HK.out, HN.out, List.take_length] at this
def FewV (v : Value) (n : Nat) : Prop := ∃ f, v = .bool f ∧ (f = true → n ≤ 40)
set_option maxRecDepth 100000 in
set_option maxHeartbeats 2000000 in
theorem few_any (v : Value) (ops : List OpD) (w : World) (hv : Reads opE w v ops) (hn : ops.length ≤ 140737488355328) :
    Calls Tryz.prog 7 #[v] w fun e w' => ∃ fv, e = .returned fv ∧ FewV fv ops.length ∧ w' = w := by
  obtain ⟨A, c, b1, o1, rfl, hA, hx⟩ := hv.form
  have hA := Lib.hid hA
  have hx := Lib.hid hx
  have HNB := Lib.hid hn
  obtain ⟨N, hN⟩ : ∃ N, N = ops.length := ⟨_, rfl⟩
  rw [← hN]
  have HN := Lib.hid hN
  clear hv hn hN
  go_enter Tryz.func7, Tryz.ntmps7
  go_wp2
  go_loopw [3, 4] (fun u i wr => ∃ (k s : Nat), k ≤ N ∧ i = .int .i64 k ∧ u = .int .i64 s ∧ s ≤ k ∧ wr = w) (fun _ i _ => N - (intOf i).toNat)
  case atStart => exact ⟨0, 0, by omega, rfl, rfl, by omega, rfl⟩
  case round =>
    obtain ⟨k, s, hk, rfl, rfl, hs, rfl⟩ := hrel
    have hbig := HNB.out
    have hNN := HN.out
    have hbN : N ≤ 140737488355328 := by omega
    clear hbig hNN
    by_cases hlt : k < N
    · have hko : k < ops.length := by rw [← HN.out]; exact hlt
      by_cases h40 : k ≤ 40
      · obtain ⟨eA, zA⟩ := hA.out (by omega)
        have ix := fun w => idx_op23 (c := c) eA hko w
        rw [← HN.out] at ix
        clear eA
        obtain ⟨o, hod⟩ : ∃ o, o = ops[k] := ⟨_, rfl⟩
        have hcell : ∀ j u, (opE.cells o)[j]? = some u → wr.cell? ⟨b1, o1 + k * 15 + j, none⟩ = some u := fun j u hu => by
          rw [hod] at hu
          exact hx.out k hko j u hu
        have e0 : wr.cell? ⟨b1, o1 + k * 15, none⟩ = some (.int .i64 o.k) := hcell 0 _ rfl
        have e14 : wr.cell? ⟨b1, o1 + k * 15 + 14, none⟩ = some (.slice o.A o.n o.c) := hcell 14 _ rfl
        clear hcell hod hko
        by_cases h1000 : 1000 < o.n
        · go_wp2
          go_ret
          exact ⟨_, rfl, ⟨false, rfl, by simp⟩, rfl⟩
        · by_cases h4 : o.k = 4
          · go_wp2
            go_roundw
            case rel => exact ⟨k + 1, s + 1, by omega, by go_num, by go_num, by omega, by first | rfl | trivial⟩
            case measure => simp [intOf]; omega
          · go_wp2
            go_roundw
            case rel => exact ⟨k + 1, s, by omega, by go_num, rfl, by omega, by first | rfl | trivial⟩
            case measure => simp [intOf]; omega
      · clear hko
        have hN40 : ¬ N ≤ 40 := by omega
        go_wp2
        go_ret
        exact ⟨_, rfl, ⟨false, rfl, by simp⟩, rfl⟩
    · by_cases hN40 : N ≤ 40
      · by_cases h8 : s ≤ 8
        · go_wp2
          go_ret
          exact ⟨_, rfl, ⟨_, rfl, fun _ => hN40⟩, rfl⟩
        · go_wp2
          go_ret
          exact ⟨_, rfl, ⟨_, rfl, fun _ => hN40⟩, rfl⟩
      · go_wp2
        go_ret
        exact ⟨_, rfl, ⟨false, rfl, by simp⟩, rfl⟩
end Go.Proofs.YtnhaiecbjipodaaGreatDoor
/- append([]T{}, y...) and append(v, x) as steps of a region that draws. No program in it. -/
namespace Go.Proofs.YtnhaiecbjipodaaGreatDoor
open Go.RowKit Go.Shelf Go.Proofs Go.MapKept
section
variable {P : Program} {ops : Array Oper} {q : Oper} {a : Act} {K : Act → World → Prop} {Q : Exit → Act → World → Prop} {C : Prop}
theorem step_copy (hw : Region.wanted q (yielded ops a.tmps) = true) {α : Type} (E : Enc α) {W : World} (base : Nat) (s x : Operand) (t e : TypeId) (z : Value) (bytes : Nat)
    (ho : q.op = .call { callee := .builtin .append, args := #[s, x], argTypes := #[t, t] })
    (ht : P.underlying t = some (.slice e)) (hinfo : (P.info? e).map (fun i => (i.zero, i.size, i.bytes)) = some (some z, E.sz, bytes)) (hz : z.cells.size = E.sz) (hb0 : 0 < bytes)
    (g : Nat) (hs : a.eval s = .slice (some ⟨g, 0, none⟩) 0 0) (hg : CellsAt W g #[] e) (hbg : base ≤ g) (l : List α) (A : Option Addr) (c : Nat) (hx : a.eval x = .slice A l.length c)
    (hA : 0 < l.length → ∃ ad, A = some ad ∧ ∀ j u, (l.flatMap E.cells)[j]? = some u → W.cell? (ad.add j) = some u) (hl : l.length * bytes ≤ 140737488355328)
    (h : ∀ v1 w1, Own E e w1 base v1 l → W.grownBy w1 (some g) → K (a.put q.dst v1) w1) :
    if Region.wanted q (yielded ops a.tmps) = true then Oper.wp P q a W K Q else C := by
  rw [if_pos hw]
  obtain ⟨i0, hi, hz0, hz1, hz2⟩ := info_parts hinfo
  have hlt := hg.lt
  have hown : Own E e W base (.slice (some ⟨g, 0, none⟩) 0 0) ([] : List α) := ⟨by simp, .inr ⟨g, 0, #[], rfl, hbg, hg, Nat.le_refl _, by simp, by simp, by simp⟩⟩
  by_cases h0 : 0 < l.length
  · obtain ⟨ad, rfl, hc⟩ := hA h0
    have hlen : l.length ≤ 140737488355328 := Nat.le_trans (Nat.le_mul_of_pos_right _ hb0) hl
    refine wp_append_lies W s x t ho base e i0 z E.sz bytes ht hi hz0 hz1 hz2 hz E.pos (.slice (some ⟨g, 0, none⟩) 0 0) 0 [] hs hown ad l.length c (l.flatMap E.cells) hx (flat_len E l) hc (fun u hu => by
      obtain ⟨y, _, hy⟩ := List.mem_flatMap.1 hu
      exact E.one y u hy) h0 (by simp only [maxLen]; omega) (by rw [Nat.zero_add]; exact hl) (by omega) _ rfl ?_
    intro g1 cap w1 hown1 hg1 _ _
    refine h _ w1 ?_ hg1
    unfold Own
    simpa using hown1
  · obtain rfl : l = [] := List.eq_nil_of_length_eq_zero (by omega)
    unfold Oper.wp execOp
    simp only [ho, resolve, invoke, builtin, Sem.run_bind, Sem.run_pure, Result.andThen_ok, List.map_toArray, List.map_cons, List.map_nil, hs, hx]
    have hr := run_append_zero (P := P) W t q.type e i0 ht hi g c A
    simp only [List.length_nil] at *
    rw [hr]
    exact h _ W hown ⟨rfl, rfl, rfl, Nat.le_refl _, fun _ _ _ => rfl⟩
theorem step_app (hw : Region.wanted q (yielded ops a.tmps) = true) {α : Type} (E : Enc α) {W : World} (base : Nat) (s x : Operand) (t e : TypeId) (z : Value) (bytes : Nat)
    (ho : q.op = .call { callee := .builtin .append, args := #[s, x], argTypes := #[t, t] })
    (ht : P.underlying t = some (.slice e)) (hinfo : (P.info? e).map (fun i => (i.zero, i.size, i.bytes)) = some (some z, E.sz, bytes)) (hz : z.cells.size = E.sz) (hb0 : 0 < bytes)
    (g : Nat) (hx : a.eval x = .slice (some ⟨g, 0, none⟩) 1 1) (v : Value) (l : List α) (y : α) (cs : Array Value) (hcs : cs.toList = E.cells y) (hs : a.eval s = v)
    (hrow : CellsAt W g cs e) (HO : Own E e W base v l) (hbase : base ≤ W.heap.size) (hl : (l.length + 1) * bytes ≤ 140737488355328)
    (h : ∀ v1 w1, Own E e w1 base v1 (l ++ [y]) → W.grownBy w1 v.ownBlock → K (a.put q.dst v1) w1) :
    if Region.wanted q (yielded ops a.tmps) = true then Oper.wp P q a W K Q else C := by
  rw [if_pos hw]
  obtain ⟨i0, hi, hz0, hz1, hz2⟩ := info_parts hinfo
  have hlen : l.length + 1 ≤ 140737488355328 := Nat.le_trans (Nat.le_mul_of_pos_right _ hb0) hl
  refine wp_append_lies W s x t ho base e i0 z E.sz bytes ht hi hz0 hz1 hz2 hz E.pos v l.length (l.flatMap E.cells) hs HO ⟨g, 0, none⟩ 1 1 (E.cells y) hx (by rw [E.len]; omega)
      (fun j u hu => World.news_of_block (cs := cs) (t := e) (fr := (0, 0)) hrow j u (by rw [hcs]; exact hu)) (E.one y) (by decide) (by simp only [maxLen]; omega) hl hbase _ rfl ?_
  intro g1 cap w1 hown hg _ _
  refine h _ w1 ?_ hg
  unfold Own
  rw [List.length_append, List.flatMap_append, show [y].flatMap E.cells = E.cells y from by simp]
  exact hown
end
theorem reads_flat {α : Type} {E : Enc α} {w : World} {A : Option Addr} {c : Nat} {l : List α} (h : Reads E w (.slice A l.length c) l) (h0 : 0 < l.length) :
    ∃ ad, A = some ad ∧ ∀ j u, (l.flatMap E.cells)[j]? = some u → w.cell? (ad.add j) = some u := by
  obtain ⟨_, A', c', e, hx⟩ := h
  simp only [Value.slice.injEq] at e
  obtain ⟨rfl, _, rfl⟩ := e
  obtain ⟨b, off, rfl, _⟩ := hx 0 l[0] (List.getElem?_eq_getElem h0)
  refine ⟨_, rfl, fun j u hu => ?_⟩
  have hp := E.pos
  have hj : j < l.length * E.sz := by
    have := (List.getElem?_eq_some_iff.1 hu).1
    rwa [flat_len] at this
  have hi : j / E.sz < l.length := (Nat.div_lt_iff_lt_mul hp).2 hj
  have hr : j % E.sz < E.sz := Nat.mod_lt _ hp
  have hd : j / E.sz * E.sz + j % E.sz = j := by rw [Nat.mul_comm]; exact Nat.div_add_mod j E.sz
  have hlen : j % E.sz < (E.cells l[j / E.sz]).length := by rw [E.len]; exact hr
  have hu' : (E.cells l[j / E.sz])[j % E.sz]? = some ((E.cells l[j / E.sz])[j % E.sz]) := List.getElem?_eq_getElem hlen
  have hf := flat_get E l (j / E.sz) l[j / E.sz] (j % E.sz) _ (List.getElem?_eq_getElem hi) hu'
  rw [hd, hu] at hf
  obtain rfl := Option.some.inj hf
  obtain ⟨b', off', e', hc⟩ := hx (j / E.sz) l[j / E.sz] (List.getElem?_eq_getElem hi)
  simp only [Option.some.injEq, Addr.mk.injEq] at e'
  obtain ⟨rfl, rfl, _⟩ := e'
  have := hc (j % E.sz) _ hu'
  rw [show off + j / E.sz * E.sz + j % E.sz = off + j by omega] at this
  rw [show (⟨b, off, none⟩ : Addr).add j = ⟨b, off + j, none⟩ from by unfold Addr.add; split <;> simp_all]
  exact this
end Go.Proofs.YtnhaiecbjipodaaGreatDoor
/- The references' Do of layer 22, kind 0: what errors it has; nothing panics. -/
namespace Go.Proofs.YtnhaiecbjipodaaGreatDoor
open Go.RowKit
attribute [local go_sem] Grow.cell Grow.froz Grow.lt lt_s1 lt_s2 lt_s3 lt_s4 lt_s5
set_option maxRecDepth 100000 in
set_option maxHeartbeats 4000000 in
theorem d22_0 (v : Value) (l : List Body) (b : Body) (q x y : Int) (A : Option Addr) (n c : Nat) (w : World) (hl : Reads bodyE w v l) (hn : l.length ≤ 1000000) :
    Calls Tryz.prog 30 #[v, .agg (OpA 0 b q x y A n c)] w fun e w' => ∃ V1 n1 c1 B1 m1 d1 cnt f, e = .returned (.agg #[.slice V1 n1 c1, .int .i64 (addL l b).2, .int .u32 0, .int .i32 0, .int .i32 0, .int .i32 0, .int .i32 0, .int .i32 0, .int .i32 0, .int .i32 0, .int .i32 0, .int .i32 0, .slice B1 m1 d1, .int .i64 cnt, .bool f]) ∧ Below w.heap.size w w' := by
  obtain ⟨A0, n0, c0, rfl⟩ := formB hl
  obtain ⟨er, her⟩ : ∃ er, er = (addL l b).2 := ⟨_, rfl⟩
  have HADD : ∀ W, Below w.heap.size w W → Calls Tryz.prog 64 #[.slice A0 n0 c0, .agg b.arr] W fun e w' => ∃ A1 n1 c1, e = .returned (.tuple #[.slice A1 n1 c1, .int .i64 er]) ∧ Below W.heap.size W w' := fun W hb => (add_any _ l b W (hl.below hb) hn).mono fun _ _ ⟨v1, h1, h2, h3⟩ => by obtain ⟨A1, n1, c1, rfl⟩ := formB h2; exact ⟨A1, n1, c1, by rw [h1, her], h3⟩
  have HADD := Lib.hid HADD
  rw [← her]
  clear hl her hn
  go_enter Tryz.func30, Tryz.ntmps30
  go_upto_region 23 with (go_at_call 64; refine (HADD.out _ (by repeat (first | with_reducible exact Below.refl _ _ | with_reducible refine bel_alloc ?_ _ | with_reducible refine bel_drewN ?_ _ | with_reducible refine bel_drew ?_ | with_reducible refine bel_grow ?_ _ | with_reducible refine bel_set ?_ (by first | omega | (simp; done) | (simp; omega)) _))).mono ?_; rintro e w1 ⟨A1, n1, c1, rfl, hb1⟩; obtain ⟨g1, rfl⟩ := Grow.of hb1; clear hb1)
  have hW : Below w.heap.size w (((g1.world).setCell ⟨w.heap.size + 1 + 1, 0, none⟩ (.slice A1 n1 c1)).setCell ⟨w.heap.size + 1 + 1, 1, none⟩ (.int .i64 er)) := (by repeat (first | with_reducible exact Below.refl _ _ | with_reducible refine bel_alloc ?_ _ | with_reducible refine bel_drewN ?_ _ | with_reducible refine bel_drew ?_ | with_reducible refine bel_grow ?_ _ | with_reducible refine bel_set ?_ (by first | omega | (simp; done) | (simp; omega)) _))
  have k5 : CellsAt (((g1.world).setCell ⟨w.heap.size + 1 + 1, 0, none⟩ (.slice A1 n1 c1)).setCell ⟨w.heap.size + 1 + 1, 1, none⟩ (.int .i64 er)) (w.heap.size + 1 + 1) #[.slice A1 n1 c1, .int .i64 er, .int .u32 0, .int .i32 0, .int .i32 0, .int .i32 0, .int .i32 0, .int .i32 0, .int .i32 0, .int .i32 0, .int .i32 0, .int .i32 0, .slice none 0 0, .int .i64 0, .bool false] 87 := ((((by repeat (first | with_reducible exact CellsAt.newAt (by first | rfl | (simp; done) | omega) rfl | with_reducible refine CellsAt.alloc ?_ _ | with_reducible refine CellsAt.drewN ?_ _ | with_reducible refine CellsAt.drew ?_ | with_reducible refine CellsAt.grow ?_ _ | with_reducible refine CellsAt.far ?_ (by first | omega | (simp; done) | (simp; omega)) _)) : CellsAt g1.world (w.heap.size + 1 + 1) #[.slice A0 n0 c0, .int .i64 0, .int .u32 0, .int .i32 0, .int .i32 0, .int .i32 0, .int .i32 0, .int .i32 0, .int .i32 0, .int .i32 0, .int .i32 0, .int .i32 0, .slice none 0 0, .int .i64 0, .bool false] 87).set 0 _).set 1 _).eq (by simp)
  have k4 : CellsAt (((g1.world).setCell ⟨w.heap.size + 1 + 1, 0, none⟩ (.slice A1 n1 c1)).setCell ⟨w.heap.size + 1 + 1, 1, none⟩ (.int .i64 er)) (w.heap.size + 1) #[.slice none 0 0, .int .i64 0, .int .u32 0, .int .i32 0, .int .i32 0, .int .i32 0, .int .i32 0, .int .i32 0, .int .i32 0, .int .i32 0, .int .i32 0, .int .i32 0, .slice none 0 0, .int .i64 0, .bool false] 87 := (by repeat (first | with_reducible exact CellsAt.newAt (by first | rfl | (simp; done) | omega) rfl | with_reducible refine CellsAt.alloc ?_ _ | with_reducible refine CellsAt.drewN ?_ _ | with_reducible refine CellsAt.drew ?_ | with_reducible refine CellsAt.grow ?_ _ | with_reducible refine CellsAt.far ?_ (by first | omega | (simp; done) | (simp; omega)) _))
  generalize ((g1.world).setCell ⟨w.heap.size + 1 + 1, 0, none⟩ (.slice A1 n1 c1)).setCell ⟨w.heap.size + 1 + 1, 1, none⟩ (.int .i64 er) = W3 at *
  have l4 := k4.lt
  have l5 := k5.lt
  have f4 : ∀ o, W3.frozen? ⟨w.heap.size + 1, o, none⟩ = false := fun o => k4.froz o
  have kk1 : W3.cell? ⟨(w.heap.size + 1 + 1), 0, none⟩ = some (.slice A1 n1 c1) := k5.at 0 rfl
  have kk2 : W3.cell? ⟨(w.heap.size + 1 + 1), 1, none⟩ = some (.int .i64 er) := k5.at 1 rfl
  have kk3 : W3.cell? ⟨(w.heap.size + 1 + 1), 2, none⟩ = some (.int .u32 0) := k5.at 2 rfl
  have kk4 : W3.cell? ⟨(w.heap.size + 1 + 1), 3, none⟩ = some (.int .i32 0) := k5.at 3 rfl
  have kk5 : W3.cell? ⟨(w.heap.size + 1 + 1), 4, none⟩ = some (.int .i32 0) := k5.at 4 rfl
  have kk6 : W3.cell? ⟨(w.heap.size + 1 + 1), 5, none⟩ = some (.int .i32 0) := k5.at 5 rfl
  have kk7 : W3.cell? ⟨(w.heap.size + 1 + 1), 6, none⟩ = some (.int .i32 0) := k5.at 6 rfl
  have kk8 : W3.cell? ⟨(w.heap.size + 1 + 1), 7, none⟩ = some (.int .i32 0) := k5.at 7 rfl
  have kk9 : W3.cell? ⟨(w.heap.size + 1 + 1), 8, none⟩ = some (.int .i32 0) := k5.at 8 rfl
  have kk10 : W3.cell? ⟨(w.heap.size + 1 + 1), 9, none⟩ = some (.int .i32 0) := k5.at 9 rfl
  have kk11 : W3.cell? ⟨(w.heap.size + 1 + 1), 10, none⟩ = some (.int .i32 0) := k5.at 10 rfl
  have kk12 : W3.cell? ⟨(w.heap.size + 1 + 1), 11, none⟩ = some (.int .i32 0) := k5.at 11 rfl
  have kk13 : W3.cell? ⟨(w.heap.size + 1 + 1), 12, none⟩ = some (.slice none 0 0) := k5.at 12 rfl
  have kk14 : W3.cell? ⟨(w.heap.size + 1 + 1), 13, none⟩ = some (.int .i64 0) := k5.at 13 rfl
  have kk15 : W3.cell? ⟨(w.heap.size + 1 + 1), 14, none⟩ = some (.bool false) := k5.at 14 rfl
  have kk16 : W3.cell? ⟨(w.heap.size + 1), 0, none⟩ = some (.slice none 0 0) := k4.at 0 rfl
  have kk17 : W3.cell? ⟨(w.heap.size + 1), 1, none⟩ = some (.int .i64 0) := k4.at 1 rfl
  have kk18 : W3.cell? ⟨(w.heap.size + 1), 2, none⟩ = some (.int .u32 0) := k4.at 2 rfl
  have kk19 : W3.cell? ⟨(w.heap.size + 1), 3, none⟩ = some (.int .i32 0) := k4.at 3 rfl
  have kk20 : W3.cell? ⟨(w.heap.size + 1), 4, none⟩ = some (.int .i32 0) := k4.at 4 rfl
  have kk21 : W3.cell? ⟨(w.heap.size + 1), 5, none⟩ = some (.int .i32 0) := k4.at 5 rfl
  have kk22 : W3.cell? ⟨(w.heap.size + 1), 6, none⟩ = some (.int .i32 0) := k4.at 6 rfl
  have kk23 : W3.cell? ⟨(w.heap.size + 1), 7, none⟩ = some (.int .i32 0) := k4.at 7 rfl
  have kk24 : W3.cell? ⟨(w.heap.size + 1), 8, none⟩ = some (.int .i32 0) := k4.at 8 rfl
  have kk25 : W3.cell? ⟨(w.heap.size + 1), 9, none⟩ = some (.int .i32 0) := k4.at 9 rfl
  have kk26 : W3.cell? ⟨(w.heap.size + 1), 10, none⟩ = some (.int .i32 0) := k4.at 10 rfl
  have kk27 : W3.cell? ⟨(w.heap.size + 1), 11, none⟩ = some (.int .i32 0) := k4.at 11 rfl
  have kk28 : W3.cell? ⟨(w.heap.size + 1), 12, none⟩ = some (.slice none 0 0) := k4.at 12 rfl
  have kk29 : W3.cell? ⟨(w.heap.size + 1), 13, none⟩ = some (.int .i64 0) := k4.at 13 rfl
  have kk30 : W3.cell? ⟨(w.heap.size + 1), 14, none⟩ = some (.bool false) := k4.at 14 rfl
  have HK4 := Lib.hid k4
  have HW := Lib.hid hW
  clear k4 k5 hW
  go_wp2
  refine bodyPost_ret (v := .agg #[.slice A1 n1 c1, .int .i64 er, .int .u32 0, .int .i32 0, .int .i32 0, .int .i32 0, .int .i32 0, .int .i32 0, .int .i32 0, .int .i32 0, .int .i32 0, .int .i32 0, .slice none 0 0, .int .i64 0, .bool false]) (ret_cells (w.heap.size + 1) #[.slice A1 n1 c1, .int .i64 er, .int .u32 0, .int .i32 0, .int .i32 0, .int .i32 0, .int .i32 0, .int .i32 0, .int .i32 0, .int .i32 0, .int .i32 0, .int .i32 0, .slice none 0 0, .int .i64 0, .bool false] 87 ?_ ?_) rfl ⟨_, _, _, _, _, _, _, _, rfl, ?_⟩
  · exact (((((((((((((((HK4.out.set 0 _).set 1 _).set 2 _).set 3 _).set 4 _).set 5 _).set 6 _).set 7 _).set 8 _).set 9 _).set 10 _).set 11 _).set 12 _).set 13 _).set 14 _).eq (by simp)
  · intro W K
    have kk31 : W.cell? ⟨(w.heap.size + 1), 0, none⟩ = some (.slice A1 n1 c1) := K.at 0 rfl
    have kk32 : W.cell? ⟨(w.heap.size + 1), 1, none⟩ = some (.int .i64 er) := K.at 1 rfl
    have kk33 : W.cell? ⟨(w.heap.size + 1), 2, none⟩ = some (.int .u32 0) := K.at 2 rfl
    have kk34 : W.cell? ⟨(w.heap.size + 1), 3, none⟩ = some (.int .i32 0) := K.at 3 rfl
    have kk35 : W.cell? ⟨(w.heap.size + 1), 4, none⟩ = some (.int .i32 0) := K.at 4 rfl
    have kk36 : W.cell? ⟨(w.heap.size + 1), 5, none⟩ = some (.int .i32 0) := K.at 5 rfl
    have kk37 : W.cell? ⟨(w.heap.size + 1), 6, none⟩ = some (.int .i32 0) := K.at 6 rfl
    have kk38 : W.cell? ⟨(w.heap.size + 1), 7, none⟩ = some (.int .i32 0) := K.at 7 rfl
    have kk39 : W.cell? ⟨(w.heap.size + 1), 8, none⟩ = some (.int .i32 0) := K.at 8 rfl
    have kk40 : W.cell? ⟨(w.heap.size + 1), 9, none⟩ = some (.int .i32 0) := K.at 9 rfl
    have kk41 : W.cell? ⟨(w.heap.size + 1), 10, none⟩ = some (.int .i32 0) := K.at 10 rfl
    have kk42 : W.cell? ⟨(w.heap.size + 1), 11, none⟩ = some (.int .i32 0) := K.at 11 rfl
    have kk43 : W.cell? ⟨(w.heap.size + 1), 12, none⟩ = some (.slice none 0 0) := K.at 12 rfl
    have kk44 : W.cell? ⟨(w.heap.size + 1), 13, none⟩ = some (.int .i64 0) := K.at 13 rfl
    have kk45 : W.cell? ⟨(w.heap.size + 1), 14, none⟩ = some (.bool false) := K.at 14 rfl
    simp [results, Tryz.results30, go_sem, *]
  · have hB := HW.out
    repeat (first | with_reducible exact hB | with_reducible refine bel_set ?_ (by first | omega | (simp; done) | (simp; omega)) _)
end Go.Proofs.YtnhaiecbjipodaaGreatDoor
/- The references' Do of layer 22, kind 1: what errors it has; nothing panics. -/
namespace Go.Proofs.YtnhaiecbjipodaaGreatDoor
open Go.RowKit
attribute [local go_sem] Grow.cell Grow.froz Grow.lt lt_s1 lt_s2 lt_s3 lt_s4 lt_s5
set_option maxRecDepth 100000 in
set_option maxHeartbeats 4000000 in
theorem d22_1 (v : Value) (l : List Body) (b : Body) (q x y : Int) (A : Option Addr) (n c : Nat) (w : World) (hl : Reads bodyE w v l) (hn : l.length ≤ 1000000) :
    Calls Tryz.prog 30 #[v, .agg (OpA 1 b q x y A n c)] w fun e w' => ∃ V1 n1 c1 B1 m1 d1 cnt f, e = .returned (.agg #[.slice V1 n1 c1, .int .i64 (errK l q), .int .u32 0, .int .i32 0, .int .i32 0, .int .i32 0, .int .i32 0, .int .i32 0, .int .i32 0, .int .i32 0, .int .i32 0, .int .i32 0, .slice B1 m1 d1, .int .i64 cnt, .bool f]) ∧ Below w.heap.size w w' := by
  obtain ⟨A0, n0, c0, rfl⟩ := formB hl
  obtain ⟨er, her⟩ : ∃ er, er = errK l q := ⟨_, rfl⟩
  have HREM := Lib.hid fun W (hb : Below w.heap.size w W) => refRemove_lax _ l q W (hl.below hb) hn
  rw [← her] at HREM ⊢
  clear hl her hn
  go_enter Tryz.func30, Tryz.ntmps30
  go_upto_region 23 with (go_at_call 65; refine (HREM.out _ (by repeat (first | with_reducible exact Below.refl _ _ | with_reducible refine bel_alloc ?_ _ | with_reducible refine bel_drewN ?_ _ | with_reducible refine bel_drew ?_ | with_reducible refine bel_grow ?_ _ | with_reducible refine bel_set ?_ (by first | omega | (simp; done) | (simp; omega)) _))).mono ?_; rintro e w1 ⟨A1, n1, c1, rfl, hb1⟩; obtain ⟨g1, rfl⟩ := Grow.of hb1; clear hb1)
  have hW : Below w.heap.size w (((g1.world).setCell ⟨w.heap.size + 1 + 1, 0, none⟩ (.slice A1 n1 c1)).setCell ⟨w.heap.size + 1 + 1, 1, none⟩ (.int .i64 er)) := (by repeat (first | with_reducible exact Below.refl _ _ | with_reducible refine bel_alloc ?_ _ | with_reducible refine bel_drewN ?_ _ | with_reducible refine bel_drew ?_ | with_reducible refine bel_grow ?_ _ | with_reducible refine bel_set ?_ (by first | omega | (simp; done) | (simp; omega)) _))
  have k5 : CellsAt (((g1.world).setCell ⟨w.heap.size + 1 + 1, 0, none⟩ (.slice A1 n1 c1)).setCell ⟨w.heap.size + 1 + 1, 1, none⟩ (.int .i64 er)) (w.heap.size + 1 + 1) #[.slice A1 n1 c1, .int .i64 er, .int .u32 0, .int .i32 0, .int .i32 0, .int .i32 0, .int .i32 0, .int .i32 0, .int .i32 0, .int .i32 0, .int .i32 0, .int .i32 0, .slice none 0 0, .int .i64 0, .bool false] 87 := ((((by repeat (first | with_reducible exact CellsAt.newAt (by first | rfl | (simp; done) | omega) rfl | with_reducible refine CellsAt.alloc ?_ _ | with_reducible refine CellsAt.drewN ?_ _ | with_reducible refine CellsAt.drew ?_ | with_reducible refine CellsAt.grow ?_ _ | with_reducible refine CellsAt.far ?_ (by first | omega | (simp; done) | (simp; omega)) _)) : CellsAt g1.world (w.heap.size + 1 + 1) #[.slice A0 n0 c0, .int .i64 0, .int .u32 0, .int .i32 0, .int .i32 0, .int .i32 0, .int .i32 0, .int .i32 0, .int .i32 0, .int .i32 0, .int .i32 0, .int .i32 0, .slice none 0 0, .int .i64 0, .bool false] 87).set 0 _).set 1 _).eq (by simp)
  have k4 : CellsAt (((g1.world).setCell ⟨w.heap.size + 1 + 1, 0, none⟩ (.slice A1 n1 c1)).setCell ⟨w.heap.size + 1 + 1, 1, none⟩ (.int .i64 er)) (w.heap.size + 1) #[.slice none 0 0, .int .i64 0, .int .u32 0, .int .i32 0, .int .i32 0, .int .i32 0, .int .i32 0, .int .i32 0, .int .i32 0, .int .i32 0, .int .i32 0, .int .i32 0, .slice none 0 0, .int .i64 0, .bool false] 87 := (by repeat (first | with_reducible exact CellsAt.newAt (by first | rfl | (simp; done) | omega) rfl | with_reducible refine CellsAt.alloc ?_ _ | with_reducible refine CellsAt.drewN ?_ _ | with_reducible refine CellsAt.drew ?_ | with_reducible refine CellsAt.grow ?_ _ | with_reducible refine CellsAt.far ?_ (by first | omega | (simp; done) | (simp; omega)) _))
  generalize ((g1.world).setCell ⟨w.heap.size + 1 + 1, 0, none⟩ (.slice A1 n1 c1)).setCell ⟨w.heap.size + 1 + 1, 1, none⟩ (.int .i64 er) = W3 at *
  have l4 := k4.lt
  have l5 := k5.lt
  have f4 : ∀ o, W3.frozen? ⟨w.heap.size + 1, o, none⟩ = false := fun o => k4.froz o
  have kk1 : W3.cell? ⟨(w.heap.size + 1 + 1), 0, none⟩ = some (.slice A1 n1 c1) := k5.at 0 rfl
  have kk2 : W3.cell? ⟨(w.heap.size + 1 + 1), 1, none⟩ = some (.int .i64 er) := k5.at 1 rfl
  have kk3 : W3.cell? ⟨(w.heap.size + 1 + 1), 2, none⟩ = some (.int .u32 0) := k5.at 2 rfl
  have kk4 : W3.cell? ⟨(w.heap.size + 1 + 1), 3, none⟩ = some (.int .i32 0) := k5.at 3 rfl
  have kk5 : W3.cell? ⟨(w.heap.size + 1 + 1), 4, none⟩ = some (.int .i32 0) := k5.at 4 rfl
  have kk6 : W3.cell? ⟨(w.heap.size + 1 + 1), 5, none⟩ = some (.int .i32 0) := k5.at 5 rfl
  have kk7 : W3.cell? ⟨(w.heap.size + 1 + 1), 6, none⟩ = some (.int .i32 0) := k5.at 6 rfl
  have kk8 : W3.cell? ⟨(w.heap.size + 1 + 1), 7, none⟩ = some (.int .i32 0) := k5.at 7 rfl
  have kk9 : W3.cell? ⟨(w.heap.size + 1 + 1), 8, none⟩ = some (.int .i32 0) := k5.at 8 rfl
  have kk10 : W3.cell? ⟨(w.heap.size + 1 + 1), 9, none⟩ = some (.int .i32 0) := k5.at 9 rfl
  have kk11 : W3.cell? ⟨(w.heap.size + 1 + 1), 10, none⟩ = some (.int .i32 0) := k5.at 10 rfl
  have kk12 : W3.cell? ⟨(w.heap.size + 1 + 1), 11, none⟩ = some (.int .i32 0) := k5.at 11 rfl
  have kk13 : W3.cell? ⟨(w.heap.size + 1 + 1), 12, none⟩ = some (.slice none 0 0) := k5.at 12 rfl
  have kk14 : W3.cell? ⟨(w.heap.size + 1 + 1), 13, none⟩ = some (.int .i64 0) := k5.at 13 rfl
  have kk15 : W3.cell? ⟨(w.heap.size + 1 + 1), 14, none⟩ = some (.bool false) := k5.at 14 rfl
  have kk16 : W3.cell? ⟨(w.heap.size + 1), 0, none⟩ = some (.slice none 0 0) := k4.at 0 rfl
  have kk17 : W3.cell? ⟨(w.heap.size + 1), 1, none⟩ = some (.int .i64 0) := k4.at 1 rfl
  have kk18 : W3.cell? ⟨(w.heap.size + 1), 2, none⟩ = some (.int .u32 0) := k4.at 2 rfl
  have kk19 : W3.cell? ⟨(w.heap.size + 1), 3, none⟩ = some (.int .i32 0) := k4.at 3 rfl
  have kk20 : W3.cell? ⟨(w.heap.size + 1), 4, none⟩ = some (.int .i32 0) := k4.at 4 rfl
  have kk21 : W3.cell? ⟨(w.heap.size + 1), 5, none⟩ = some (.int .i32 0) := k4.at 5 rfl
  have kk22 : W3.cell? ⟨(w.heap.size + 1), 6, none⟩ = some (.int .i32 0) := k4.at 6 rfl
  have kk23 : W3.cell? ⟨(w.heap.size + 1), 7, none⟩ = some (.int .i32 0) := k4.at 7 rfl
  have kk24 : W3.cell? ⟨(w.heap.size + 1), 8, none⟩ = some (.int .i32 0) := k4.at 8 rfl
  have kk25 : W3.cell? ⟨(w.heap.size + 1), 9, none⟩ = some (.int .i32 0) := k4.at 9 rfl
  have kk26 : W3.cell? ⟨(w.heap.size + 1), 10, none⟩ = some (.int .i32 0) := k4.at 10 rfl
  have kk27 : W3.cell? ⟨(w.heap.size + 1), 11, none⟩ = some (.int .i32 0) := k4.at 11 rfl
  have kk28 : W3.cell? ⟨(w.heap.size + 1), 12, none⟩ = some (.slice none 0 0) := k4.at 12 rfl
  have kk29 : W3.cell? ⟨(w.heap.size + 1), 13, none⟩ = some (.int .i64 0) := k4.at 13 rfl
  have kk30 : W3.cell? ⟨(w.heap.size + 1), 14, none⟩ = some (.bool false) := k4.at 14 rfl
  have HK4 := Lib.hid k4
  have HW := Lib.hid hW
  clear k4 k5 hW
  go_wp2
  refine bodyPost_ret (v := .agg #[.slice A1 n1 c1, .int .i64 er, .int .u32 0, .int .i32 0, .int .i32 0, .int .i32 0, .int .i32 0, .int .i32 0, .int .i32 0, .int .i32 0, .int .i32 0, .int .i32 0, .slice none 0 0, .int .i64 0, .bool false]) (ret_cells (w.heap.size + 1) #[.slice A1 n1 c1, .int .i64 er, .int .u32 0, .int .i32 0, .int .i32 0, .int .i32 0, .int .i32 0, .int .i32 0, .int .i32 0, .int .i32 0, .int .i32 0, .int .i32 0, .slice none 0 0, .int .i64 0, .bool false] 87 ?_ ?_) rfl ⟨_, _, _, _, _, _, _, _, rfl, ?_⟩
  · exact (((((((((((((((HK4.out.set 0 _).set 1 _).set 2 _).set 3 _).set 4 _).set 5 _).set 6 _).set 7 _).set 8 _).set 9 _).set 10 _).set 11 _).set 12 _).set 13 _).set 14 _).eq (by simp)
  · intro W K
    have kk31 : W.cell? ⟨(w.heap.size + 1), 0, none⟩ = some (.slice A1 n1 c1) := K.at 0 rfl
    have kk32 : W.cell? ⟨(w.heap.size + 1), 1, none⟩ = some (.int .i64 er) := K.at 1 rfl
    have kk33 : W.cell? ⟨(w.heap.size + 1), 2, none⟩ = some (.int .u32 0) := K.at 2 rfl
    have kk34 : W.cell? ⟨(w.heap.size + 1), 3, none⟩ = some (.int .i32 0) := K.at 3 rfl
    have kk35 : W.cell? ⟨(w.heap.size + 1), 4, none⟩ = some (.int .i32 0) := K.at 4 rfl
    have kk36 : W.cell? ⟨(w.heap.size + 1), 5, none⟩ = some (.int .i32 0) := K.at 5 rfl
    have kk37 : W.cell? ⟨(w.heap.size + 1), 6, none⟩ = some (.int .i32 0) := K.at 6 rfl
    have kk38 : W.cell? ⟨(w.heap.size + 1), 7, none⟩ = some (.int .i32 0) := K.at 7 rfl
    have kk39 : W.cell? ⟨(w.heap.size + 1), 8, none⟩ = some (.int .i32 0) := K.at 8 rfl
    have kk40 : W.cell? ⟨(w.heap.size + 1), 9, none⟩ = some (.int .i32 0) := K.at 9 rfl
    have kk41 : W.cell? ⟨(w.heap.size + 1), 10, none⟩ = some (.int .i32 0) := K.at 10 rfl
    have kk42 : W.cell? ⟨(w.heap.size + 1), 11, none⟩ = some (.int .i32 0) := K.at 11 rfl
    have kk43 : W.cell? ⟨(w.heap.size + 1), 12, none⟩ = some (.slice none 0 0) := K.at 12 rfl
    have kk44 : W.cell? ⟨(w.heap.size + 1), 13, none⟩ = some (.int .i64 0) := K.at 13 rfl
    have kk45 : W.cell? ⟨(w.heap.size + 1), 14, none⟩ = some (.bool false) := K.at 14 rfl
    simp [results, Tryz.results30, go_sem, *]
  · have hB := HW.out
    repeat (first | with_reducible exact hB | with_reducible refine bel_set ?_ (by first | omega | (simp; done) | (simp; omega)) _)
end Go.Proofs.YtnhaiecbjipodaaGreatDoor
