/- The closure of Move, transform over it, and Move. -/
import Derived.Test.YthoapplkaidaaaaTrans
namespace Go.Proofs.Ythoapplkaidaaaa
open Go.RowKit
attribute [local go_sem] Grow.cell Grow.froz Grow.lt

def shiftE : Enc (Int × Int) := ⟨2, fun s => [.int .i64 s.1, .int .i64 s.2], fun _ => rfl, fun s u hu => by
  simp at hu
  rcases hu with rfl | rfl <;> rfl, by decide⟩
def moveX (p s v : Int) : Int := p + s + v / 64
def moveB (b : Body) (s : Int × Int) : Body := { b with px := clampI (moveX b.px s.1 b.vx) 1073741824, py := clampI (moveX b.py s.2 b.vy) 1073741824 }
def moveC (b : Body) (s : Int × Int) : Bool := !(clampI (moveX b.px s.1 b.vx) 1073741824 == moveX b.px s.1 b.vx) || !(clampI (moveX b.py s.2 b.vy) 1073741824 == moveX b.py s.2 b.vy)
theorem idx_shift {A : Option Addr} {b off k len c : Nat} (hA : A = some ⟨b, off, none⟩) (hk : k < len) (w : World) :
    (Instr.indexAt 31 (.slice A len c) (.int .i64 (k : Int))).run Try.prog w = .ok (.pointer (some ⟨b, off + k * 2, none⟩)) w := by
  subst hA
  have hk' : (k : Int) < (len : Int) := by omega
  go_simp
def ShiftOk (s : Int × Int) : Prop := -4611686018427387904 ≤ s.1 ∧ s.1 ≤ 4611686018427387904 ∧ -4611686018427387904 ≤ s.2 ∧ s.2 ≤ 4611686018427387904

theorem grown_drewN {w W : World} {r : Option Nat} (h : w.grownBy W r) (n : Nat) : w.grownBy (W.drewN n) r := ⟨h.os, h.tape, h.output, h.size, h.block⟩
theorem grown_setf {w W : World} {f o : Nat} (h : w.grownBy W (some f)) (v : Value) : w.grownBy (W.setCell ⟨f, o, none⟩ v) (some f) := by
  have k := (Below.refl 0 W).setCell (p := ⟨f, o, none⟩) (Nat.zero_le _) v
  exact ⟨k.os.trans h.os, k.tape.trans h.tape, k.output.trans h.output, Nat.le_trans h.size k.size, fun i hi hr => (Below.heap_setCell W ⟨f, o, none⟩ v i (fun e => hr (by rw [e]))).trans (h.block i hi hr)⟩
theorem grown_setn {w W : World} {r : Option Nat} {b o : Nat} (h : w.grownBy W r) (hb : w.heap.size ≤ b) (v : Value) : w.grownBy (W.setCell ⟨b, o, none⟩ v) r := by
  have k := (Below.refl 0 W).setCell (p := ⟨b, o, none⟩) (Nat.zero_le _) v
  exact ⟨k.os.trans h.os, k.tape.trans h.tape, k.output.trans h.output, Nat.le_trans h.size k.size, fun i hi hr => (Below.heap_setCell W ⟨b, o, none⟩ v i (by show i ≠ b; omega)).trans (h.block i hi hr)⟩
theorem Flag.drewN {w : World} {f : Nat} {c : Bool} (h : Flag w f c) (n : Nat) : Flag (w.drewN n) f c := h
theorem Flag.far {w : World} {f b o : Nat} {c : Bool} (h : Flag w f c) (hb : f ≠ b) (v : Value) : Flag (w.setCell ⟨b, o, none⟩ v) f c := by
  unfold Flag at *
  rw [Below.heap_setCell w ⟨b, o, none⟩ v f hb, h]

set_option maxHeartbeats 4000000 in
theorem moveClosure (k r ax ay m o px py vx vy : Int) (i lb f : Nat) (S : Option Addr) (n cc sb so : Nat) (sx sy : Int) (c : Bool) (w : World) (hF : Flag w f c)
    (hlb : w.cell? ⟨lb, 0, none⟩ = some (.slice S n cc)) (hS : S = some ⟨sb, so, none⟩) (hi : i < n) (hx : w.cell? ⟨sb, so + i * 2, none⟩ = some (.int .i64 sx)) (hy : w.cell? ⟨sb, so + i * 2 + 1, none⟩ = some (.int .i64 sy))
    (u0 : -16777216 ≤ vx) (u1 : vx ≤ 16777216) (u2 : -16777216 ≤ vy) (u3 : vy ≤ 16777216) (p0 : -1073741824 ≤ px) (p1 : px ≤ 1073741824) (p2 : -1073741824 ≤ py) (p3 : py ≤ 1073741824)
    (x0 : -4611686018427387904 ≤ sx) (x1 : sx ≤ 4611686018427387904) (y0 : -4611686018427387904 ≤ sy) (y1 : sy ≤ 4611686018427387904) :
    Calls Try.prog 28 #[.int .i64 (i : Int), .agg #[.int .u32 k, .int .i32 r, .int .i32 ax, .int .i32 ay, .int .i32 m, .int .i32 o, .int .i32 px, .int .i32 py, .int .i32 vx, .int .i32 vy], .pointer (some ⟨lb, 0, none⟩), .pointer (some ⟨f, 0, none⟩)] w fun e w' =>
      e = .returned (.agg (moveB ⟨k, r, ax, ay, m, o, px, py, vx, vy⟩ (sx, sy)).cells) ∧ w.grownBy w' (some f) ∧ Flag w' f (c || moveC ⟨k, r, ax, ay, m, o, px, py, vx, vy⟩ (sx, sy)) := by
  have h0 := hF.lt
  have h1 : f < w.heap.size + 1 := by omega
  have h2 : f < w.heap.size + 1 + 1 := by omega
  have h3 : f < w.heap.size + 1 + 1 + 1 := by omega
  have hc := hF.cell
  have hz := hF.froz
  have l0 : lb < w.heap.size := World.block_lt_of_cell? w _ hlb
  have l1 : lb < w.heap.size + 1 := by omega
  have l2 : lb < w.heap.size + 1 + 1 := by omega
  have k0 : sb < w.heap.size := World.block_lt_of_cell? w _ hx
  have k1 : sb < w.heap.size + 1 := by omega
  have k2 : sb < w.heap.size + 1 + 1 := by omega
  have ix := fun w => idx_shift (c := cc) hS hi w
  clear hS
  go_enter Try.func28, Try.ntmps28
  go_wp2_with fail
  go_quiet (fail)
  go_wp2_with fail
  go_quiet (fail)
  go_wp2_with fail
  refine (limited_any _ _ _ _ c _ (by omega) (by omega) (by simp [go_sem]; rfl) (by simp [go_sem, *]) (by simp [go_sem, *])).mono ?_
  rintro e w1 ⟨rfl, rfl⟩
  go_wp2_with fail
  refine (limited_any _ _ _ _ (c || !(clampI (px + sx + vx / 64) 1073741824 == px + sx + vx / 64)) _ (by omega) (by omega) (by simp [go_sem]; rfl) (by simp [go_sem, *]) (by simp [go_sem, *])).mono ?_
  rintro e w1 ⟨rfl, rfl⟩
  go_wp2_with fail
  refine bodyPost_ret (v := .agg (moveB ⟨k, r, ax, ay, m, o, px, py, vx, vy⟩ (sx, sy)).cells) (by simp [results, Try.results28, go_sem, moveB, moveX, Body.cells, *]) rfl ⟨rfl, ?_, ?_⟩
  · repeat (first | with_reducible exact grown_refl _ _ | with_reducible refine grown_alloc ?_ _ | with_reducible refine grown_drewN ?_ _ | with_reducible refine grown_setf ?_ _ | with_reducible refine grown_setn ?_ (by omega) _)
  · have e : (c || moveC ⟨k, r, ax, ay, m, o, px, py, vx, vy⟩ (sx, sy)) = ((c || !(clampI (px + sx + vx / 64) 1073741824 == px + sx + vx / 64)) || !(clampI (py + sy + vy / 64) 1073741824 == py + sy + vy / 64)) := by rw [Bool.or_assoc]; rfl
    rw [e]
    repeat (first | with_reducible refine Flag.alloc ?_ _ | with_reducible refine Flag.drewN ?_ _ | with_reducible refine Flag.far ?_ (by omega) _)
    exact Flag.set (Flag.set (Flag.drewN ((hF.alloc _).alloc _) _) _) _

/-- Two cells of a shift at an address. -/
theorem shift_at {w : World} {b o : Nat} {s : Int × Int} (h : ∀ j u, (shiftE.cells s)[j]? = some u → w.cell? ⟨b, o + j, none⟩ = some u) : w.cell? ⟨b, o, none⟩ = some (.int .i64 s.1) ∧ w.cell? ⟨b, o + 1, none⟩ = some (.int .i64 s.2) := ⟨h 0 _ rfl, h 1 _ rfl⟩
theorem Flag.neS {w : World} {f b o : Nat} {c : Bool} {n : Int} (h : Flag w f c) (t : w.cell? ⟨b, o, none⟩ = some (.int .i64 n)) : b ≠ f := by
  rintro rfl
  unfold Flag at h
  simp only [World.cell?, h] at t
  cases o with
  | zero => simp at t
  | succ n => simp at t
theorem Flag.neV {w : World} {f b o : Nat} {c : Bool} {A : Option Addr} {n m : Nat} (h : Flag w f c) (t : w.cell? ⟨b, o, none⟩ = some (.slice A n m)) : b ≠ f := by
  rintro rfl
  unfold Flag at h
  simp only [World.cell?, h] at t
  cases o with
  | zero => simp at t
  | succ n => simp at t
theorem grown_cell {w w' : World} {b o f : Nat} {u : Value} (h : w.cell? ⟨b, o, none⟩ = some u) (hg : w.grownBy w' (some f)) (hne : b ≠ f) : w'.cell? ⟨b, o, none⟩ = some u := hg.cell h (fun e => hne (by simpa using e))

/-- The bodies and their shifts, one by one. -/
def movL (l : List Body) (s : List (Int × Int)) : List Body := (l.zip s).map fun p => moveB p.1 p.2
def movC (l : List Body) (s : List (Int × Int)) : Bool := (l.zip s).any fun p => moveC p.1 p.2

theorem zip_take {l : List Body} {s : List (Int × Int)} {k : Nat} (hk : k < l.length) (hs : k < s.length) : (l.take (k + 1)).zip s = (l.take k).zip s ++ [(l[k], s[k])] := by
  have e : ∀ n, (l.take n).zip s = (l.zip s).take n := fun n => by
    apply List.ext_getElem
    · simp
      try omega
    · intro i h1 h2; simp
  rw [e, e, List.take_succ_eq_append_getElem (by simp; omega)]
  simp
theorem movL_take {l : List Body} {s : List (Int × Int)} {k : Nat} (hk : k < l.length) (hs : k < s.length) : movL (l.take (k + 1)) s = movL (l.take k) s ++ [moveB l[k] s[k]] := by
  unfold movL; rw [zip_take hk hs, List.map_append]; rfl
theorem movC_take {l : List Body} {s : List (Int × Int)} {k : Nat} (hk : k < l.length) (hs : k < s.length) : movC (l.take (k + 1)) s = (movC (l.take k) s || moveC l[k] s[k]) := by
  unfold movC; rw [zip_take hk hs, List.any_append]; simp
theorem Reads.cell_alloc {w : World} {b o : Nat} {u : Value} (h : w.cell? ⟨b, o, Option.none⟩ = some u) (x : Obj) : (w.alloc x).cell? ⟨b, o, Option.none⟩ = some u :=
  (keepB (new_ok x) b (World.block_lt_of_cell? w _ h) o).trans h

set_option maxHeartbeats 4000000 in
theorem transformM (v : Value) (l : List Body) (S : Option Addr) (s : List (Int × Int)) (cc sb so lb f : Nat) (c0 : Bool) (w : World) (hl : Reads bodyE w v l) (hn : l.length ≤ 1000000) (hV : ∀ b ∈ l, Small b) (hF : Flag w f c0)
    (hs : s.length = l.length) (hlb : w.cell? ⟨lb, 0, none⟩ = some (.slice S s.length cc)) (hS : 0 < s.length → S = some ⟨sb, so, none⟩) (hx : ∀ i (hi : i < s.length), w.cell? ⟨sb, so + i * 2, none⟩ = some (.int .i64 s[i].1) ∧ w.cell? ⟨sb, so + i * 2 + 1, none⟩ = some (.int .i64 s[i].2)) (hO : ∀ x ∈ s, ShiftOk x) :
    Calls Try.prog 23 #[v, .func (.func 28) #[] #[.pointer (some ⟨lb, 0, none⟩), .pointer (some ⟨f, 0, none⟩)]] w fun e w' =>
      ∃ v', e = .returned v' ∧ Reads bodyE w' v' (movL l s) ∧ w.grownBy w' (some f) ∧ Flag w' f (c0 || movC l s) := by
  obtain ⟨A, c, b1, o1, rfl, hA, hy⟩ := hl.bodies
  have hfl := hF.lt
  have hA := Lib.hid hA
  have hy := Lib.hid hy
  have HV := Lib.hid hV
  have HFl := Lib.hid hF
  have HS := Lib.hid hs
  have HLB := Lib.hid hlb
  have HSA := Lib.hid hS
  have HX := Lib.hid hx
  have HO := Lib.hid hO
  clear hl hV hF hs hlb hS hx hO
  go_enter Try.func23, Try.ntmps23
  go_wp2
  go_loopw [5, 10] (fun v i wr => ∃ k : Nat, k ≤ l.length ∧ i = .int .i64 k ∧ Own bodyE 37 wr w.heap.size v (movL (l.take k) s) ∧ w.grownBy wr (some f) ∧ Flag wr f (c0 || movC (l.take k) s)) (fun _ i _ => l.length - (intOf i).toNat)
  case atStart => exact ⟨0, by omega, rfl, by simpa [movL] using Own.nil _ _ _ _, grown_refl _ _, by simpa [movC] using HFl.out⟩
  case round =>
    obtain ⟨k, hk, rfl, hown, hgr, hflag⟩ := hrel
    have HG := Lib.hid hgr
    have hz := hgr.size
    have HFk := Lib.hid hflag
    clear hgr hflag
    by_cases hlt : k < l.length
    · have hks : k < s.length := by have := HS.out; omega
      obtain ⟨eA, zA⟩ := hA.out (by omega)
      have ix := fun w => idx_body (c := c) eA hlt w
      clear eA
      obtain ⟨q0, q1, q2, q3, q4, q5, q6, q7, q8, q9⟩ := (hy.out k hlt).grown HG.out (HFl.out.ne (hy.out k hlt))
      obtain ⟨s0, s1, s2, s3, s4, s5, s6, s7, s8, s9⟩ := HV.out l[k] (List.getElem_mem hlt)
      obtain ⟨x0, x1, y0, y1⟩ := HO.out s[k] (List.getElem_mem hks)
      have c1 := Lib.hid (grown_cell HLB.out HG.out (HFl.out.neV HLB.out))
      have c2 := Lib.hid (grown_cell (HX.out k hks).1 HG.out (HFl.out.neS (HX.out k hks).1))
      have c3 := Lib.hid (grown_cell (HX.out k hks).2 HG.out (HFl.out.neS (HX.out k hks).1))
      go_wp2_with fail
      refine (moveClosure _ _ _ _ _ _ _ _ _ _ k lb f S s.length cc sb so s[k].1 s[k].2 _ _ (by exact HFk.out.alloc _) (by exact Reads.cell_alloc c1.out _) (HSA.out (by omega)) hks (by exact Reads.cell_alloc c2.out _) (by exact Reads.cell_alloc c3.out _) s2 s3 s4 s5 s6 s7 s8 s9 x0 x1 y0 y1).mono ?_
      rintro e w1 ⟨he, hg1, hfl1⟩
      obtain ⟨y, hy⟩ : ∃ y, y = moveB l[k] s[k] := ⟨_, rfl⟩
      have he' : e = .returned (.agg #[.int .u32 y.key, .int .i32 y.radius, .int .i32 y.ax, .int .i32 y.ay, .int .i32 y.inv, .int .i32 y.bounce, .int .i32 y.px, .int .i32 y.py, .int .i32 y.vx, .int .i32 y.vy]) := by rw [hy]; exact he
      subst he'
      have HY := Lib.hid hy
      clear hy he
      have HG1 := Lib.hid hg1
      have HF1 := Lib.hid hfl1
      have hz1 := hg1.size
      simp at hz1
      have hlen : (movL (l.take k) s).length ≤ k := by simp [movL]; omega
      clear hg1 hfl1
      go_wp2_with (at_builtin; refine own_append bodyE w.heap.size rfl (.tmp 15) (.tmp 20) 22 37 _ 40 rfl Try.underlying22 bodyInfo rfl (by decide) _ (movL (l.take k) s) y _ (by rfl) rfl (by first | rfl | simp [go_sem]) ((hown.alloc _).kept HG1.out (own_ne hown hfl)) (Below.refl _ _) (by omega) (by omega) ?_; intro v1 w2 own1 bel1 gr1 sz1)
      go_roundw
      case rel => exact ⟨k + 1, by omega, by go_num, by rw [movL_take hlt hks, ← HY.out]; exact own1, grown_below (World.grownBy.trans (grown_alloc HG.out _) HG1.out) bel1, by rw [movC_take hlt hks, ← Bool.or_assoc]; exact HF1.out.below bel1 hfl⟩
      case measure => simp [intOf]; omega
    · have hkl : k = l.length := by omega
      have HN := Lib.hid hkl
      have hlen : (movL (l.take k) s).length ≤ k := by simp [movL]; omega
      clear hkl
      go_wp2
      go_ret
      exact ⟨_, rfl, by have := hown.reads (by omega); rw [HN.out, List.take_length] at this; exact this, HG.out, by have := HFk.out; rw [HN.out, List.take_length] at this; exact this⟩

theorem Flag.new' (w : World) (o : Obj) (c : Bool) : Flag ((w.alloc o).alloc (.cells #[.bool c] 4)) (w.heap.size + 1) c := by
  have h := Flag.new (w.alloc o) c
  simpa using h
theorem below_of_grown2 {w w' : World} {o p : Obj} (h : ((w.alloc o).alloc p).grownBy w' (some (w.heap.size + 1))) : Below w.heap.size w w' := by
  have h1 : Below w.heap.size ((w.alloc o).alloc p) w' := ⟨h.os, h.tape, h.output, h.size, fun i hi => h.block i (by simp; omega) (by simp; omega)⟩
  exact (bel_alloc (new_ok o) p).trans h1

set_option maxHeartbeats 2000000 in
theorem move_any (v u : Value) (l : List Body) (s : List (Int × Int)) (w : World) (hl : Reads bodyE w v l) (hn : l.length ≤ 1000000) (hV : ∀ b ∈ l, Small b)
    (hu : Reads shiftE w u s) (hs : s.length = l.length) (hO : ∀ x ∈ s, ShiftOk x) :
    Calls Try.prog 13 #[v, u] w fun e w' => ∃ v', e = .returned (.tuple #[v', .bool (movC l s)]) ∧ Reads bodyE w' v' (movL l s) ∧ Below w.heap.size w w' := by
  have HL := Lib.hid hl
  have HV := Lib.hid hV
  have HO := Lib.hid hO
  have HS := Lib.hid hs
  obtain ⟨A, c, b1, o1, rfl, _, _⟩ := hl.bodies
  obtain ⟨S, cc, sb, so, rfl, hS, hx⟩ := hu.form
  have HSA := Lib.hid hS
  have HX := Lib.hid hx
  clear hl hV hO hs hu hS hx
  go_enter Try.func13, Try.ntmps13
  go_wp2_with fail
  refine (transformM _ l S s cc sb so w.heap.size (w.heap.size + 1) false _ (by exact (HL.out.alloc _).alloc _) hn HV.out (by exact Flag.new' w _ false) HS.out (by simp) (fun h => (HSA.out h).1) (fun i hi => shift_at (fun j u hu => Reads.cell_alloc (Reads.cell_alloc (HX.out i hi j u hu) _) _)) HO.out).mono ?_
  rintro e w1 ⟨v1, rfl, hr, hg, hf⟩
  have hb := below_of_grown2 hg
  have HR := Lib.hid hr
  have hc := hf.cell
  have hfl := hf.lt
  simp only [Bool.false_or] at hc
  clear hr hg hf
  go_wp2_with fail
  refine wp_region_grow (by kernel_rfl) (by kernel_rfl) ?_
  repeat (first | go_big_quiet_skip | (go_big_quiet_want; go_big_quiet_op; first | go_big_quiet_on))
  refine wpQuiet_nil ?_
  rintro _ ⟨g, rfl⟩
  go_wp2_with fail
  go_ret2
  exact ⟨_, rfl, HR.out.grow g, bel_grow hb g⟩
end Go.Proofs.Ythoapplkaidaaaa
