/- Contracts of the program's functions, by walks, and plain facts beside them: RefAll, RefLax1, RefSum, RefShift. -/
import Derived.Test.YtnhaiecbjipodaaGreatDoorE05
import Derived.Test.YtnhaiecbjipodaaGreatDoorB27
import Derived.Test.YtnhaiecbjipodaaGreatDoorB26
import Derived.Test.YtnhaiecbjipodaaGreatDoorB16
/- The references' All: every contact of a view. -/
namespace Go.Proofs.YtnhaiecbjipodaaGreatDoor
open Go.RowKit
attribute [local go_sem] Grow.cell Grow.froz Grow.lt lt_s1 lt_s2 lt_s3 lt_s4 lt_s5
noncomputable def rowR (a : Body) (r : List Body) : List Con := (r.filter fun b => touchI a b).map (conR a)
noncomputable def allR : List Body → List Con
  | [] => []
  | a :: r => rowR a r ++ allR r
theorem rowR_len (a : Body) (r : List Body) : (rowR a r).length ≤ r.length := by
  unfold rowR
  rw [List.length_map]
  exact List.length_filter_le _ _
theorem allR_len : ∀ l : List Body, (allR l).length ≤ l.length * l.length
  | [] => by simp [allR]
  | a :: r => by
    have h1 := rowR_len a r
    have h2 := allR_len r
    have h3 : (r.length + 1) * (r.length + 1) = r.length * r.length + 2 * r.length + 1 := by rw [Nat.add_mul, Nat.mul_add]; omega
    simp only [allR, List.length_append, List.length_cons, h3]
    omega
theorem rowR_yes {a b : Body} {r : List Body} (h : touchI a b = true) : rowR a (b :: r) = conR a b :: rowR a r := by
  unfold rowR
  rw [List.filter_cons, if_pos h, List.map_cons]
theorem rowR_no {a b : Body} {r : List Body} (h : touchI a b = false) : rowR a (b :: r) = rowR a r := by
  unfold rowR
  rw [List.filter_cons, if_neg (by simp [h])]
theorem refOf_arr (a b : Body) (w : World) (ha : Placed a) (hb : Placed b) (hk : a.key < b.key) :
    Calls Tryz.prog 36 #[.agg a.arr, .agg b.arr] w fun e w' => e = .returned (.tuple #[.agg (conR a b).arr, .bool (touchI a b)]) ∧ Below w.heap.size w w' :=
  refOf_any a.key a.radius a.ax a.ay a.inv a.bounce a.px a.py a.vx a.vy b.key b.radius b.ax b.ay b.inv b.bounce b.px b.py b.vx b.vy w ha hb hk
set_option maxRecDepth 100000 in
set_option maxHeartbeats 4000000 in
theorem refAll_any (v : Value) (l : List Body) (w : World) (hl : Reads bodyE w v l) (hn : l.length ≤ 4096) (hs : Asc l) (hp : ∀ b ∈ l, Placed b) :
    Calls Tryz.prog 20 #[v] w fun e w' => ∃ v', e = .returned v' ∧ Own conE 100 w' w.heap.size v' (allR l) ∧ Below w.heap.size w w' := by
  obtain ⟨A, c, b1, o1, rfl, hA, hx⟩ := hl.bodies
  obtain ⟨N, hN⟩ : ∃ N, N = l.length := ⟨_, rfl⟩
  rw [← hN]
  have hAL : (allR l).length ≤ 16777216 := Nat.le_trans (allR_len l) (by have := Nat.mul_le_mul hn hn; omega)
  have hA := Lib.hid hA
  have hx := Lib.hid hx
  have HN := Lib.hid hN
  have hN4 : N ≤ 4096 := by omega
  have HS := Lib.hid hs
  have HP := Lib.hid hp
  have HAL := Lib.hid hAL
  clear hl hs hp hAL hN hn
  go_enter Tryz.func20, Tryz.ntmps20
  go_wp2
  go_loopw [3, 4] (fun u i wr => ∃ (k : Nat) (acc : List Con), k ≤ N ∧ i = .int .i64 k ∧ Own conE 100 wr w.heap.size u acc ∧ acc ++ allR (l.drop k) = allR l ∧ Below w.heap.size w wr) (fun _ i _ => N - (intOf i).toNat)
  case atStart => exact ⟨0, [], by omega, rfl, Own.nil _ _ _ _, by simp, Below.refl _ _⟩
  case round =>
    obtain ⟨i, acc, hi, rfl, hown, hacc, hbel⟩ := hrel
    have HO := Lib.hid hown
    have HACC := Lib.hid hacc
    have HB := Lib.hid hbel
    clear hown hacc hbel
    by_cases hlt : i < N
    · have hil : i < l.length := by rw [← HN.out]; exact hlt
      go_wp2
      go_loopw [3, 5] (fun u j wr => ∃ (k : Nat) (acc : List Con), k ≤ N ∧ i < k ∧ j = .int .i64 k ∧ Own conE 100 wr w.heap.size u acc ∧ acc ++ (rowR l[i] (l.drop k) ++ allR (l.drop (i + 1))) = allR l ∧ Below w.heap.size w wr) (fun _ j _ => N - (intOf j).toNat)
      case atStart =>
        refine ⟨i + 1, acc, by omega, by omega, by go_num, HO.out, ?_, HB.out⟩
        have := HACC.out
        rw [List.drop_eq_getElem_cons hil] at this
        exact this
      case round =>
        clear HO HACC HB
        obtain ⟨k, acc, hk, hik, rfl, hown, hacc, hbel⟩ := hrel
        by_cases hkN : k < N
        · have hkl : k < l.length := by rw [← HN.out]; exact hkN
          have hlen : acc.length ≤ 16777216 := by
            have h1 := congrArg List.length hacc
            rw [List.length_append] at h1
            have := HAL.out
            omega
          rw [List.drop_eq_getElem_cons hkl] at hacc
          obtain ⟨eA, zA⟩ := hA.out (by omega)
          have ix := fun w => idx_body (c := c) eA hil w
          have ix2 := fun w => idx_body (c := c) eA hkl w
          rw [← HN.out] at ix ix2
          clear eA
          have hk1 : l[i].key < l[k].key := List.pairwise_iff_getElem.1 HS.out i k hil hkl hik
          have hp1 := HP.out l[i] (List.getElem_mem hil)
          have hp2 := HP.out l[k] (List.getElem_mem hkl)
          obtain ⟨p0, p1, p2, p3, p4, p5, p6, p7, p8, p9⟩ := (hx.out i hil).below (hbel.mono (Nat.le_refl _))
          obtain ⟨q0, q1, q2, q3, q4, q5, q6, q7, q8, q9⟩ := (hx.out k hkl).below (hbel.mono (Nat.le_refl _))
          have zA' : b1 < wr.heap.size := Nat.lt_of_lt_of_le zA hbel.size
          have hzw := hbel.size
          generalize l[i] = x at *
          generalize l[k] = y at *
          obtain ⟨xk, xr, xax, xay, xi, xbo, xpx, xpy, xvx, xvy⟩ := x
          obtain ⟨yk, yr, yax, yay, yi, ybo, ypx, ypy, yvx, yvy⟩ := y
          have HO := Lib.hid hown
          have HACC := Lib.hid hacc
          have HB := Lib.hid hbel
          clear hown hacc hbel
          obtain ⟨cc, hcc⟩ : ∃ cc, cc = conR ⟨xk, xr, xax, xay, xi, xbo, xpx, xpy, xvx, xvy⟩ ⟨yk, yr, yax, yay, yi, ybo, ypx, ypy, yvx, yvy⟩ := ⟨_, rfl⟩
          obtain ⟨tt, htt⟩ : ∃ tt, tt = touchI ⟨xk, xr, xax, xay, xi, xbo, xpx, xpy, xvx, xvy⟩ ⟨yk, yr, yax, yay, yi, ybo, ypx, ypy, yvx, yvy⟩ := ⟨_, rfl⟩
          have HC := fun W => refOf_any _ _ _ _ _ _ _ _ _ _ _ _ _ _ _ _ _ _ _ _ W hp1 hp2 hk1
          rw [← hcc, ← htt] at HC
          have HCC := Lib.hid hcc
          have HTT := Lib.hid htt
          have HK : ∀ W, Below wr.heap.size wr W → W.cell? ⟨b1, o1 + i * 10, none⟩ = some (.int .u32 xk) ∧ W.cell? ⟨b1, o1 + i * 10 + 1, none⟩ = some (.int .i32 xr) ∧ W.cell? ⟨b1, o1 + i * 10 + 2, none⟩ = some (.int .i32 xax) ∧ W.cell? ⟨b1, o1 + i * 10 + 3, none⟩ = some (.int .i32 xay) ∧ W.cell? ⟨b1, o1 + i * 10 + 4, none⟩ = some (.int .i32 xi) ∧ W.cell? ⟨b1, o1 + i * 10 + 5, none⟩ = some (.int .i32 xbo) ∧ W.cell? ⟨b1, o1 + i * 10 + 6, none⟩ = some (.int .i32 xpx) ∧ W.cell? ⟨b1, o1 + i * 10 + 7, none⟩ = some (.int .i32 xpy) ∧ W.cell? ⟨b1, o1 + i * 10 + 8, none⟩ = some (.int .i32 xvx) ∧ W.cell? ⟨b1, o1 + i * 10 + 9, none⟩ = some (.int .i32 xvy) ∧ W.cell? ⟨b1, o1 + k * 10, none⟩ = some (.int .u32 yk) ∧ W.cell? ⟨b1, o1 + k * 10 + 1, none⟩ = some (.int .i32 yr) ∧ W.cell? ⟨b1, o1 + k * 10 + 2, none⟩ = some (.int .i32 yax) ∧ W.cell? ⟨b1, o1 + k * 10 + 3, none⟩ = some (.int .i32 yay) ∧ W.cell? ⟨b1, o1 + k * 10 + 4, none⟩ = some (.int .i32 yi) ∧ W.cell? ⟨b1, o1 + k * 10 + 5, none⟩ = some (.int .i32 ybo) ∧ W.cell? ⟨b1, o1 + k * 10 + 6, none⟩ = some (.int .i32 ypx) ∧ W.cell? ⟨b1, o1 + k * 10 + 7, none⟩ = some (.int .i32 ypy) ∧ W.cell? ⟨b1, o1 + k * 10 + 8, none⟩ = some (.int .i32 yvx) ∧ W.cell? ⟨b1, o1 + k * 10 + 9, none⟩ = some (.int .i32 yvy) ∧ Below wr.heap.size wr W := fun W hb => ⟨(keepB hb b1 zA' _).trans p0, (keepB hb b1 zA' _).trans p1, (keepB hb b1 zA' _).trans p2, (keepB hb b1 zA' _).trans p3, (keepB hb b1 zA' _).trans p4, (keepB hb b1 zA' _).trans p5, (keepB hb b1 zA' _).trans p6, (keepB hb b1 zA' _).trans p7, (keepB hb b1 zA' _).trans p8, (keepB hb b1 zA' _).trans p9, (keepB hb b1 zA' _).trans q0, (keepB hb b1 zA' _).trans q1, (keepB hb b1 zA' _).trans q2, (keepB hb b1 zA' _).trans q3, (keepB hb b1 zA' _).trans q4, (keepB hb b1 zA' _).trans q5, (keepB hb b1 zA' _).trans q6, (keepB hb b1 zA' _).trans q7, (keepB hb b1 zA' _).trans q8, (keepB hb b1 zA' _).trans q9, hb⟩
          have HK := Lib.hid HK
          have HC := Lib.hid HC
          clear p0 p1 p2 p3 p4 p5 p6 p7 p8 p9 q0 q1 q2 q3 q4 q5 q6 q7 q8 q9 hp1 hp2 hk1 hcc htt
          go_upto_region 8 with fail
          go_cut [6, 7] (fun x f wx => ∃ X, x = .pointer (some ⟨X, 0, none⟩) ∧ f = .bool tt ∧ CellsAt wx X cc.arr 100 ∧ Below wr.heap.size wr wx)
          case first =>
            go_region_held3 (fun w' : World => w'.cell? ⟨b1, o1 + i * 10, none⟩ = some (.int .u32 xk) ∧ w'.cell? ⟨b1, o1 + i * 10 + 1, none⟩ = some (.int .i32 xr) ∧ w'.cell? ⟨b1, o1 + i * 10 + 2, none⟩ = some (.int .i32 xax) ∧ w'.cell? ⟨b1, o1 + i * 10 + 3, none⟩ = some (.int .i32 xay) ∧ w'.cell? ⟨b1, o1 + i * 10 + 4, none⟩ = some (.int .i32 xi) ∧ w'.cell? ⟨b1, o1 + i * 10 + 5, none⟩ = some (.int .i32 xbo) ∧ w'.cell? ⟨b1, o1 + i * 10 + 6, none⟩ = some (.int .i32 xpx) ∧ w'.cell? ⟨b1, o1 + i * 10 + 7, none⟩ = some (.int .i32 xpy) ∧ w'.cell? ⟨b1, o1 + i * 10 + 8, none⟩ = some (.int .i32 xvx) ∧ w'.cell? ⟨b1, o1 + i * 10 + 9, none⟩ = some (.int .i32 xvy) ∧ w'.cell? ⟨b1, o1 + k * 10, none⟩ = some (.int .u32 yk) ∧ w'.cell? ⟨b1, o1 + k * 10 + 1, none⟩ = some (.int .i32 yr) ∧ w'.cell? ⟨b1, o1 + k * 10 + 2, none⟩ = some (.int .i32 yax) ∧ w'.cell? ⟨b1, o1 + k * 10 + 3, none⟩ = some (.int .i32 yay) ∧ w'.cell? ⟨b1, o1 + k * 10 + 4, none⟩ = some (.int .i32 yi) ∧ w'.cell? ⟨b1, o1 + k * 10 + 5, none⟩ = some (.int .i32 ybo) ∧ w'.cell? ⟨b1, o1 + k * 10 + 6, none⟩ = some (.int .i32 ypx) ∧ w'.cell? ⟨b1, o1 + k * 10 + 7, none⟩ = some (.int .i32 ypy) ∧ w'.cell? ⟨b1, o1 + k * 10 + 8, none⟩ = some (.int .i32 yvx) ∧ w'.cell? ⟨b1, o1 + k * 10 + 9, none⟩ = some (.int .i32 yvy) ∧ Below wr.heap.size wr w') (exact HK.out _ (by repeat (first | with_reducible exact Below.refl _ _ | with_reducible refine bel_alloc ?_ _ | with_reducible refine bel_drewN ?_ _ | with_reducible refine bel_drew ?_ | with_reducible refine bel_grow ?_ _ | with_reducible refine bel_set ?_ (by first | omega | (simp; done) | (simp; omega)) _)))
              (first
                | (go_at_call 36; refine (HC.out _).mono ?_; rintro e w1 ⟨rfl, hb1⟩; obtain ⟨g1, rfl⟩ := Grow.of hb1; clear hb1))
            all_goals
              go_wp2
              go_meet
              refine ⟨_, rfl, rfl, ?_, (by repeat (first | with_reducible exact Below.refl _ _ | with_reducible refine bel_alloc ?_ _ | with_reducible refine bel_drewN ?_ _ | with_reducible refine bel_drew ?_ | with_reducible refine bel_grow ?_ _ | with_reducible refine bel_set ?_ (by first | omega | (simp; done) | (simp; omega)) _))⟩
              first
                | with_reducible exact CellsAt.new _ _ _
                | exact (((((((by repeat (first | with_reducible exact CellsAt.newAt (by first | rfl | (simp; done) | omega) rfl | with_reducible refine CellsAt.alloc ?_ _ | with_reducible refine CellsAt.drewN ?_ _ | with_reducible refine CellsAt.drew ?_ | with_reducible refine CellsAt.grow ?_ _ | with_reducible refine CellsAt.far ?_ (by first | omega | (simp; done) | (simp; omega)) _)) : CellsAt g1.world wr.heap.size #[.int .u32 0, .int .u32 0, .int .i32 0, .int .i32 0, .int .i32 0] 100).set 0 _).set 1 _).set 2 _).set 3 _).set 4 _).eq (by simp)
          case rest =>
          obtain ⟨P, rfl, rfl, hXc, hbx⟩ := hcut
          clear HC HK ix ix2
          have lP := hXc.lt
          have kk1 : wc.cell? ⟨P, 0, none⟩ = some (.int .u32 cc.lo) := hXc.at 0 rfl
          have kk2 : wc.cell? ⟨P, 1, none⟩ = some (.int .u32 cc.hi) := hXc.at 1 rfl
          have kk3 : wc.cell? ⟨P, 2, none⟩ = some (.int .i32 cc.nx) := hXc.at 2 rfl
          have kk4 : wc.cell? ⟨P, 3, none⟩ = some (.int .i32 cc.ny) := hXc.at 3 rfl
          have kk5 : wc.cell? ⟨P, 4, none⟩ = some (.int .i32 cc.dep) := hXc.at 4 rfl
          have hb2 : Below w.heap.size w wc := HB.out.trans (hbx.mono hzw)
          have HO2 := Lib.hid (HO.out.below hbx)
          have HB2 := Lib.hid hb2
          have hz2 := hb2.size
          clear hXc hbx hb2
          cases tt
          · go_wp2
            go_roundw
            case rel =>
              refine ⟨k + 1, acc, by omega, by omega, by go_num, HO2.out, ?_, HB2.out⟩
              have := HACC.out
              rw [rowR_no HTT.out.symm] at this
              exact this
            case measure => simp [intOf]; omega
          · go_wp2_with (at_builtin; refine own_append conE w.heap.size rfl (.tmp 35) (.tmp 37) 59 100 _ 20 rfl Tryz.underlying59 conInfo rfl (by decide) _ acc cc _ (by rfl) rfl (by first | rfl | simp [go_sem]) HO2.out HB2.out (by omega) (by omega) ?_; intro v1 w2 own1 bel1 gr1 sz1)
            go_roundw
            case rel =>
              refine ⟨k + 1, acc ++ [cc], by omega, by omega, by go_num, own1, ?_, bel1⟩
              have := HACC.out
              rw [rowR_yes HTT.out.symm, ← HCC.out] at this
              simpa using this
            case measure => simp [intOf]; omega
        · have hkN' : k = l.length := by rw [← HN.out]; omega
          rw [hkN', List.drop_length] at hacc
          have HO := Lib.hid hown
          have HACC := Lib.hid hacc
          have HB := Lib.hid hbel
          clear hown hacc hbel hkN'
          go_wp2
          go_roundw
          case rel => exact ⟨i + 1, acc, by omega, by go_num, HO.out, by have := HACC.out; simpa [rowR] using this, HB.out⟩
          case measure => simp [intOf]; omega
    · have hiN : i = l.length := by rw [← HN.out]; omega
      have HI := Lib.hid hiN
      clear hiN
      go_wp2
      go_ret
      refine ⟨_, rfl, ?_, HB.out⟩
      have := HACC.out
      rw [HI.out, List.drop_length] at this
      rw [← this]
      simpa [allR] using HO.out
end Go.Proofs.YtnhaiecbjipodaaGreatDoor
/- The references' solver, without its numbers: nothing panics. The parts. -/
namespace Go.Proofs.YtnhaiecbjipodaaGreatDoor
open Go.RowKit
attribute [local go_sem] Grow.cell Grow.froz Grow.lt lt_s1 lt_s2 lt_s3 lt_s4 lt_s5
def I64 (r : Int) : Prop := -9223372036854775808 ≤ r ∧ r ≤ 9223372036854775807
theorem I64.wrap (n : Int) : I64 (wrap64 n) := wrap64_bd n
theorem I64.zero : I64 0 := by unfold I64; omega
/-- What the solver asks of a body. -/
structure Lax (b : Body) : Prop where
  fit : b.Fit
  inv : 0 ≤ b.inv ∧ b.inv ≤ 1048576
set_option maxHeartbeats 1000000 in
theorem refFloor_lax (n d : Int) (w : World) (hd : d ≠ 0) :
    Calls Tryz.prog 118 #[.int .i64 n, .int .i64 d] w fun e w' => ∃ r, e = .returned (.int .i64 r) ∧ I64 r ∧ w' = w := by
  have hz : (d == 0) = false := by simpa using hd
  go_enter Tryz.func118, Tryz.ntmps118
  go_wp2
  all_goals
    go_ret
    exact ⟨_, rfl, I64.wrap _, rfl⟩
set_option maxHeartbeats 2000000 in
theorem refApproach_lax (cl ch nx ny dep ak ar aax aay ai abo apx apy avx avy bk br bax bay bi bbo bpx bpy bvx bvy : Int) (w : World) (hnx : I32 nx) (hny : I32 ny) (hdep : I32 dep) (hai : 0 ≤ ai ∧ ai ≤ 1048576) (habo : I32 abo) (havx : I32 avx) (havy : I32 avy) (hbi : 0 ≤ bi ∧ bi ≤ 1048576) (hbbo : I32 bbo) (hbvx : I32 bvx) (hbvy : I32 bvy) :
    Calls Tryz.prog 216 #[.agg #[.int .u32 cl, .int .u32 ch, .int .i32 nx, .int .i32 ny, .int .i32 dep], .agg #[.int .u32 ak, .int .i32 ar, .int .i32 aax, .int .i32 aay, .int .i32 ai, .int .i32 abo, .int .i32 apx, .int .i32 apy, .int .i32 avx, .int .i32 avy], .agg #[.int .u32 bk, .int .i32 br, .int .i32 bax, .int .i32 bay, .int .i32 bi, .int .i32 bbo, .int .i32 bpx, .int .i32 bpy, .int .i32 bvx, .int .i32 bvy]] w fun e w' => ∃ r, e = .returned (.int .i64 r) ∧ I64 r ∧ Below w.heap.size w w' := by
  obtain ⟨nx0, nx1⟩ := hnx
  obtain ⟨ny0, ny1⟩ := hny
  obtain ⟨dp0, dp1⟩ := hdep
  obtain ⟨ai0, ai1⟩ := hai
  obtain ⟨ab0, ab1⟩ := habo
  obtain ⟨ax0, ax1⟩ := havx
  obtain ⟨ay0, ay1⟩ := havy
  obtain ⟨bi0, bi1⟩ := hbi
  obtain ⟨bb0, bb1⟩ := hbbo
  obtain ⟨bx0, bx1⟩ := hbvx
  obtain ⟨by0, by1⟩ := hbvy
  go_enter Tryz.func216, Tryz.ntmps216
  go_wp2_with fail
  refine (refFloor_lax _ _ _ (by decide)).mono ?_
  rintro e w' ⟨r, rfl, hr, rfl⟩
  have HR := Lib.hid hr
  clear hr
  go_wp2_with fail
  go_ret
  exact ⟨_, rfl, HR.out, (by repeat (first | with_reducible exact Below.refl _ _ | with_reducible refine bel_alloc ?_ _ | with_reducible refine bel_drewN ?_ _ | with_reducible refine bel_drew ?_ | with_reducible refine bel_grow ?_ _ | with_reducible refine bel_set ?_ (by first | omega | (simp; done) | (simp; omega)) _))⟩
set_option maxHeartbeats 4000000 in
theorem refStrength_lax (cl ch nx ny dep ak ar aax aay ai abo apx apy avx avy bk br bax bay bi bbo bpx bpy bvx bvy : Int) (w : World) (hnx : I32 nx) (hny : I32 ny) (hdep : I32 dep) (hai : 0 ≤ ai ∧ ai ≤ 1048576) (habo : I32 abo) (havx : I32 avx) (havy : I32 avy) (hbi : 0 ≤ bi ∧ bi ≤ 1048576) (hbbo : I32 bbo) (hbvx : I32 bvx) (hbvy : I32 bvy) :
    Calls Tryz.prog 192 #[.agg #[.int .u32 cl, .int .u32 ch, .int .i32 nx, .int .i32 ny, .int .i32 dep], .agg #[.int .u32 ak, .int .i32 ar, .int .i32 aax, .int .i32 aay, .int .i32 ai, .int .i32 abo, .int .i32 apx, .int .i32 apy, .int .i32 avx, .int .i32 avy], .agg #[.int .u32 bk, .int .i32 br, .int .i32 bax, .int .i32 bay, .int .i32 bi, .int .i32 bbo, .int .i32 bpx, .int .i32 bpy, .int .i32 bvx, .int .i32 bvy]] w fun e w' => ∃ r, e = .returned (.int .i64 r) ∧ I64 r ∧ Below w.heap.size w w' := by
  have HAP := Lib.hid fun W => refApproach_lax cl ch nx ny dep ak ar aax aay ai abo apx apy avx avy bk br bax bay bi bbo bpx bpy bvx bvy W hnx hny hdep hai habo havx havy hbi hbbo hbvx hbvy
  obtain ⟨nx0, nx1⟩ := hnx
  obtain ⟨ny0, ny1⟩ := hny
  obtain ⟨dp0, dp1⟩ := hdep
  obtain ⟨ai0, ai1⟩ := hai
  obtain ⟨ab0, ab1⟩ := habo
  obtain ⟨ax0, ax1⟩ := havx
  obtain ⟨ay0, ay1⟩ := havy
  obtain ⟨bi0, bi1⟩ := hbi
  obtain ⟨bb0, bb1⟩ := hbbo
  obtain ⟨bx0, bx1⟩ := hbvx
  obtain ⟨by0, by1⟩ := hbvy
  by_cases hm : ai + bi = 0
  · have hmb : (ai + bi == 0) = true := by simpa using hm
    go_enter Tryz.func192, Tryz.ntmps192
    go_wp2_with fail
    refine (HAP.out _).mono ?_
    rintro e w1 ⟨r, rfl, hr, hb⟩
    obtain ⟨g1, rfl⟩ := Grow.of hb
    have HR := Lib.hid hr
    clear hr hb
    have zz1 : w.heap.size < g1.world.heap.size := Nat.lt_of_lt_of_le (by first | omega | (simp; done) | (simp; omega)) g1.le
    have zz2 : w.heap.size + 1 < g1.world.heap.size := Nat.lt_of_lt_of_le (by first | omega | (simp; done) | (simp; omega)) g1.le
    have zz3 : w.heap.size + 1 + 1 < g1.world.heap.size := Nat.lt_of_lt_of_le (by first | omega | (simp; done) | (simp; omega)) g1.le
    by_cases hge : 0 ≤ r
    all_goals
      go_wp2_with fail
      go_ret
      exact ⟨_, rfl, I64.zero, (by repeat (first | with_reducible exact Below.refl _ _ | with_reducible refine bel_alloc ?_ _ | with_reducible refine bel_drewN ?_ _ | with_reducible refine bel_drew ?_ | with_reducible refine bel_grow ?_ _ | with_reducible refine bel_set ?_ (by first | omega | (simp; done) | (simp; omega)) _))⟩
  · have hmb : (ai + bi == 0) = false := by simpa using hm
    go_enter Tryz.func192, Tryz.ntmps192
    go_wp2_with fail
    refine (HAP.out _).mono ?_
    rintro e w1 ⟨r, rfl, hr, hb⟩
    obtain ⟨g1, rfl⟩ := Grow.of hb
    have HR := Lib.hid hr
    clear hr hb
    have zz4 : w.heap.size < g1.world.heap.size := Nat.lt_of_lt_of_le (by first | omega | (simp; done) | (simp; omega)) g1.le
    have zz5 : w.heap.size + 1 < g1.world.heap.size := Nat.lt_of_lt_of_le (by first | omega | (simp; done) | (simp; omega)) g1.le
    have zz6 : w.heap.size + 1 + 1 < g1.world.heap.size := Nat.lt_of_lt_of_le (by first | omega | (simp; done) | (simp; omega)) g1.le
    by_cases hge : 0 ≤ r
    · go_wp2_with fail
      go_ret
      exact ⟨_, rfl, I64.zero, (by repeat (first | with_reducible exact Below.refl _ _ | with_reducible refine bel_alloc ?_ _ | with_reducible refine bel_drewN ?_ _ | with_reducible refine bel_drew ?_ | with_reducible refine bel_grow ?_ _ | with_reducible refine bel_set ?_ (by first | omega | (simp; done) | (simp; omega)) _))⟩
    · go_wp2_with fail
      refine (refFloor_lax _ _ _ hm).mono ?_
      rintro e w' ⟨q, rfl, hq, rfl⟩
      have HQ := Lib.hid hq
      clear hq
      go_wp2_with fail
      go_ret
      exact ⟨_, rfl, HQ.out, (by repeat (first | with_reducible exact Below.refl _ _ | with_reducible refine bel_alloc ?_ _ | with_reducible refine bel_drewN ?_ _ | with_reducible refine bel_drew ?_ | with_reducible refine bel_grow ?_ _ | with_reducible refine bel_set ?_ (by first | omega | (simp; done) | (simp; omega)) _))⟩
set_option maxHeartbeats 1000000 in
theorem refChangeX_lax (j i n : Int) (w : World) (hj : I64 j) (hi : I32 i) (hn : I32 n) :
    Calls Tryz.prog 193 #[.int .i64 j, .int .i32 i, .int .i32 n] w fun e w' => ∃ r, e = .returned (.int .i64 r) ∧ I64 r ∧ Below w.heap.size w w' := by
  obtain ⟨j0, j1⟩ := hj
  obtain ⟨i0, i1⟩ := hi
  obtain ⟨n0, n1⟩ := hn
  go_enter Tryz.func193, Tryz.ntmps193
  go_wp2_with fail
  refine (mulshift_lax j i _ j0 j1 (by omega) (by omega)).mono ?_
  rintro e w1 ⟨x, y, rfl, ⟨x0, x1⟩, hb⟩
  obtain ⟨g1, rfl⟩ := Grow.of hb
  clear hb
  go_wp2_with fail
  refine (mulshift_lax x n _ x0 x1 (by omega) (by omega)).mono ?_
  rintro e w1 ⟨x', y', rfl, hx', hb⟩
  obtain ⟨g2, rfl⟩ := Grow.of hb
  have HX := Lib.hid hx'
  clear hb hx'
  go_wp2_with fail
  go_ret
  exact ⟨_, rfl, HX.out, (by repeat (first | with_reducible exact Below.refl _ _ | with_reducible refine bel_alloc ?_ _ | with_reducible refine bel_drewN ?_ _ | with_reducible refine bel_drew ?_ | with_reducible refine bel_grow ?_ _ | with_reducible refine bel_set ?_ (by first | omega | (simp; done) | (simp; omega)) _))⟩
set_option maxHeartbeats 4000000 in
theorem refAmount_lax (cl ch nx ny dep ak ar aax aay ai abo apx apy avx avy bk br bax bay bi bbo bpx bpy bvx bvy : Int) (w : World) (hnx : I32 nx) (hny : I32 ny) (hdep : I32 dep) (hai : 0 ≤ ai ∧ ai ≤ 1048576) (habo : I32 abo) (havx : I32 avx) (havy : I32 avy) (hbi : 0 ≤ bi ∧ bi ≤ 1048576) (hbbo : I32 bbo) (hbvx : I32 bvx) (hbvy : I32 bvy) :
    Calls Tryz.prog 165 #[.agg #[.int .u32 cl, .int .u32 ch, .int .i32 nx, .int .i32 ny, .int .i32 dep], .agg #[.int .u32 ak, .int .i32 ar, .int .i32 aax, .int .i32 aay, .int .i32 ai, .int .i32 abo, .int .i32 apx, .int .i32 apy, .int .i32 avx, .int .i32 avy], .agg #[.int .u32 bk, .int .i32 br, .int .i32 bax, .int .i32 bay, .int .i32 bi, .int .i32 bbo, .int .i32 bpx, .int .i32 bpy, .int .i32 bvx, .int .i32 bvy]] w fun e w' => ∃ r, e = .returned (.int .i64 r) ∧ I64 r ∧ (¬ r = 0 → ¬ ai + bi = 0) ∧ Below w.heap.size w w' := by
  obtain ⟨nx0, nx1⟩ := hnx
  obtain ⟨ny0, ny1⟩ := hny
  obtain ⟨dp0, dp1⟩ := hdep
  obtain ⟨ai0, ai1⟩ := hai
  obtain ⟨ab0, ab1⟩ := habo
  obtain ⟨ax0, ax1⟩ := havx
  obtain ⟨ay0, ay1⟩ := havy
  obtain ⟨bi0, bi1⟩ := hbi
  obtain ⟨bb0, bb1⟩ := hbbo
  obtain ⟨bx0, bx1⟩ := hbvx
  obtain ⟨by0, by1⟩ := hbvy
  by_cases hm : ai + bi = 0
  · have hmb : (ai + bi == 0) = true := by simpa using hm
    by_cases hd : dep ≤ 1024
    all_goals
      go_enter Tryz.func165, Tryz.ntmps165
      go_wp2_with fail
      go_ret
      exact ⟨0, rfl, I64.zero, (by first | rfl | exact fun h => absurd rfl h), (by repeat (first | with_reducible exact Below.refl _ _ | with_reducible refine bel_alloc ?_ _ | with_reducible refine bel_drewN ?_ _ | with_reducible refine bel_drew ?_ | with_reducible refine bel_grow ?_ _ | with_reducible refine bel_set ?_ (by first | omega | (simp; done) | (simp; omega)) _))⟩
  · have hmb : (ai + bi == 0) = false := by simpa using hm
    by_cases hd : dep ≤ 1024
    · go_enter Tryz.func165, Tryz.ntmps165
      go_wp2_with fail
      go_ret
      exact ⟨0, rfl, I64.zero, (by first | rfl | exact fun h => absurd rfl h), (by repeat (first | with_reducible exact Below.refl _ _ | with_reducible refine bel_alloc ?_ _ | with_reducible refine bel_drewN ?_ _ | with_reducible refine bel_drew ?_ | with_reducible refine bel_grow ?_ _ | with_reducible refine bel_set ?_ (by first | omega | (simp; done) | (simp; omega)) _))⟩
    · go_enter Tryz.func165, Tryz.ntmps165
      go_wp2_with fail
      refine (refFloor_lax _ _ _ (by decide)).mono ?_
      rintro e w' ⟨q, rfl, hq, rfl⟩
      have HQ := Lib.hid hq
      clear hq
      go_wp2_with fail
      go_ret
      exact ⟨_, rfl, HQ.out, fun _ => hm, (by repeat (first | with_reducible exact Below.refl _ _ | with_reducible refine bel_alloc ?_ _ | with_reducible refine bel_drewN ?_ _ | with_reducible refine bel_drew ?_ | with_reducible refine bel_grow ?_ _ | with_reducible refine bel_set ?_ (by first | omega | (simp; done) | (simp; omega)) _))⟩
set_option maxHeartbeats 4000000 in
theorem refShare_lax (cl ch nx ny dep ak ar aax aay ai abo apx apy avx avy bk br bax bay bi bbo bpx bpy bvx bvy i : Int) (w : World) (hnx : I32 nx) (hny : I32 ny) (hdep : I32 dep) (hai : 0 ≤ ai ∧ ai ≤ 1048576) (habo : I32 abo) (havx : I32 avx) (havy : I32 avy) (hbi : 0 ≤ bi ∧ bi ≤ 1048576) (hbbo : I32 bbo) (hbvx : I32 bvx) (hbvy : I32 bvy) (hi : I32 i) :
    Calls Tryz.prog 145 #[.agg #[.int .u32 cl, .int .u32 ch, .int .i32 nx, .int .i32 ny, .int .i32 dep], .agg #[.int .u32 ak, .int .i32 ar, .int .i32 aax, .int .i32 aay, .int .i32 ai, .int .i32 abo, .int .i32 apx, .int .i32 apy, .int .i32 avx, .int .i32 avy], .agg #[.int .u32 bk, .int .i32 br, .int .i32 bax, .int .i32 bay, .int .i32 bi, .int .i32 bbo, .int .i32 bpx, .int .i32 bpy, .int .i32 bvx, .int .i32 bvy], .int .i32 i] w fun e w' => ∃ r, e = .returned (.int .i64 r) ∧ I64 r ∧ Below w.heap.size w w' := by
  have HAM := Lib.hid fun W => refAmount_lax cl ch nx ny dep ak ar aax aay ai abo apx apy avx avy bk br bax bay bi bbo bpx bpy bvx bvy W hnx hny hdep hai habo havx havy hbi hbbo hbvx hbvy
  obtain ⟨nx0, nx1⟩ := hnx
  obtain ⟨ny0, ny1⟩ := hny
  obtain ⟨dp0, dp1⟩ := hdep
  obtain ⟨ai0, ai1⟩ := hai
  obtain ⟨ab0, ab1⟩ := habo
  obtain ⟨ax0, ax1⟩ := havx
  obtain ⟨ay0, ay1⟩ := havy
  obtain ⟨bi0, bi1⟩ := hbi
  obtain ⟨bb0, bb1⟩ := hbbo
  obtain ⟨bx0, bx1⟩ := hbvx
  obtain ⟨by0, by1⟩ := hbvy
  obtain ⟨i0, i1⟩ := hi
  go_enter Tryz.func145, Tryz.ntmps145
  go_wp2_with fail
  refine (HAM.out _).mono ?_
  rintro e w1 ⟨r, rfl, hr, hz, hb⟩
  obtain ⟨g1, rfl⟩ := Grow.of hb
  have HR := Lib.hid hr
  have HZ := Lib.hid hz
  clear hr hb hz
  have zz7 : w.heap.size < g1.world.heap.size := Nat.lt_of_lt_of_le (by first | omega | (simp; done) | (simp; omega)) g1.le
  have zz8 : w.heap.size + 1 < g1.world.heap.size := Nat.lt_of_lt_of_le (by first | omega | (simp; done) | (simp; omega)) g1.le
  have zz9 : w.heap.size + 1 + 1 < g1.world.heap.size := Nat.lt_of_lt_of_le (by first | omega | (simp; done) | (simp; omega)) g1.le
  by_cases hge : r = 0
  · have hrb : (r == 0) = true := by simpa using hge
    go_wp2_with fail
    go_ret
    exact ⟨_, rfl, I64.zero, (by repeat (first | with_reducible exact Below.refl _ _ | with_reducible refine bel_alloc ?_ _ | with_reducible refine bel_drewN ?_ _ | with_reducible refine bel_drew ?_ | with_reducible refine bel_grow ?_ _ | with_reducible refine bel_set ?_ (by first | omega | (simp; done) | (simp; omega)) _))⟩
  · have hrb : (r == 0) = false := by simpa using hge
    have hm := HZ.out hge
    go_wp2_with fail
    refine (refFloor_lax _ _ _ hm).mono ?_
    rintro e w' ⟨q, rfl, hq, rfl⟩
    have HQ := Lib.hid hq
    clear hq
    go_wp2_with fail
    go_ret
    exact ⟨_, rfl, HQ.out, (by repeat (first | with_reducible exact Below.refl _ _ | with_reducible refine bel_alloc ?_ _ | with_reducible refine bel_drewN ?_ _ | with_reducible refine bel_drew ?_ | with_reducible refine bel_grow ?_ _ | with_reducible refine bel_set ?_ (by first | omega | (simp; done) | (simp; omega)) _))⟩
end Go.Proofs.YtnhaiecbjipodaaGreatDoor
/- The references' sums, without their numbers: nothing panics. -/
namespace Go.Proofs.YtnhaiecbjipodaaGreatDoor
open Go.RowKit
attribute [local go_sem] Grow.cell Grow.froz Grow.lt lt_s1 lt_s2 lt_s3 lt_s4 lt_s5
theorem findK_at : ∀ {l : List Body} {key : Int} {i : Nat}, (∃ b ∈ l, b.key = key) → ∃ (a : Nat) (ha : a < l.length), findK l key i = ((i + a : Nat) : Int) ∧ l[a].key = key
  | [], _, _, h => by obtain ⟨b, hb, _⟩ := h; cases hb
  | x :: r, key, i, h => by
    unfold findK
    by_cases hx : x.key = key
    · exact ⟨0, by simp, by rw [if_pos hx]; rfl, hx⟩
    · obtain ⟨b, hb, he⟩ := h
      have hb' : b ∈ r := by
        rcases List.mem_cons.1 hb with h1 | h1
        · exact absurd (h1 ▸ he) hx
        · exact h1
      obtain ⟨a, ha, h1, h2⟩ := findK_at (i := i + 1) ⟨b, hb', he⟩
      exact ⟨a + 1, by simpa using ha, by rw [if_neg hx, h1]; congr 1; omega, by simpa using h2⟩
theorem find_at {l : List Body} {key : Int} (h : ∃ (j : Nat) (hj : j < l.length), key = l[j].key) :
    ∃ (a : Nat) (ha : a < l.length), l[a].key = key ∧ ∀ v W, Reads bodyE W v l → Calls Tryz.prog 70 #[v, .int .u32 key] W fun e w' => e = .returned (.int .i64 (a : Int)) ∧ w' = W := by
  obtain ⟨j, hj, rfl⟩ := h
  obtain ⟨a, ha, h1, h2⟩ := findK_at (i := 0) ⟨l[j], List.getElem_mem hj, rfl⟩
  refine ⟨a, ha, h2, fun v W hl => (find_any v l _ W hl).mono ?_⟩
  rintro e w' ⟨rfl, rfl⟩
  rw [h1, Nat.zero_add]
  exact ⟨rfl, rfl⟩
theorem strength_arr (c : Con) (a b : Body) (w : World) (hc : c.Fit) (ha : Lax a) (hb : Lax b) : Calls Tryz.prog 192 #[.agg c.arr, .agg a.arr, .agg b.arr] w fun e w' => ∃ r, e = .returned (.int .i64 r) ∧ I64 r ∧ Below w.heap.size w w' :=
  refStrength_lax _ _ _ _ _ _ _ _ _ _ _ _ _ _ _ _ _ _ _ _ _ _ _ _ _ w hc.nx hc.ny hc.dep ha.inv ha.fit.bounce ha.fit.vx ha.fit.vy hb.inv hb.fit.bounce hb.fit.vx hb.fit.vy
set_option maxRecDepth 100000 in
set_option maxHeartbeats 4000000 in
theorem refSum_lax (v : Value) (l : List Body) (vc : Value) (cs : List Con) (i : Nat) (s : Bool) (w : World) (hl : Reads bodyE w v l) (hr : Reads conE w vc cs) (hi : i < l.length) (hn : l.length ≤ 4096) (hL : ∀ b ∈ l, Lax b) (hC : ConsOk l cs) :
    Calls Tryz.prog 164 #[v, vc, .int .i64 (i : Int), .bool s] w fun e w' => ∃ r, e = .returned (.int .i64 r) ∧ I64 r ∧ Below w.heap.size w w' := by
  have HLV := Lib.hid hl
  obtain ⟨A, c, b1, o1, rfl, hA, hx⟩ := hl.bodies
  obtain ⟨B, d, b2, o2, rfl, hB, hy⟩ := hr.form
  obtain ⟨eA, zA⟩ := hA (by omega)
  obtain ⟨M, hM⟩ : ∃ M, M = cs.length := ⟨_, rfl⟩
  have hM1 : M ≤ 100000000000 := by rw [hM]; exact hC.len
  rw [← hM]
  have HM := Lib.hid hM
  have HX := Lib.hid hx
  have HB := Lib.hid hB
  have HY := Lib.hid hy
  have HL := Lib.hid hL
  have HC := Lib.hid hC
  have EA := Lib.hid eA
  obtain ⟨N, hN⟩ : ∃ N, N = l.length := ⟨_, rfl⟩
  rw [← hN]
  have HN := Lib.hid hN
  have hiN : i < N := by omega
  have hN4 : N ≤ 4096 := by omega
  have ixi : ∀ W, (Instr.indexAt 38 (.slice A N c) (.int .i64 (i : Int))).run Tryz.prog W = .ok (.pointer (some ⟨b1, o1 + i * 10, none⟩)) W := fun W => idx_body eA hiN W
  have HIX := Lib.hid ixi
  clear hl hr hx hA hB hy hL hC eA hM hN hn ixi
  go_enter Tryz.func164, Tryz.ntmps164
  go_wp2
  go_loopw [9, 10] (fun n k wr => ∃ (k' : Nat) (r : Int), k' ≤ M ∧ k = .int .i64 k' ∧ n = .int .i64 r ∧ I64 r ∧ Below w.heap.size w wr) (fun _ k _ => M - (intOf k).toNat)
  case atStart => exact ⟨0, 0, by omega, rfl, rfl, I64.zero, Below.refl _ _⟩
  case round =>
    obtain ⟨k, r, hk, rfl, rfl, hr, hbel⟩ := hrel
    have HR := Lib.hid hr
    have HBEL := Lib.hid hbel
    have hzw := hbel.size
    clear hr hbel
    by_cases hlt : k < M
    · have hkc : k < cs.length := by rw [← HM.out]; exact hlt
      obtain ⟨eB, zB⟩ := HB.out (by omega)
      have ixk := fun W => idx_con (c := d) eB hkc W
      rw [← HM.out] at ixk
      have hcell := fun j u h => (keepB HBEL.out b2 zB _).trans (HY.out k hkc j u h)
      obtain ⟨hcf, ⟨a1, a2, ha1, ha2, hlo, hhi⟩⟩ := HC.out.ok cs[k] (List.getElem_mem hkc)
      have hil : i < l.length := by rw [← HN.out]; exact hiN
      obtain ⟨p0, p1, p2, p3, p4, p5, p6, p7, p8, p9⟩ := (HX.out i hil).below HBEL.out
      have hLi := HL.out l[i] (List.getElem_mem hil)
      have zA' : b1 < wr.heap.size := Nat.lt_of_lt_of_le zA HBEL.out.size
      have zB' : b2 < wr.heap.size := Nat.lt_of_lt_of_le zB HBEL.out.size
      obtain ⟨f1, hf1, hk1, F1⟩ := find_at (l := l) (key := cs[k].lo) ⟨a1, ha1, hlo⟩
      obtain ⟨f2, hf2, hk2, F2⟩ := find_at (l := l) (key := cs[k].hi) ⟨a2, ha2, hhi⟩
      rw [← HN.out] at hf1 hf2
      have ix1 : ∀ W, (Instr.indexAt 38 (.slice A N c) (.int .i64 (f1 : Int))).run Tryz.prog W = .ok (.pointer (some ⟨b1, o1 + f1 * 10, none⟩)) W := fun W => idx_body EA.out hf1 W
      have ix2 : ∀ W, (Instr.indexAt 38 (.slice A N c) (.int .i64 (f2 : Int))).run Tryz.prog W = .ok (.pointer (some ⟨b1, o1 + f2 * 10, none⟩)) W := fun W => idx_body EA.out hf2 W
      have ixi := HIX.out
      have hf1' : f1 < l.length := by rw [← HN.out]; exact hf1
      have hf2' : f2 < l.length := by rw [← HN.out]; exact hf2
      obtain ⟨q0, q1, q2, q3, q4, q5, q6, q7, q8, q9⟩ := (HX.out f1 hf1').below HBEL.out
      obtain ⟨r0, r1, r2, r3, r4, r5, r6, r7, r8, r9⟩ := (HX.out f2 hf2').below HBEL.out
      have hLf1 := HL.out l[f1] (List.getElem_mem hf1')
      have hLf2 := HL.out l[f2] (List.getElem_mem hf2')
      have c0 : wr.cell? ⟨b2, o2 + k * 5, none⟩ = some (.int .u32 cs[k].lo) := hcell 0 _ rfl
      have c1 : wr.cell? ⟨b2, o2 + k * 5 + 1, none⟩ = some (.int .u32 cs[k].hi) := hcell 1 _ rfl
      have c2 : wr.cell? ⟨b2, o2 + k * 5 + 2, none⟩ = some (.int .i32 cs[k].nx) := hcell 2 _ rfl
      have c3 : wr.cell? ⟨b2, o2 + k * 5 + 3, none⟩ = some (.int .i32 cs[k].ny) := hcell 3 _ rfl
      have c4 : wr.cell? ⟨b2, o2 + k * 5 + 4, none⟩ = some (.int .i32 cs[k].dep) := hcell 4 _ rfl
      have F1 := Lib.hid fun W (hb : Below wr.heap.size wr W) => F1 _ W (HLV.out.below (HBEL.out.trans (hb.mono hzw)))
      have F2 := Lib.hid fun W (hb : Below wr.heap.size wr W) => F2 _ W (HLV.out.below (HBEL.out.trans (hb.mono hzw)))
      rw [← HN.out] at F1 F2
      clear hcell hlo hhi eB hk1 hk2
      generalize cs[k] = C at *
      generalize l[i] = I at *
      generalize l[f1] = P at *
      generalize l[f2] = Q at *
      clear hf1' hf2' hf1 hf2 hil ha1 ha2
      have HST := Lib.hid fun W => strength_arr C P Q W hcf hLf1 hLf2
      have HCX := Lib.hid fun j W (hj : I64 j) => refChangeX_lax j I.inv C.nx W hj ⟨by have := hLi.inv; omega, by have := hLi.inv; omega⟩ hcf.nx
      have HCY := Lib.hid fun j W (hj : I64 j) => refChangeX_lax j I.inv C.ny W hj ⟨by have := hLi.inv; omega, by have := hLi.inv; omega⟩ hcf.ny
      clear hcf hLi hLf1 hLf2
      cases e1 : (C.lo != I.key)
      · have e3 : (C.lo == I.key) = true := by simpa using e1
        cases s
        all_goals
          go_wp2_with fail
          refine wp_region_grow (by kernel_rfl) (by kernel_rfl) ?_
          repeat (first | go_big_quiet_skip | (go_big_quiet_want; go_big_quiet_op; first | go_big_quiet_on))
          refine wpQuiet_nil ?_
          rintro _ ⟨g1, rfl⟩
          have zz1 : wr.heap.size < g1.world.heap.size := Nat.lt_of_lt_of_le (by first | omega | (simp; done) | (simp; omega)) g1.le
          have zz2 : b1 < g1.world.heap.size := Nat.lt_of_lt_of_le (by first | omega | (simp; done) | (simp; omega)) g1.le
          go_wp2_with fail
          refine (F1.out _ (by repeat (first | with_reducible exact Below.refl _ _ | with_reducible refine bel_alloc ?_ _ | with_reducible refine bel_drewN ?_ _ | with_reducible refine bel_drew ?_ | with_reducible refine bel_grow ?_ _ | with_reducible refine bel_set ?_ (by first | omega | (simp; done) | (simp; omega)) _))).mono ?_
          rintro e w' ⟨rfl, rfl⟩
          go_wp2_with fail
          refine (F2.out _ (by repeat (first | with_reducible exact Below.refl _ _ | with_reducible refine bel_alloc ?_ _ | with_reducible refine bel_drewN ?_ _ | with_reducible refine bel_drew ?_ | with_reducible refine bel_grow ?_ _ | with_reducible refine bel_set ?_ (by first | omega | (simp; done) | (simp; omega)) _))).mono ?_
          rintro e w' ⟨rfl, rfl⟩
          go_wp2_with fail
          refine (HST.out _).mono ?_
          rintro e w2 ⟨q, rfl, hq, hb2⟩
          obtain ⟨g2, rfl⟩ := Grow.of hb2
          have HQ := Lib.hid hq
          clear hq hb2
          have zz3 : wr.heap.size < g2.world.heap.size := Nat.lt_of_lt_of_le (by first | omega | (simp; done) | (simp; omega)) g2.le
          have zz4 : b1 < g2.world.heap.size := Nat.lt_of_lt_of_le (by first | omega | (simp; done) | (simp; omega)) g2.le
          go_wp2_with fail
          first
            | with_reducible refine (HCX.out _ _ HQ.out).mono ?_
            | with_reducible refine (HCY.out _ _ HQ.out).mono ?_
          rintro e w3 ⟨q', rfl, hq', hb3⟩
          obtain ⟨g3, rfl⟩ := Grow.of hb3
          have HQ' := Lib.hid hq'
          clear hq' hb3
          have zz5 : wr.heap.size < g3.world.heap.size := Nat.lt_of_lt_of_le (by first | omega | (simp; done) | (simp; omega)) g3.le
          have zz6 : b1 < g3.world.heap.size := Nat.lt_of_lt_of_le (by first | omega | (simp; done) | (simp; omega)) g3.le
          go_wp2_with fail
          refine wp_region_grow (by kernel_rfl) (by kernel_rfl) ?_
          repeat (first | go_big_quiet_skip | (go_big_quiet_want; go_big_quiet_op; first | go_big_quiet_on))
          refine wpQuiet_nil ?_
          rintro _ ⟨g4, rfl⟩
          go_wp2_with fail
          go_roundw
          case rel => exact ⟨k + 1, _, by omega, by go_num, rfl, I64.wrap _, HBEL.out.trans (Below.mono (by repeat (first | with_reducible exact Below.refl _ _ | with_reducible refine bel_alloc ?_ _ | with_reducible refine bel_drewN ?_ _ | with_reducible refine bel_drew ?_ | with_reducible refine bel_grow ?_ _ | with_reducible refine bel_set ?_ (by first | omega | (simp; done) | (simp; omega)) _)) hzw)⟩
          case measure => simp [intOf]; omega
      · cases e2 : (C.hi != I.key)
        · have e3 : (C.lo == I.key) = false := by simpa using e1
          cases s
          all_goals
            go_wp2_with fail
            refine wp_region_grow (by kernel_rfl) (by kernel_rfl) ?_
            repeat (first | go_big_quiet_skip | (go_big_quiet_want; go_big_quiet_op; first | go_big_quiet_on))
            refine wpQuiet_nil ?_
            rintro _ ⟨g1, rfl⟩
            have zz7 : wr.heap.size < g1.world.heap.size := Nat.lt_of_lt_of_le (by first | omega | (simp; done) | (simp; omega)) g1.le
            have zz8 : b1 < g1.world.heap.size := Nat.lt_of_lt_of_le (by first | omega | (simp; done) | (simp; omega)) g1.le
            go_wp2_with fail
            refine (F1.out _ (by repeat (first | with_reducible exact Below.refl _ _ | with_reducible refine bel_alloc ?_ _ | with_reducible refine bel_drewN ?_ _ | with_reducible refine bel_drew ?_ | with_reducible refine bel_grow ?_ _ | with_reducible refine bel_set ?_ (by first | omega | (simp; done) | (simp; omega)) _))).mono ?_
            rintro e w' ⟨rfl, rfl⟩
            go_wp2_with fail
            refine (F2.out _ (by repeat (first | with_reducible exact Below.refl _ _ | with_reducible refine bel_alloc ?_ _ | with_reducible refine bel_drewN ?_ _ | with_reducible refine bel_drew ?_ | with_reducible refine bel_grow ?_ _ | with_reducible refine bel_set ?_ (by first | omega | (simp; done) | (simp; omega)) _))).mono ?_
            rintro e w' ⟨rfl, rfl⟩
            go_wp2_with fail
            refine (HST.out _).mono ?_
            rintro e w2 ⟨q, rfl, hq, hb2⟩
            obtain ⟨g2, rfl⟩ := Grow.of hb2
            have HQ := Lib.hid hq
            clear hq hb2
            have zz9 : wr.heap.size < g2.world.heap.size := Nat.lt_of_lt_of_le (by first | omega | (simp; done) | (simp; omega)) g2.le
            have zz10 : b1 < g2.world.heap.size := Nat.lt_of_lt_of_le (by first | omega | (simp; done) | (simp; omega)) g2.le
            go_wp2_with fail
            first
              | with_reducible refine (HCX.out _ _ HQ.out).mono ?_
              | with_reducible refine (HCY.out _ _ HQ.out).mono ?_
            rintro e w3 ⟨q', rfl, hq', hb3⟩
            obtain ⟨g3, rfl⟩ := Grow.of hb3
            have HQ' := Lib.hid hq'
            clear hq' hb3
            have zz11 : wr.heap.size < g3.world.heap.size := Nat.lt_of_lt_of_le (by first | omega | (simp; done) | (simp; omega)) g3.le
            have zz12 : b1 < g3.world.heap.size := Nat.lt_of_lt_of_le (by first | omega | (simp; done) | (simp; omega)) g3.le
            go_wp2_with fail
            refine wp_region_grow (by kernel_rfl) (by kernel_rfl) ?_
            repeat (first | go_big_quiet_skip | (go_big_quiet_want; go_big_quiet_op; first | go_big_quiet_on))
            refine wpQuiet_nil ?_
            rintro _ ⟨g4, rfl⟩
            go_wp2_with fail
            go_roundw
            case rel => exact ⟨k + 1, _, by omega, by go_num, rfl, I64.wrap _, HBEL.out.trans (Below.mono (by repeat (first | with_reducible exact Below.refl _ _ | with_reducible refine bel_alloc ?_ _ | with_reducible refine bel_drewN ?_ _ | with_reducible refine bel_drew ?_ | with_reducible refine bel_grow ?_ _ | with_reducible refine bel_set ?_ (by first | omega | (simp; done) | (simp; omega)) _)) hzw)⟩
            case measure => simp [intOf]; omega
        · go_wp2_with fail
          refine wp_region_grow (by kernel_rfl) (by kernel_rfl) ?_
          repeat (first | go_big_quiet_skip | (go_big_quiet_want; go_big_quiet_op; first | go_big_quiet_on))
          refine wpQuiet_nil ?_
          rintro _ ⟨g1, rfl⟩
          go_wp2_with fail
          go_roundw
          case rel => exact ⟨k + 1, r, by omega, by go_num, rfl, HR.out, HBEL.out.trans (Below.mono (by repeat (first | with_reducible exact Below.refl _ _ | with_reducible refine bel_alloc ?_ _ | with_reducible refine bel_drewN ?_ _ | with_reducible refine bel_drew ?_ | with_reducible refine bel_grow ?_ _ | with_reducible refine bel_set ?_ (by first | omega | (simp; done) | (simp; omega)) _)) hzw)⟩
          case measure => simp [intOf]; omega
    · go_wp2
      go_ret
      exact ⟨_, rfl, HR.out, HBEL.out⟩
end Go.Proofs.YtnhaiecbjipodaaGreatDoor
/- The references' Shifts, without their numbers: nothing panics. -/
namespace Go.Proofs.YtnhaiecbjipodaaGreatDoor
open Go.RowKit
attribute [local go_sem] Grow.cell Grow.froz Grow.lt lt_s1 lt_s2 lt_s3 lt_s4 lt_s5
def floorX (n d : Int) : Int := if n.tmod d < 0 then wrap64 (wrap64 (n.tdiv d) - 1) else wrap64 (n.tdiv d)
set_option maxHeartbeats 1000000 in
theorem refFloor_x (n d : Int) (w : World) (hd : d ≠ 0) :
    Calls Tryz.prog 118 #[.int .i64 n, .int .i64 d] w fun e w' => e = .returned (.int .i64 (floorX n d)) ∧ w' = w := by
  have hz : (d == 0) = false := by simpa using hd
  unfold floorX
  by_cases hm : n.tmod d < 0
  · rw [if_pos hm]
    go_enter Tryz.func118, Tryz.ntmps118
    go_wp2
    go_ret
    exact ⟨rfl, rfl⟩
  · rw [if_neg hm]
    go_enter Tryz.func118, Tryz.ntmps118
    go_wp2
    go_ret
    exact ⟨rfl, rfl⟩
def amountX (dep ai bi : Int) : Int := if dep ≤ 1024 ∨ ai + bi = 0 then 0 else floorX ((dep - 1024) * 26214) 65536
def shareX (dep ai bi i : Int) : Int := if amountX dep ai bi = 0 then 0 else floorX (wrap64 (amountX dep ai bi * i)) (ai + bi)
set_option maxHeartbeats 4000000 in
theorem refAmount_x (cl ch nx ny dep ak ar aax aay ai abo apx apy avx avy bk br bax bay bi bbo bpx bpy bvx bvy : Int) (w : World) (hdep : I32 dep) (hai : 0 ≤ ai ∧ ai ≤ 1048576) (hbi : 0 ≤ bi ∧ bi ≤ 1048576) :
    Calls Tryz.prog 165 #[.agg #[.int .u32 cl, .int .u32 ch, .int .i32 nx, .int .i32 ny, .int .i32 dep], .agg #[.int .u32 ak, .int .i32 ar, .int .i32 aax, .int .i32 aay, .int .i32 ai, .int .i32 abo, .int .i32 apx, .int .i32 apy, .int .i32 avx, .int .i32 avy], .agg #[.int .u32 bk, .int .i32 br, .int .i32 bax, .int .i32 bay, .int .i32 bi, .int .i32 bbo, .int .i32 bpx, .int .i32 bpy, .int .i32 bvx, .int .i32 bvy]] w fun e w' => e = .returned (.int .i64 (amountX dep ai bi)) ∧ Below w.heap.size w w' := by
  obtain ⟨dp0, dp1⟩ := hdep
  obtain ⟨ai0, ai1⟩ := hai
  obtain ⟨bi0, bi1⟩ := hbi
  unfold amountX
  by_cases hm : ai + bi = 0
  · have hmb : (ai + bi == 0) = true := by simpa using hm
    rw [if_pos (.inr hm)]
    by_cases hd : dep ≤ 1024
    all_goals
      go_enter Tryz.func165, Tryz.ntmps165
      go_wp2_with fail
      go_ret
      exact ⟨rfl, (by repeat (first | with_reducible exact Below.refl _ _ | with_reducible refine bel_alloc ?_ _ | with_reducible refine bel_drewN ?_ _ | with_reducible refine bel_drew ?_ | with_reducible refine bel_grow ?_ _ | with_reducible refine bel_set ?_ (by first | omega | (simp; done) | (simp; omega)) _))⟩
  · have hmb : (ai + bi == 0) = false := by simpa using hm
    by_cases hd : dep ≤ 1024
    · rw [if_pos (.inl hd)]
      go_enter Tryz.func165, Tryz.ntmps165
      go_wp2_with fail
      go_ret
      exact ⟨rfl, (by repeat (first | with_reducible exact Below.refl _ _ | with_reducible refine bel_alloc ?_ _ | with_reducible refine bel_drewN ?_ _ | with_reducible refine bel_drew ?_ | with_reducible refine bel_grow ?_ _ | with_reducible refine bel_set ?_ (by first | omega | (simp; done) | (simp; omega)) _))⟩
    · rw [if_neg (fun h => h.elim hd hm)]
      go_enter Tryz.func165, Tryz.ntmps165
      go_wp2_with fail
      refine (refFloor_x _ _ _ (by decide)).mono ?_
      rintro e w' ⟨rfl, rfl⟩
      go_wp2_with fail
      go_ret
      exact ⟨rfl, (by repeat (first | with_reducible exact Below.refl _ _ | with_reducible refine bel_alloc ?_ _ | with_reducible refine bel_drewN ?_ _ | with_reducible refine bel_drew ?_ | with_reducible refine bel_grow ?_ _ | with_reducible refine bel_set ?_ (by first | omega | (simp; done) | (simp; omega)) _))⟩
theorem amount_nz {dep ai bi : Int} (h : ¬ amountX dep ai bi = 0) : ¬ ai + bi = 0 := fun e => h (by unfold amountX; rw [if_pos (.inr e)])
set_option maxHeartbeats 4000000 in
theorem refShare_x (cl ch nx ny dep ak ar aax aay ai abo apx apy avx avy bk br bax bay bi bbo bpx bpy bvx bvy i : Int) (w : World) (hdep : I32 dep) (hai : 0 ≤ ai ∧ ai ≤ 1048576) (hbi : 0 ≤ bi ∧ bi ≤ 1048576) (hi : I32 i) :
    Calls Tryz.prog 145 #[.agg #[.int .u32 cl, .int .u32 ch, .int .i32 nx, .int .i32 ny, .int .i32 dep], .agg #[.int .u32 ak, .int .i32 ar, .int .i32 aax, .int .i32 aay, .int .i32 ai, .int .i32 abo, .int .i32 apx, .int .i32 apy, .int .i32 avx, .int .i32 avy], .agg #[.int .u32 bk, .int .i32 br, .int .i32 bax, .int .i32 bay, .int .i32 bi, .int .i32 bbo, .int .i32 bpx, .int .i32 bpy, .int .i32 bvx, .int .i32 bvy], .int .i32 i] w fun e w' => e = .returned (.int .i64 (shareX dep ai bi i)) ∧ Below w.heap.size w w' := by
  have HAM := Lib.hid fun W => refAmount_x cl ch nx ny dep ak ar aax aay ai abo apx apy avx avy bk br bax bay bi bbo bpx bpy bvx bvy W hdep hai hbi
  have hz := amount_nz (dep := dep) (ai := ai) (bi := bi)
  obtain ⟨dp0, dp1⟩ := hdep
  obtain ⟨ai0, ai1⟩ := hai
  obtain ⟨bi0, bi1⟩ := hbi
  obtain ⟨i0, i1⟩ := hi
  unfold shareX
  generalize amountX dep ai bi = r at *
  have HZ := Lib.hid hz
  clear hz
  by_cases hge : r = 0
  · have hrb : (r == 0) = true := by simpa using hge
    rw [if_pos hge]
    go_enter Tryz.func145, Tryz.ntmps145
    go_wp2_with fail
    refine (HAM.out _).mono ?_
    rintro e w1 ⟨rfl, hb⟩
    obtain ⟨g1, rfl⟩ := Grow.of hb
    clear hb
    go_wp2_with fail
    go_ret
    exact ⟨rfl, (by repeat (first | with_reducible exact Below.refl _ _ | with_reducible refine bel_alloc ?_ _ | with_reducible refine bel_drewN ?_ _ | with_reducible refine bel_drew ?_ | with_reducible refine bel_grow ?_ _ | with_reducible refine bel_set ?_ (by first | omega | (simp; done) | (simp; omega)) _))⟩
  · have hrb : (r == 0) = false := by simpa using hge
    have hm := HZ.out hge
    rw [if_neg hge]
    go_enter Tryz.func145, Tryz.ntmps145
    go_wp2_with fail
    refine (HAM.out _).mono ?_
    rintro e w1 ⟨rfl, hb⟩
    obtain ⟨g1, rfl⟩ := Grow.of hb
    clear hb
    have zz1 : w.heap.size < g1.world.heap.size := Nat.lt_of_lt_of_le (by first | omega | (simp; done) | (simp; omega)) g1.le
    have zz2 : w.heap.size + 1 < g1.world.heap.size := Nat.lt_of_lt_of_le (by first | omega | (simp; done) | (simp; omega)) g1.le
    have zz3 : w.heap.size + 1 + 1 < g1.world.heap.size := Nat.lt_of_lt_of_le (by first | omega | (simp; done) | (simp; omega)) g1.le
    go_wp2_with fail
    refine (refFloor_x _ _ _ hm).mono ?_
    rintro e w' ⟨rfl, rfl⟩
    go_wp2_with fail
    go_ret
    exact ⟨rfl, (by repeat (first | with_reducible exact Below.refl _ _ | with_reducible refine bel_alloc ?_ _ | with_reducible refine bel_drewN ?_ _ | with_reducible refine bel_drew ?_ | with_reducible refine bel_grow ?_ _ | with_reducible refine bel_set ?_ (by first | omega | (simp; done) | (simp; omega)) _))⟩
theorem rShiftInfo : (Tryz.prog.info? 209).map (fun i => (i.zero, i.size, i.bytes)) = some (some (.agg #[.int .i64 0, .int .i64 0]), 2, 16) := by kernel_rfl
end Go.Proofs.YtnhaiecbjipodaaGreatDoor
