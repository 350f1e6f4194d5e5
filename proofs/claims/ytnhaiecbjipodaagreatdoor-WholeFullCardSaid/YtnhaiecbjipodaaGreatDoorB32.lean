/- Contracts of the program's functions, by walks, and plain facts beside them: DoAny, Run, AwakePure, Awake28. -/
import Derived.Test.YtnhaiecbjipodaaGreatDoorB31
import Derived.Test.YtnhaiecbjipodaaGreatDoorB29
/- script.Do, any kind. -/
namespace Go.Proofs.YtnhaiecbjipodaaGreatDoor
open Go.RowKit Go.Shelf Go.Proofs Go.MapKept
attribute [local go_sem] Grow.cell Grow.froz Grow.lt lt_s1 lt_s2 lt_s3 lt_s4 lt_s5
def doE (l : List Body) (k : Int) (b : Body) (q : Int) (bs : List Int) : Int :=
  if k = 1 then addE l b else if k = 2 then getE l q else if k = 3 then getE l q else if k = 4 then 0 else if k = 5 then 0 else if k = 6 then (decL bs).2 else 1
def doL (l : List Body) (k : Int) (b : Body) (q x y : Int) (bs : List Int) : List Body :=
  if k = 1 then addR l b else if k = 2 then remR l q else if k = 3 then impR l q x y else if k = 4 then stepL (sortB l) else if k = 5 then l else if k = 6 then restR l bs else l
theorem rowsFit {b : List Int} (hf : ∀ a ∈ b, 0 ≤ a ∧ a ≤ 255) (n : Nat) : ∀ x ∈ rowsL b n, x.Fit := by
  intro x hx
  obtain ⟨i, _, rfl⟩ := List.mem_map.1 hx
  exact ⟨numAt_range hf _, sg_fit _, sg_fit _, sg_fit _, sg_fit _, sg_fit _, sg_fit _, sg_fit _, sg_fit _, sg_fit _⟩
section
variable (k : Int) (b : Body) (q x y : Int) (A : Option Addr) (n c : Nat) (w : World) (p : Nat) (F : Nat → Prop) (l : List Body)
set_option maxRecDepth 100000 in
set_option maxHeartbeats 2000000 in
theorem do0_any (h : StoreAt w p F l) (n1 : ¬ k = 1) (n2 : ¬ k = 2) (n3 : ¬ k = 3) (n4 : ¬ k = 4) (n5 : ¬ k = 5) (n6 : ¬ k = 6) :
    Calls Tryz.prog 12 #[.pointer (some ⟨p, 0, none⟩), .agg (OpA k b q x y A n c)] w fun e w' => ∃ A' n' c' cnt fl, e = .returned (.agg (OutA 1 A' n' c' cnt fl)) ∧ After w w' p F l := by
  have hp := h.lt
  have hno : ∀ a1 a2 a3, getM (kindsL a1 a2 a3) k = none := fun a1 a2 a3 => by simp [getM, kindsL, Ne.symm n1, Ne.symm n2, Ne.symm n3, Ne.symm n4, Ne.symm n5, Ne.symm n6]
  have hb1 : Below w.heap.size w ((w.alloc (.cells (OpA k b q x y A n c) 44)).alloc (.cells (OutA 0 none 0 0 0 false) 42)).drew := (by repeat (first | with_reducible exact Below.refl _ _ | with_reducible refine bel_alloc ?_ _ | with_reducible refine bel_drewN ?_ _ | with_reducible refine bel_drew ?_ | with_reducible refine bel_grow ?_ _ | with_reducible refine bel_set ?_ (by first | omega | (simp; done) | (simp; omega)) _))
  have KR : CellsAt ((w.alloc (.cells (OpA k b q x y A n c) 44)).alloc (.cells (OutA 0 none 0 0 0 false) 42)).drew (w.heap.size + 1) (OutA 0 none 0 0 0 false) 42 := (CellsAt.newAt (by simp) rfl).drew
  have KX : CellsAt ((w.alloc (.cells (OpA k b q x y A n c) 44)).alloc (.cells (OutA 0 none 0 0 0 false) 42)).drew w.heap.size (OpA k b q x y A n c) 44 := ((CellsAt.newAt rfl rfl).alloc _).drew
  have HB1 := Lib.hid hb1
  have HKR := Lib.hid KR
  have HKX := Lib.hid KX
  have HAT := Lib.hid h
  have HNO := Lib.hid hno
  have k0 : ((w.alloc (.cells (OpA k b q x y A n c) 44)).alloc (.cells (OutA 0 none 0 0 0 false) 42)).drew.cell? ⟨w.heap.size, 0, none⟩ = some (.int .i64 k) := KX.at 0 rfl
  clear h hb1 KR KX hno
  have HK0 : ∀ g : Grow ((w.alloc (.cells (OpA k b q x y A n c) 44)).alloc (.cells (OutA 0 none 0 0 0 false) 42)).drew, (fun w' : World => w'.cell? ⟨w.heap.size, 0, none⟩ = some (.int .i64 k)) g.world := fun g => (HKX.out.grow g).at 0 rfl
  go_enter Tryz.func12, Tryz.ntmps12
  go_upto_region 1 with fail
  go_region_held3 (fun w' : World => w'.cell? ⟨w.heap.size, 0, none⟩ = some (.int .i64 k)) (first | exact k0 | exact HK0 g1)
    (first | (go_at_call 29; refine (kinds_any _).mono ?_; rintro e w1 ⟨mb, a1, a2, a3, rfl, hk, hb⟩; obtain ⟨g1, rfl⟩ := Grow.of hb; have LK : (Instr.lookup 84 (.map (some mb)) (.int .i64 k) true).run Tryz.prog g1.world = .ok (.tuple #[.nilFunc, .bool false]) g1.world := (by have := look_kind hk k; rw [HNO.out] at this; simpa using this); clear hk hb))
  have HB2 := Lib.hid (bel_grow HB1.out g1)
  have KR := HKR.out.grow g1
  have fz : ∀ o, g1.world.frozen? ⟨w.heap.size + 1, o, none⟩ = false := fun o => KR.froz o
  have lR := KR.lt
  have kk1 : g1.world.cell? ⟨(w.heap.size + 1), 0, none⟩ = some (.int .i64 0) := KR.at 0 rfl
  have kk2 : g1.world.cell? ⟨(w.heap.size + 1), 1, none⟩ = some (.slice none 0 0) := KR.at 1 rfl
  have kk3 : g1.world.cell? ⟨(w.heap.size + 1), 2, none⟩ = some (.int .i64 0) := KR.at 2 rfl
  have kk4 : g1.world.cell? ⟨(w.heap.size + 1), 3, none⟩ = some (.bool false) := KR.at 3 rfl
  clear k0 HK0
  go_wp2
  refine bodyPost_ret (v := .agg (OutA 1 none 0 0 0 false)) (ret_cells (w.heap.size + 1) (OutA 1 none 0 0 0 false) 42 ?_ ?_) rfl ⟨_, _, _, _, _, rfl, ?_⟩
  · exact ((((KR.set 0 _).set 1 _).set 2 _).set 3 _).eq (by simp)
  · intro W K
    have kk5 : W.cell? ⟨(w.heap.size + 1), 0, none⟩ = some (.int .i64 1) := K.at 0 rfl
    have kk6 : W.cell? ⟨(w.heap.size + 1), 1, none⟩ = some (.slice none 0 0) := K.at 1 rfl
    have kk7 : W.cell? ⟨(w.heap.size + 1), 2, none⟩ = some (.int .i64 0) := K.at 2 rfl
    have kk8 : W.cell? ⟨(w.heap.size + 1), 3, none⟩ = some (.bool false) := K.at 3 rfl
    simp [results, Tryz.results12, go_sem, *]
  · have hb4 : Below w.heap.size w ((((g1.world.setCell ⟨w.heap.size + 1, 0, none⟩ (.int .i64 1)).setCell ⟨w.heap.size + 1, 1, none⟩ (.slice none 0 0)).setCell ⟨w.heap.size + 1, 2, none⟩ (.int .i64 0)).setCell ⟨w.heap.size + 1, 3, none⟩ (.bool false)) := bel_set (bel_set (bel_set (bel_set HB2.out (by omega) _) (by omega) _) (by omega) _) (by omega) _
    exact .of_same (HAT.out.below hb4) (Alter.of_below hb4 F)
theorem do_any (bs : List Int) (h : StoreAt w p F l) (hs : SaneL l) (hg : Glob w) (hx : I32 x) (hy : I32 y) (hr : RB w (.slice A n c) bs) :
    Calls Tryz.prog 12 #[.pointer (some ⟨p, 0, none⟩), .agg (OpA k b q x y A n c)] w fun e w' => ∃ A' n' c' cnt fl, e = .returned (.agg (OutA (doE l k b q bs) A' n' c' cnt fl)) ∧ After w w' p F (doL l k b q x y bs) := by
  unfold doE doL
  by_cases k1 : k = 1
  · subst k1; rw [if_pos rfl, if_pos rfl]; exact do1_any b q x y A n c w p F l h
  by_cases k2 : k = 2
  · subst k2; rw [if_neg k1, if_neg k1, if_pos rfl, if_pos rfl]; exact do2_any b q x y A n c w p F l h
  by_cases k3 : k = 3
  · subst k3; rw [if_neg k1, if_neg k1, if_neg k2, if_neg k2, if_pos rfl, if_pos rfl]; exact do3_any b q x y A n c w p F l h hs hx hy
  by_cases k4 : k = 4
  · subst k4; rw [if_neg k1, if_neg k1, if_neg k2, if_neg k2, if_neg k3, if_neg k3, if_pos rfl, if_pos rfl]; exact do4_any b q x y A n c w p F l h hs hg
  by_cases k5 : k = 5
  · subst k5; rw [if_neg k1, if_neg k1, if_neg k2, if_neg k2, if_neg k3, if_neg k3, if_neg k4, if_neg k4, if_pos rfl, if_pos rfl]; exact do5_any b q x y A n c w p F l h hs
  by_cases k6 : k = 6
  · subst k6; rw [if_neg k1, if_neg k1, if_neg k2, if_neg k2, if_neg k3, if_neg k3, if_neg k4, if_neg k4, if_neg k5, if_neg k5, if_pos rfl, if_pos rfl]; exact do6_any b q x y A n c w p F l h bs hr
  · rw [if_neg k1, if_neg k1, if_neg k2, if_neg k2, if_neg k3, if_neg k3, if_neg k4, if_neg k4, if_neg k5, if_neg k5, if_neg k6, if_neg k6]; exact do0_any k b q x y A n c w p F l h k1 k2 k3 k4 k5 k6
theorem sane_do (bs : List Int) (hb : b.Fit) (hf : ∀ a ∈ bs, 0 ≤ a ∧ a ≤ 255) (hs : SaneL l) : SaneL (doL l k b q x y bs) := by
  unfold doL
  repeat' split
  · exact sane_addR hs hb
  · exact sane_rem hs
  · exact sane_imp hs
  · exact sane_step (sortB_sane hs)
  · exact hs
  · unfold restR
    split
    · rename_i h0
      intro x hx
      have hG := restR_len h0
      refine sane_of ?_ (hG.ok x hx)
      unfold decL at hx
      split at hx
      · split at hx
        · cases hx
        · exact rowsFit hf _ x hx
      · cases hx
    · exact hs
  · exact hs
end
end Go.Proofs.YtnhaiecbjipodaaGreatDoor
/- script.Run and script.World. -/
namespace Go.Proofs.YtnhaiecbjipodaaGreatDoor
open Go.RowKit Go.Shelf Go.Proofs Go.MapKept
attribute [local go_sem] Grow.cell Grow.froz Grow.lt lt_s1 lt_s2 lt_s3 lt_s4 lt_s5
/-- An operation (and what its bytes are). -/
structure OpD where
  k : Int
  b : Body
  q : Int
  x : Int
  y : Int
  A : Option Addr
  n : Nat
  c : Nat
  bs : List Int
def opE : Enc OpD := ⟨15, fun o => (OpA o.k o.b o.q o.x o.y o.A o.n o.c).toList, fun _ => rfl, fun o u hu => by
  simp at hu
  rcases hu with rfl | rfl | rfl | rfl | rfl | rfl | rfl | rfl | rfl | rfl | rfl | rfl | rfl | rfl | rfl <;> rfl, by decide⟩
structure OutD where
  e : Int
  A : Option Addr
  n : Nat
  c : Nat
  k : Int
  f : Bool
def outE : Enc OutD := ⟨4, fun o => (OutA o.e o.A o.n o.c o.k o.f).toList, fun _ => rfl, fun o u hu => by
  simp at hu
  rcases hu with rfl | rfl | rfl | rfl <;> rfl, by decide⟩
theorem outInfo : (Tryz.prog.info? 42).map (fun i => (i.zero, i.size, i.bytes)) = some (some (.agg #[.int .i64 0, .slice none 0 0, .int .i64 0, .bool false]), 4, 48) := by kernel_rfl
theorem Glob.alter {S : Nat → Prop} {w w' : World} (h : Glob w) (ha : Alter S w w') (hs : ∀ k, S k → 4 ≤ k) : Glob w' := by
  have hz := h.size
  obtain ⟨h0, h1, h2, h3, h4, h5⟩ := h
  have k : ∀ b o, b < 4 → w'.cell? ⟨b, o, none⟩ = w.cell? ⟨b, o, none⟩ := fun b o hb' => ha.cell (by omega) (fun h => by have := hs b h; omega)
  exact ⟨(k _ _ (by omega)).trans h0, (k _ _ (by omega)).trans h1, (k _ _ (by omega)).trans h2, (k _ _ (by omega)).trans h3, (k _ _ (by omega)).trans h4, (k _ _ (by omega)).trans h5⟩
theorem RB.alter {S : Nat → Prop} {w w' : World} {v : Value} {l : List Int} (h : RB w v l) (ha : Alter S w w') (hs : ∀ k, v.ownBlock = some k → ¬ S k) : RB w' v l := by
  obtain ⟨h1, h1', A, c, rfl, h3, h4, h5⟩ := h
  refine ⟨h1, h1', A, c, rfl, h3, h4, fun i a hia => ?_⟩
  obtain ⟨b, off, rfl, hc⟩ := h5 i a hia
  exact ⟨b, off, rfl, by rw [ha.cell (World.block_lt_of_cell? w _ hc) (hs b rfl)]; exact hc⟩
def stepD (l : List Body) (o : OpD) : List Body := doL l o.k o.b o.q o.x o.y o.bs
def runL (l : List Body) (ops : List OpD) : List Body := ops.foldl stepD l
theorem runL_take {l : List Body} {ops : List OpD} {k : Nat} (hk : k < ops.length) : runL l (ops.take (k + 1)) = stepD (runL l (ops.take k)) ops[k] := by
  unfold runL
  rw [List.take_succ_eq_append_getElem hk, List.foldl_append]
  rfl
/-- What an operation needs. -/
structure OpOk (w : World) (F : Nat → Prop) (o : OpD) : Prop where
  fit : o.b.Fit
  x : I32 o.x
  y : I32 o.y
  rb : RB w (.slice o.A o.n o.c) o.bs
  ap : ∀ k, (Value.slice o.A o.n o.c).ownBlock = some k → ¬ F k
theorem sane_run {l : List Body} (hs : SaneL l) : ∀ {ops : List OpD}, (∀ o ∈ ops, o.b.Fit ∧ ∀ a ∈ o.bs, 0 ≤ a ∧ a ≤ 255) → SaneL (runL l ops) := by
  intro ops
  induction ops generalizing l with
  | nil => exact fun _ => hs
  | cons o r ih => exact fun h => ih (sane_do _ _ _ _ _ _ _ (h o (List.mem_cons_self ..)).1 (h o (List.mem_cons_self ..)).2 hs) (fun o' ho' => h o' (List.mem_cons_of_mem _ ho'))
theorem idx_op {A : Option Addr} {b off k len c : Nat} (hA : A = some ⟨b, off, none⟩) (hk : k < len) (w : World) :
    (Instr.indexAt 35 (.slice A len c) (.int .i64 (k : Int))).run Tryz.prog w = .ok (.pointer (some ⟨b, off + k * 15, none⟩)) w := by
  subst hA
  have hk' : (k : Int) < (len : Int) := by omega
  go_simp
set_option maxRecDepth 100000 in
set_option maxHeartbeats 2000000 in
theorem run_any (p : Nat) (v : Value) (ops : List OpD) (w : World) (F : Nat → Prop) (l : List Body) (h : StoreAt w p F l) (hs : SaneL l) (hg : Glob w) (hF : ∀ k, F k → 4 ≤ k) (hv : Reads opE w v ops) (hva : ∀ k, v.ownBlock = some k → ¬ F k) (ho : ∀ o ∈ ops, OpOk w F o) (hn : ops.length ≤ 1000000) :
    Calls Tryz.prog 26 #[.pointer (some ⟨p, 0, none⟩), v] w fun e w' => ∃ v', e = .returned v' ∧ After w w' p F (runL l ops) := by
  have hp := h.lt
  obtain ⟨N, hN⟩ : ∃ N, N = ops.length := ⟨_, rfl⟩
  obtain ⟨A, c, b1, o1, rfl, hA, hx⟩ := hv.form
  rw [← hN]
  have hA := Lib.hid hA
  have hx := Lib.hid hx
  have HN := Lib.hid hN
  have HNB := Lib.hid hn
  have HAT := Lib.hid h.bound
  have HS := Lib.hid hs
  have HG := Lib.hid hg
  have HF4 := Lib.hid hF
  have HVA := Lib.hid hva
  have HO := Lib.hid ho
  have g4 := hg.size
  clear h hs hg hF hv hva ho hN hn
  go_enter Tryz.func26, Tryz.ntmps26
  go_wp2
  go_loopw [5, 10] (fun u i wr => ∃ (k : Nat) (outs : List OutD) (F' : Nat → Prop), k ≤ N ∧ i = .int .i64 k ∧ outs.length ≤ k ∧ Own outE 42 wr w.heap.size u outs ∧ StoreAt wr p F' (runL l (ops.take k)) ∧ (∀ j, F' j → j < wr.heap.size ∧ (F j ∨ w.heap.size ≤ j)) ∧ (∀ j, u.ownBlock = some j → ¬ F' j) ∧ Alter F w wr) (fun _ i _ => N - (intOf i).toNat)
  case atStart =>
    refine ⟨0, [], (fun k => F k ∧ k < w.heap.size), by omega, rfl, by simp, Own.nil _ _ _ _, by simpa [runL] using HAT.out, fun j hj => ⟨hj.2, .inl hj.1⟩, fun j hj => by simp [Value.ownBlock] at hj, Alter.refl _ _⟩
  case round =>
    obtain ⟨k, outs, F', hk, rfl, hol, hown, hS, hF', hua, hAl⟩ := hrel
    by_cases hlt : k < N
    · have hko : k < ops.length := by rw [← HN.out]; exact hlt
      have hbig := HNB.out
      obtain ⟨eA, zA⟩ := hA.out (by omega)
      have ix := fun w => idx_op (c := c) eA hko w
      rw [← HN.out] at ix
      have hne : ¬ F b1 := HVA.out b1 (by rw [eA]; rfl)
      clear eA
      obtain ⟨od, hod⟩ : ∃ od, od = ops[k] := ⟨_, rfl⟩
      have hcell : ∀ j u, (opE.cells od)[j]? = some u → wr.cell? ⟨b1, o1 + k * 15 + j, none⟩ = some u := fun j u hu => by
        rw [hAl.cell zA hne]
        rw [hod] at hu
        exact hx.out k hko j u hu
      have hok := HO.out od (by rw [hod]; exact List.getElem_mem hko)
      have hsn : SaneL (runL l (ops.take k)) := sane_run HS.out fun o ho => ⟨(HO.out o (List.mem_of_mem_take ho)).fit, (HO.out o (List.mem_of_mem_take ho)).rb.2.1⟩
      obtain ⟨ok, ob, oq, ox, oy, oA, on, oc, obs⟩ := od
      have e0 : wr.cell? ⟨b1, o1 + k * 15, none⟩ = some (.int .i64 ok) := hcell 0 _ rfl
      have e1 : wr.cell? ⟨b1, o1 + k * 15 + 1, none⟩ = some (.int .u32 ob.key) := hcell 1 _ rfl
      have e2 : wr.cell? ⟨b1, o1 + k * 15 + 2, none⟩ = some (.int .i32 ob.radius) := hcell 2 _ rfl
      have e3 : wr.cell? ⟨b1, o1 + k * 15 + 3, none⟩ = some (.int .i32 ob.ax) := hcell 3 _ rfl
      have e4 : wr.cell? ⟨b1, o1 + k * 15 + 4, none⟩ = some (.int .i32 ob.ay) := hcell 4 _ rfl
      have e5 : wr.cell? ⟨b1, o1 + k * 15 + 5, none⟩ = some (.int .i32 ob.inv) := hcell 5 _ rfl
      have e6 : wr.cell? ⟨b1, o1 + k * 15 + 6, none⟩ = some (.int .i32 ob.bounce) := hcell 6 _ rfl
      have e7 : wr.cell? ⟨b1, o1 + k * 15 + 7, none⟩ = some (.int .i32 ob.px) := hcell 7 _ rfl
      have e8 : wr.cell? ⟨b1, o1 + k * 15 + 8, none⟩ = some (.int .i32 ob.py) := hcell 8 _ rfl
      have e9 : wr.cell? ⟨b1, o1 + k * 15 + 9, none⟩ = some (.int .i32 ob.vx) := hcell 9 _ rfl
      have e10 : wr.cell? ⟨b1, o1 + k * 15 + 10, none⟩ = some (.int .i32 ob.vy) := hcell 10 _ rfl
      have e11 : wr.cell? ⟨b1, o1 + k * 15 + 11, none⟩ = some (.int .u32 oq) := hcell 11 _ rfl
      have e12 : wr.cell? ⟨b1, o1 + k * 15 + 12, none⟩ = some (.int .i32 ox) := hcell 12 _ rfl
      have e13 : wr.cell? ⟨b1, o1 + k * 15 + 13, none⟩ = some (.int .i32 oy) := hcell 13 _ rfl
      have e14 : wr.cell? ⟨b1, o1 + k * 15 + 14, none⟩ = some (.slice oA on oc) := hcell 14 _ rfl
      have HDO := Lib.hid (do_any ok ob oq ox oy oA on oc (wr.alloc (.cells (OpA ok ob oq ox oy oA on oc) 44)) p F' _ obs (hS.below (bel_alloc (Below.refl _ _) _)) hsn ((HG.out.alter hAl HF4.out).alloc _) hok.x hok.y ((hok.rb.alter hAl hok.ap).alloc _))
      obtain ⟨er, her⟩ : ∃ er, er = doE (runL l (ops.take k)) ok ob oq obs := ⟨_, rfl⟩
      obtain ⟨nl, hnl⟩ : ∃ nl, nl = doL (runL l (ops.take k)) ok ob oq ox oy obs := ⟨_, rfl⟩
      rw [← her, ← hnl] at HDO
      have HNL := Lib.hid hnl
      have HOD := Lib.hid hod
      have HOWN := Lib.hid hown
      have HF2 := Lib.hid hF'
      have HUA := Lib.hid hua
      have HAL := Lib.hid hAl
      have hpr := hS.lt
      have hbs : w.heap.size ≤ wr.heap.size := hAl.size
      clear hS hok hsn hcell her hnl hod hown hF' hua hAl
      go_upto_region 5 with fail
      go_wp2_with fail
      refine HDO.out.mono ?_
      rintro e w2 ⟨A2, n2, c2, cnt, fl, rfl, h2⟩
      have hO2 : Own outE 42 w2 w.heap.size _ outs := own_block (HOWN.out.alloc _) fun j hj hjl => h2.alter.block j hjl (HUA.out j hj)
      have hz2 : wr.heap.size + 1 ≤ w2.heap.size := by have := h2.alter.size; simpa using this
      have H2 := Lib.hid h2
      have HO2 := Lib.hid hO2
      clear h2 hO2
      go_wp2_with (at_builtin; refine own_append' outE w.heap.size rfl (.tmp 14) (.tmp 18) 79 42 _ 48 rfl Tryz.underlying79 outInfo rfl (by decide) _ outs ⟨er, A2, n2, c2, cnt, fl⟩ _ (by rfl) rfl (by first | rfl | simp [go_sem]) HO2.out (by omega) (by omega) ?_; intro v3 w3 own3 hg3 hb3)
      go_roundw
      case rel =>
        obtain ⟨F2, h2, ha2, hf2⟩ := H2.out
        obtain ⟨v5, m5, h5⟩ := h2.bound
        have hub := HOWN.out.lt
        have hnF : ∀ j, u5.ownBlock = some j → ¬ F2 j := fun j hj hf => by
          have := hub j hj
          rcases hf2 j hf with h | h
          · exact HUA.out j hj h
          · simp at h; omega
        have hsz3 := hg3.size
        refine ⟨k + 1, outs ++ [⟨er, A2, n2, c2, cnt, fl⟩], (fun j => F2 j ∧ j < w2.heap.size), by omega, by go_num, by simp; omega, own3, ⟨v5, m5, ?_⟩, fun j hj => ⟨by omega, ?_⟩, fun j hj hf => ?_, ?_⟩
        · rw [runL_take hko, ← HOD.out]
          have e : stepD (runL l (ops.take k)) ⟨ok, ob, oq, ox, oy, oA, on, oc, obs⟩ = nl := HNL.out.symm
          rw [e]
          exact h5.alter (S := fun j => u5.ownBlock = some j) (Alter.of_grown_none hg3 fun b hb => hb) fun j hj hs => hnF j hs hj.1
        · rcases hf2 j hj.1 with h | h
          · exact (HF2.out j h).2
          · right; simp at h; omega
        · rcases hb3 with h | h
          · exact hnF j (h ▸ hj) hf.1
          · rw [h] at hj; simp at hj; omega
        · refine ((HAL.out.trans (Alter.of_below (bel_alloc (Below.refl _ _) _) F) (fun _ _ h => h)).trans ha2 (fun j hj h => ?_)).trans (T := fun j => u5.ownBlock = some j) (Alter.of_grown_none hg3 fun b hb => hb) (fun j hj h => ?_)
          · rcases (HF2.out j h).2 with h | h
            · exact h
            · omega
          · have := HOWN.out.base_le j h; omega
      case measure => simp [intOf]; omega
    · have hkl : k = ops.length := by rw [← HN.out]; omega
      have HS2 := Lib.hid hS
      have HF2 := Lib.hid hF'
      have HAL := Lib.hid hAl
      have HKL := Lib.hid hkl
      clear hS hF' hAl hkl hown hua
      go_wp2
      go_ret
      refine ⟨_, rfl, F', ?_, HAL.out, fun j hj => (HF2.out j hj).2⟩
      have := HS2.out
      rwa [HKL.out, List.take_length] at this

theorem StoreAt.zero {w : World} {p : Nat} {F : Nat → Prop} (h : CellsAt w p #[.slice none 0 0, .map none] 78) (hF : F p) : StoreAt w p F [] :=
  ⟨.slice none 0 0, .map none, h, hF, Own.nil _ _ _ _, fun k hk => by simp [Value.ownBlock] at hk, by simp, by simp, .inl ⟨rfl, rfl⟩⟩
theorem scriptWorld_any (v : Value) (ops : List OpD) (w : World) (hg : Glob w) (hv : Reads opE w v ops) (hvb : ∀ k, v.ownBlock = some k → k < w.heap.size) (ho : ∀ o ∈ ops, OpOk w (fun k => w.heap.size ≤ k) o) (hn : ops.length ≤ 1000000) :
    Calls Tryz.prog 8 #[v] w fun e w' => ∃ p F, e = .returned (.pointer (some ⟨p, 0, none⟩)) ∧ StoreAt w' p F (runL [] ops) ∧ (∀ k, F k → w.heap.size ≤ k) ∧ Below w.heap.size w w' := by
  have hz := hg.size
  have hb : Below w.heap.size w (w.alloc (.cells #[.slice none 0 0, .map none] 78)) := bel_alloc (Below.refl _ _) _
  have HR := Lib.hid (run_any w.heap.size v ops (w.alloc (.cells #[.slice none 0 0, .map none] 78)) (fun k => w.heap.size ≤ k) [] (StoreAt.zero (CellsAt.new _ _ _) (Nat.le_refl _)) (by intro b hb; cases hb) (hg.alloc _) (fun k hk => by omega) (hv.below hb) (fun k hk h => by have := hvb k hk; omega) (fun o h => ⟨(ho o h).fit, (ho o h).x, (ho o h).y, (ho o h).rb.alloc _, (ho o h).ap⟩) hn)
  obtain ⟨A, c, b1, o1, rfl, _, _⟩ := hv.form
  obtain ⟨nl, hnl⟩ : ∃ nl, nl = runL [] ops := ⟨_, rfl⟩
  rw [← hnl] at HR ⊢
  have HB := Lib.hid hb
  clear hg hv hvb ho hn hb hnl
  go_enter Tryz.func8, Tryz.ntmps8
  go_wp2_with (go_at_call 26; refine HR.out.mono ?_; rintro e w2 ⟨v2, rfl, h2⟩; have H2 := Lib.hid h2; clear h2)
  go_ret
  obtain ⟨F2, h2, ha2, hf2⟩ := H2.out
  refine ⟨_, F2, rfl, h2, fun k hk => ?_, ?_⟩
  · rcases hf2 k hk with h | h
    · exact h
    · simp at h; omega
  · exact HB.out.trans (ha2.below (by simp) (fun k hk h => by omega))
end Go.Proofs.YtnhaiecbjipodaaGreatDoor
/- The two bodies of awake. -/
namespace Go.Proofs.YtnhaiecbjipodaaGreatDoor
open Go.RowKit Go.Shelf Go.Proofs
def ballB (k i x : Int) : Body := ⟨k, 65536, 0, 0, i, 0, x, 0, 0, 0⟩
def twoV : List Body := [ballB 1 0 100000, ballB 2 65536 0]
def twoN : List Body := [ballB 1 0 100000, { ballB 2 65536 0 with px := -12019, py := -16, vy := -1024 }]
theorem two_step : stepL twoV = twoN := by decide +kernel
theorem two_cand : (candL twoV).length = 1 := by decide +kernel
theorem two_con : (contactsL twoV).length = 1 := by decide +kernel
theorem two_flag : flag3 twoV = false := by decide +kernel
theorem two_asc : Asc twoV := by unfold Asc; decide
theorem two_ascN : Asc twoN := by unfold Asc; decide
theorem two_sane : SaneL twoV := by intro b hb; simp only [twoV, twoN, List.mem_cons, List.not_mem_nil, or_false] at hb; rcases hb with rfl | rfl <;> (unfold Sane; decide)
theorem two_saneN : SaneL twoN := by intro b hb; simp only [twoV, twoN, List.mem_cons, List.not_mem_nil, or_false] at hb; rcases hb with rfl | rfl <;> (unfold Sane; decide)
end Go.Proofs.YtnhaiecbjipodaaGreatDoor
/- billiardtop.ball and awake. -/
namespace Go.Proofs.YtnhaiecbjipodaaGreatDoor
open Go.RowKit Go.Shelf Go.Proofs Go.MapKept
attribute [local go_sem] Grow.cell Grow.froz Grow.lt lt_s1 lt_s2 lt_s3 lt_s4 lt_s5
attribute [local go_sem high] body_eq vec_eq
theorem ball_any (k i x : Int) (w : World) : Calls Tryz.prog 16 #[.int .u32 k, .int .i32 i, .int .i32 x] w fun e w' => e = .returned (.agg (ballB k i x).arr) ∧ Below w.heap.size w w' := by
  go_enter Tryz.func16, Tryz.ntmps16
  go_wp2
  refine bodyPost_ret (v := .agg (ballB k i x).arr) (ret_cells w.heap.size (ballB k i x).arr 27 ?_ ?_) rfl ⟨rfl, (by repeat (first | with_reducible exact Below.refl _ _ | with_reducible refine bel_alloc ?_ _ | with_reducible refine bel_drewN ?_ _ | with_reducible refine bel_drew ?_ | with_reducible refine bel_grow ?_ _ | with_reducible refine bel_set ?_ (by first | omega | (simp; done) | (simp; omega)) _))⟩
  · exact CellsAt.newAt rfl rfl
  · intro W K
    have kk1 : W.cell? ⟨w.heap.size, 0, none⟩ = some (.int .u32 k) := K.at 0 rfl
    have kk2 : W.cell? ⟨w.heap.size, 1, none⟩ = some (.int .i32 65536) := K.at 1 rfl
    have kk3 : W.cell? ⟨w.heap.size, 2, none⟩ = some (.int .i32 0) := K.at 2 rfl
    have kk4 : W.cell? ⟨w.heap.size, 3, none⟩ = some (.int .i32 0) := K.at 3 rfl
    have kk5 : W.cell? ⟨w.heap.size, 4, none⟩ = some (.int .i32 i) := K.at 4 rfl
    have kk6 : W.cell? ⟨w.heap.size, 5, none⟩ = some (.int .i32 0) := K.at 5 rfl
    have kk7 : W.cell? ⟨w.heap.size, 6, none⟩ = some (.int .i32 x) := K.at 6 rfl
    have kk8 : W.cell? ⟨w.heap.size, 7, none⟩ = some (.int .i32 0) := K.at 7 rfl
    have kk9 : W.cell? ⟨w.heap.size, 8, none⟩ = some (.int .i32 0) := K.at 8 rfl
    have kk10 : W.cell? ⟨w.heap.size, 9, none⟩ = some (.int .i32 0) := K.at 9 rfl
    simp [results, Tryz.results16, go_sem, ballB, *]
def opB (b : Body) : OpD := ⟨1, b, 0, 0, 0, none, 0, 0, []⟩
theorem two_run : runL [] [opB (ballB 2 65536 0), opB (ballB 1 0 100000), opB (ballB 1 0 0)] = [ballB 2 65536 0, ballB 1 0 100000] := by decide +kernel
theorem two_sort : sortB [ballB 2 65536 0, ballB 1 0 100000] = twoV := (view_eq (by decide) (by decide) (by unfold twoV ballB; decide)).symm
theorem block_own {α : Type} {E : Enc α} {t : TypeId} {w : World} (cs : Array Value) (l : List α) (hcs : cs.toList = l.flatMap E.cells) (hl : l.length ≤ 1000000) : Own E t (w.alloc (.cells cs t)) w.heap.size (.slice (some ⟨w.heap.size, 0, none⟩) l.length l.length) l :=
  own_of_at (cur := cs) (heap_alloc_new w _) (Nat.le_refl _) (by simp only [maxLen]; omega) (by rw [← Array.length_toList, hcs, flat_len]) (fun i hi j u hu => by rw [← Array.getElem?_toList, hcs]; exact flat_get E l i l[i] j u (List.getElem?_eq_getElem hi) hu) w.heap.size (Nat.le_refl _)
def threeO : List OpD := [opB (ballB 2 65536 0), opB (ballB 1 0 100000), opB (ballB 1 0 0)]
def threeC : Array Value := (threeO.flatMap opE.cells).toArray
theorem three_run : runL [] threeO = [ballB 2 65536 0, ballB 1 0 100000] := two_run
theorem three_ok {w : World} {F : Nat → Prop} : ∀ o ∈ threeO, OpOk w F o := by
  intro o ho
  have hb : ∀ b : Body, Sane b → OpOk w F (opB b) := fun b h => ⟨h.fit, (by unfold I32; show _ ≤ (0 : Int) ∧ (0 : Int) ≤ _; decide), (by unfold I32; show _ ≤ (0 : Int) ∧ (0 : Int) ≤ _; decide), RB.none w, fun k hk => by simp [opB, Value.ownBlock] at hk⟩
  simp only [threeO, List.mem_cons, List.not_mem_nil, or_false] at ho
  rcases ho with rfl | rfl | rfl <;> exact hb _ (by unfold Sane; decide)
theorem world3_any (g : World) (hg : Glob g) : Calls Tryz.prog 8 #[.slice (some ⟨g.heap.size, 0, none⟩) 3 3] (g.alloc (.cells threeC 44)) fun e w' => ∃ p F, e = .returned (.pointer (some ⟨p, 0, none⟩)) ∧ StoreAt w' p F [ballB 2 65536 0, ballB 1 0 100000] ∧ (∀ k, F k → g.heap.size ≤ k) ∧ Below g.heap.size g w' := by
  have ho : Own opE 44 (g.alloc (.cells threeC 44)) g.heap.size (.slice (some ⟨g.heap.size, 0, none⟩) 3 3) threeO := block_own threeC threeO (by simp [threeC]) (by decide)
  refine (scriptWorld_any _ threeO _ (hg.alloc _) (ho.reads (by decide)) ho.lt three_ok (by decide)).mono ?_
  rintro e w' ⟨p, F, rfl, h1, h2, h3⟩
  rw [three_run] at h1
  exact ⟨p, F, rfl, h1, fun k hk => by have := h2 k hk; simp at this; omega, (bel_alloc (Below.refl _ _) _).trans (h3.mono (by simp))⟩
theorem slots_sane : SaneL [ballB 2 65536 0, ballB 1 0 100000] := by intro b hb; simp only [List.mem_cons, List.not_mem_nil, or_false] at hb; rcases hb with rfl | rfl <;> (unfold Sane; decide)
theorem step2_any (p : Nat) (w : World) (F : Nat → Prop) (h : StoreAt w p F [ballB 2 65536 0, ballB 1 0 100000]) (hg : Glob w) :
    Calls Tryz.prog 23 #[.pointer (some ⟨p, 0, none⟩)] w fun e w' => e = .returned (.agg #[.int .i64 1, .int .i64 1, .bool false]) ∧ After w w' p F twoN := by
  have := worldStep_any p w F _ h slots_sane hg
  rw [two_sort, two_step, two_cand, two_con, two_flag] at this
  exact this
theorem ball_fl (k i x : Int) (w : World) : Calls Tryz.prog 16 #[.int .u32 k, .int .i32 i, .int .i32 x] w fun e w' => e = .returned (.agg #[.int .u32 k, .int .i32 65536, .int .i32 0, .int .i32 0, .int .i32 i, .int .i32 0, .int .i32 x, .int .i32 0, .int .i32 0, .int .i32 0]) ∧ Below w.heap.size w w' := ball_any k i x w
theorem same_yes (v u : Value) (l : List Body) (w : World) (hl : Reads bodyE w v l) (hm : Reads bodyE w u l) : Calls Tryz.prog 25 #[v, u] w fun e w' => e = .returned (.bool true) ∧ Below w.heap.size w w' := by
  have := same_any v u l l w hl hm
  rwa [decide_eq_true rfl] at this
set_option maxRecDepth 100000 in
set_option maxHeartbeats 2000000 in
theorem awake28_any (w : World) (hg : Glob w) : Calls Tryz.prog 6 #[] w fun e w' => e = .returned (.bool true) ∧ Below w.heap.size w w' := by
  have HGL := Lib.hid hg
  have HW := Lib.hid world3_any
  clear hg
  go_enter Tryz.func6, Tryz.ntmps6
  go_upto_region 2 with (go_at_call 16; refine (ball_any _ _ _ _).mono ?_; rintro e w1 ⟨rfl, hb⟩; obtain ⟨g1, rfl⟩ := Grow.of hb; clear hb)
  have hb1 : Below w.heap.size w g1.world := (by repeat (first | with_reducible exact Below.refl _ _ | with_reducible refine bel_alloc ?_ _ | with_reducible refine bel_drewN ?_ _ | with_reducible refine bel_drew ?_ | with_reducible refine bel_grow ?_ _ | with_reducible refine bel_set ?_ (by first | omega | (simp; done) | (simp; omega)) _))
  refine (HW.out g1.world (HGL.out.below hb1)).mono ?_
  rintro e w2 ⟨p, F, rfl, h2, hf2, hb2⟩
  have H2 := Lib.hid h2
  have HF2 := Lib.hid hf2
  have HB2 := Lib.hid (hb1.trans (hb2.mono hb1.size))
  have hz1 := hb1.size
  clear h2 hf2 hb2 hb1
  go_wp2_with fail
  have hgw := HGL.out.below HB2.out
  refine (step2_any p w2 F H2.out hgw).mono ?_
  rintro e w3 ⟨rfl, h3⟩
  obtain ⟨F3, h3, ha3, hf3⟩ := h3
  have hB3 : Below w.heap.size w w3 := HB2.out.trans (ha3.below HB2.out.size fun k hk hf => by have := HF2.out k hf; omega)
  have H3 := Lib.hid h3
  have HB3 := Lib.hid hB3
  clear h3 ha3 hf3 hB3 hgw
  go_upto_region 3 with fail
  have HVW := Lib.hid fun W (hb : Below w3.heap.size w3 W) => worldView_s p W F3 twoN (H3.out.below hb)
  go_wp2_with fail
  refine (HVW.out _ (bel_alloc (Below.refl _ _) _)).mono ?_
  rintro e w4 ⟨v4, rfl, h4, hb4⟩
  rw [sortB_id two_ascN] at h4
  have hr4 := h4.reads (by decide)
  have hks : CellsAt w4 w3.heap.size #[.int .i64 1, .int .i64 1, .bool false] 64 := CellsAt.below (CellsAt.newAt rfl rfl) hb4 (by simp)
  obtain ⟨A4, c4, b4, o4, hv4, hA4, hx4⟩ := hr4.bodies
  have hv4' : v4 = .slice A4 2 c4 := hv4
  obtain ⟨rfl, hz4⟩ := hA4 (by decide)
  subst hv4'
  have HR4 := Lib.hid hr4
  have HX4 := Lib.hid hx4
  have HKS := Lib.hid hks
  have hB4 : Below w3.heap.size w3 w4 := (bel_alloc (Below.refl _ _) _).trans (hb4.mono (by simp))
  have HB4 := Lib.hid hB4
  clear h4 hb4 hr4 hB4 hv4 hA4 hx4 hks
  go_upto_region 6 with fail
  have HSN := Lib.hid (worldSnap_any p w4 F3 twoN (H3.out.below HB4.out) two_saneN)
  rw [sortB_id two_ascN] at HSN
  go_wp2_with fail
  refine HSN.out.mono ?_
  rintro e w5 ⟨v5, rfl, h5, hb5⟩
  have hr5 := h5.reads (by decide)
  obtain ⟨A5, c5, b5, o5, hv5, _⟩ := hr5.form
  have hv5' : v5 = .slice A5 88 c5 := hv5
  subst hv5'
  have HR5 := Lib.hid hr5
  have HB5 := Lib.hid hb5
  clear h5 hb5 hr5 hv5
  go_upto_region 7 with fail
  have HDC := Lib.hid (decode_any _ _ w5 HR5.out)
  rw [dec_bytes (fun b hb => (two_saneN b hb).fit), if_pos (by decide)] at HDC
  go_wp2_with fail
  refine HDC.out.mono ?_
  rintro e w6 ⟨v6, rfl, h6, hb6⟩
  have HR6 := Lib.hid h6
  have HB6 := Lib.hid hb6
  clear h6 hb6
  go_upto_region 8 with fail
  have hb46 : Below w4.heap.size w4 w6 := HB5.out.trans (HB6.out.mono HB5.out.size)
  have hBF : Below w.heap.size w w6 := HB3.out.trans ((HB4.out.trans (hb46.mono HB4.out.size)).mono HB3.out.size)
  have hR46 : Reads bodyE w6 (.slice (some ⟨b4, o4, none⟩) 2 c4) twoN := HR4.out.below hb46
  have kS := HKS.out.below hb46 HKS.out.lt
  have lS := kS.lt
  have kk11 : w6.cell? ⟨w3.heap.size, 0, none⟩ = some (.int .i64 1) := kS.at 0 rfl
  have kk12 : w6.cell? ⟨w3.heap.size, 1, none⟩ = some (.int .i64 1) := kS.at 1 rfl
  have kk13 : w6.cell? ⟨w3.heap.size, 2, none⟩ = some (.bool false) := kS.at 2 rfl
  obtain ⟨p0, p1, p2, p3, p4, p5, p6, p7, p8, p9⟩ := (HX4.out 0 (by decide)).below hb46
  obtain ⟨q0, q1, q2, q3, q4, q5, q6, q7, q8, q9⟩ := (HX4.out 1 (by decide)).below hb46
  have ix0 : ∀ W, (Instr.indexAt 38 (.slice (some ⟨b4, o4, none⟩) 2 c4) (.int .i64 0)).run Tryz.prog W = .ok (.pointer (some ⟨b4, o4, none⟩)) W := fun W => by have := idx_body (A := some ⟨b4, o4, none⟩) (c := c4) rfl (show 0 < 2 by omega) W; simpa using this
  have ix1 : ∀ W, (Instr.indexAt 38 (.slice (some ⟨b4, o4, none⟩) 2 c4) (.int .i64 1)).run Tryz.prog W = .ok (.pointer (some ⟨b4, o4 + 10, none⟩)) W := fun W => by have := idx_body (A := some ⟨b4, o4, none⟩) (c := c4) rfl (show 1 < 2 by omega) W; simpa using this
  simp only [Nat.zero_mul, Nat.one_mul, Nat.add_zero] at p0 p1 p2 p3 p4 p5 p6 p7 p8 p9 q0 q1 q2 q3 q4 q5 q6 q7 q8 q9
  have r0 : w6.cell? ⟨b4, o4, none⟩ = some (.int .u32 1) := p0
  have r1 : w6.cell? ⟨b4, o4 + 1, none⟩ = some (.int .i32 65536) := p1
  have r2 : w6.cell? ⟨b4, o4 + 2, none⟩ = some (.int .i32 0) := p2
  have r3 : w6.cell? ⟨b4, o4 + 3, none⟩ = some (.int .i32 0) := p3
  have r4 : w6.cell? ⟨b4, o4 + 4, none⟩ = some (.int .i32 0) := p4
  have r5 : w6.cell? ⟨b4, o4 + 5, none⟩ = some (.int .i32 0) := p5
  have r6 : w6.cell? ⟨b4, o4 + 6, none⟩ = some (.int .i32 100000) := p6
  have r7 : w6.cell? ⟨b4, o4 + 7, none⟩ = some (.int .i32 0) := p7
  have r8 : w6.cell? ⟨b4, o4 + 8, none⟩ = some (.int .i32 0) := p8
  have r9 : w6.cell? ⟨b4, o4 + 9, none⟩ = some (.int .i32 0) := p9
  have s6 : w6.cell? ⟨b4, o4 + 10 + 6, none⟩ = some (.int .i32 (-12019)) := q6
  have s7 : w6.cell? ⟨b4, o4 + 10 + 7, none⟩ = some (.int .i32 (-16)) := q7
  have s8 : w6.cell? ⟨b4, o4 + 10 + 8, none⟩ = some (.int .i32 0) := q8
  have s9 : w6.cell? ⟨b4, o4 + 10 + 9, none⟩ = some (.int .i32 (-1024)) := q9
  clear p0 p1 p2 p3 p4 p5 p6 p7 p8 p9 q0 q1 q2 q3 q4 q5 q6 q7 q8 q9
  obtain ⟨oB, hoB⟩ : ∃ oB, oB = o4 + 10 := ⟨_, rfl⟩
  rw [← hoB] at s6 s7 s8 s9 ix1
  have z4 : b4 < w6.heap.size := Nat.lt_of_lt_of_le hz4 hb46.size
  have e1 : eqB ⟨1, 65536, 0, 0, 0, 0, 100000, 0, 0, 0⟩ ⟨1, 65536, 0, 0, 0, 0, 100000, 0, 0, 0⟩ = true := by decide
  have e2 : eqV 0 (-1024) 0 (-1024) = true := by decide
  have e3 : eqV (-12019) (-16) (-12019) (-16) = true := by decide
  have HBF := Lib.hid hBF
  clear hb46 hBF kS hoB
  have HR6' := HR6.out
  refine wp_region_grow (by kernel_rfl) (by kernel_rfl) ?_
  repeat (first | go_big_quiet_skip | (go_big_quiet_want; go_big_quiet_op; first | go_big_quiet_on | (go_big_quiet_call (first
      | (go_at_call 16; exact Calls.grow_of (ball_fl _ _ _ _))
      | (go_at_call 25; exact Calls.grow_of (same_yes _ _ _ _ (HR6'.grow _) (hR46.grow _)))))))
  refine wpQuiet_nil ?_
  rintro _ ⟨g8, rfl⟩
  go_wp2
  go_ret
  exact ⟨rfl, bel_grow HBF.out g8⟩
end Go.Proofs.YtnhaiecbjipodaaGreatDoor
