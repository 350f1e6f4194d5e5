/- Contracts of the program's functions, by walks, and plain facts beside them: StoreAdd, StoreFst, World1, StoreGet, StoreSet, StoreSet2, StoreRem, Boxes. -/
import Derived.Test.YtnhaiecbjipodaaGreatDoorB18
import Derived.Deep.RegionHeld3
import Derived.Deep.DrawnRows
import Derived.Test.YtnhaiecbjipodaaGreatDoorB02
import Derived.Test.YtnhaiecbjipodaaGreatDoorB10
/- (*store.Store).Add: a full store, a new body. -/
namespace Go.Proofs.YtnhaiecbjipodaaGreatDoor
open Go.RowKit Go.Shelf Go.Proofs
attribute [local go_sem] Grow.cell Grow.froz Grow.lt lt_s1 lt_s2 lt_s3 lt_s4 lt_s5
set_option maxHeartbeats 2000000 in
theorem sAdd_full (p : Nat) (b : Body) (w : World) (F : Nat → Prop) (l : List Body) (v m : Value) (h : StoreIn w p F l v m) (hb : errOf b = 0) (hi : idx l b.key = none) (hl : l.length = 4096) :
    Calls Tryz.prog 32 #[.pointer (some ⟨p, 0, none⟩), .agg b.arr] w fun e w' => e = .returned (.int .i64 12) ∧ Below w.heap.size w w' := by
  have HC := fun W => check_flat b.key b.radius b.ax b.ay b.inv b.bounce b.px b.py b.vx b.vy W
  change ∀ W, Calls _ _ _ W fun e w' => e = .returned (.int .i64 (errOf b)) ∧ _ at HC
  rw [hb] at HC
  clear hb
  rcases h.ok with ⟨_, rfl⟩ | ⟨mb, es, rfl, _, hm, hg⟩
  · simp at hl
  have hgk : getM es b.key = none := by rw [hg, hi]; rfl
  have hB := h.blk
  have hp : p < w.heap.size := hB.lt
  have hmb : mb < w.heap.size := hm.lt
  obtain ⟨A, c, hv⟩ := h.own.form
  rw [hl] at hv
  subst hv
  have c0 : w.cell? ⟨p, 0, none⟩ = some (.slice A 4096 c) := hB.at 0 rfl
  have c1 : w.cell? ⟨p, 1, none⟩ = some (.map (some mb)) := hB.at 1 rfl
  clear hg hi h hl
  go_enter Tryz.func32, Tryz.ntmps32
  go_upto_region 6 with (go_at_call 71; refine (HC _).mono ?_; rintro e w1 ⟨rfl, hb⟩; obtain ⟨g1, rfl⟩ := Grow.of hb; clear hb)
  have q1 : p < g1.world.heap.size := Nat.lt_of_lt_of_le (by simp; omega) g1.le
  have HL : ∀ g : Grow g1.world, (Instr.lookup 72 (.map (some mb)) (.int .u32 b.key) true).run Tryz.prog g.world = .ok (.tuple #[.int .i64 0, .bool false]) g.world := fun g => by
    have := at_look (((hm.of_block (Below.heap_alloc w _ mb hmb)).of_block (g1.below.block mb (by simp; omega))).of_block (g.below.block mb (Nat.lt_of_lt_of_le (by simp; omega) g1.le))) b.key
    rw [hgk] at this
    exact this
  refine wp_region_grow (by kernel_rfl) (by kernel_rfl) ?_
  repeat (first | go_big_quiet_skip | (go_big_quiet_want; go_big_quiet_op; first | go_big_quiet_on))
  refine wpQuiet_nil ?_
  rintro _ ⟨g2, rfl⟩
  go_wp2
  go_ret
  exact ⟨rfl, (by repeat (first | with_reducible exact Below.refl _ _ | with_reducible refine bel_alloc ?_ _ | with_reducible refine bel_drewN ?_ _ | with_reducible refine bel_drew ?_ | with_reducible refine bel_grow ?_ _ | with_reducible refine bel_set ?_ (by first | omega | (simp; done) | (simp; omega)) _))⟩

theorem idx_append_ne {l : List Body} {b : Body} {k : Int} (h : ¬ b.key = k) : idx (l ++ [b]) k = idx l k := by
  unfold idx
  rw [List.findIdx?_append]
  cases l.findIdx? (fun b => decide (b.key = k)) <;> simp [h]
theorem idx_append_new {l : List Body} {b : Body} (h : idx l b.key = none) : idx (l ++ [b]) b.key = some l.length := by
  unfold idx at *
  rw [List.findIdx?_append, h]
  simp
theorem getM_put (es : List (Int × Value)) (k k' : Int) (v : Value) : getM (putM es k v) k' = if k' = k then some v else getM es k' := by
  unfold putM
  by_cases ha : (es.any fun p => p.1 = k) = true
  · rw [if_pos ha]
    unfold getM
    by_cases hk : k' = k
    · subst hk
      rw [if_pos rfl]
      induction es with
      | nil => simp at ha
      | cons e r ih =>
        by_cases he : e.1 = k'
        · simp [he]
        · simp [he] at ha ⊢
          simpa using ih (by simpa using ha)
    · rw [if_neg hk]
      clear ha
      induction es with
      | nil => rfl
      | cons e r ih =>
        by_cases he : e.1 = k
        · have : ¬ k = k' := fun e => hk e.symm
          simp [he, this]
          simpa using ih
        · by_cases h2 : e.1 = k'
          · subst h2; simp [he]
          · simp [he, h2]
            simpa using ih
  · rw [if_neg ha]
    have hn : ∀ p ∈ es, ¬ p.1 = k := fun p hp e => ha (List.any_eq_true.2 ⟨p, hp, by simpa using e⟩)
    unfold getM
    rw [List.find?_append]
    by_cases hk : k' = k
    · subst hk
      rw [if_pos rfl, show es.find? (fun p => decide (p.1 = k')) = none from by rw [List.find?_eq_none]; simpa using hn]
      simp
    · rw [if_neg hk]
      have : ¬ k = k' := fun e => hk e.symm
      cases es.find? (fun p => decide (p.1 = k')) <;> simp [this]

section
variable {P : Program} {ops : Array Oper} {rest : List Oper} {o : Oper} {a : Act} {Q : Exit → Act → World → Prop}
theorem own_append' {α : Type} (E : Enc α) {W : World} (base : Nat) (hgd : o.guard = none) (s x : Operand) (t e : TypeId) (z : Value) (bytes : Nat)
    (ho : o.op = .call { callee := .builtin .append, args := #[s, x], argTypes := #[t, t] })
    (ht : P.underlying t = some (.slice e)) (hinfo : (P.info? e).map (fun i => (i.zero, i.size, i.bytes)) = some (some z, E.sz, bytes)) (hz : z.cells.size = E.sz) (hb0 : 0 < bytes)
    (v : Value) (l : List α) (y : α) (cs : Array Value) (hcs : cs.toList = E.cells y) (hs : a.eval s = v) (hx : a.eval x = .slice (some ⟨W.heap.size, 0, none⟩) 1 1)
    (HO : Own E e W base v l) (hbase : base ≤ W.heap.size) (hl : (l.length + 1) * bytes ≤ 140737488355328)
    (h : ∀ v1 w1, Own E e w1 base v1 (l ++ [y]) → W.grownBy w1 v.ownBlock → (v1.ownBlock = v.ownBlock ∨ v1.ownBlock = some (W.heap.size + 1)) → wpList P ops Q rest (a.put o.dst v1) w1) :
    wpList P ops Q (o :: rest) a (W.alloc (.cells cs e)) := by
  obtain ⟨i0, hi, hzz⟩ := Option.map_eq_some_iff.1 hinfo
  simp only [Prod.mk.injEq] at hzz
  obtain ⟨hz0, hz1, hz2⟩ := hzz
  have hlen : l.length + 1 ≤ 140737488355328 := Nat.le_trans (Nat.le_mul_of_pos_right _ hb0) hl
  refine wpList_append_own_at (W.alloc (.cells cs e)) hgd s x t ho base e i0 z E.sz bytes ht hi hz0 hz1 hz2 hz E.pos v l.length (l.flatMap E.cells) hs (World.ownsRow.alloc HO _) ⟨W.heap.size, 0, none⟩ 1 1 (E.cells y) hx (by rw [E.len]; omega)
    (fun j u hu => World.news_of_block (cs := cs) (t := e) (fr := (0, 0)) (heap_alloc_new W _) j u (by rw [hcs]; exact hu)) (E.one y) (by simp only [maxLen]; omega) hl (by simp; omega) ?_
  intro v1 w1 hown hg _ hblk
  refine h v1 w1 ?_ (World.grownBy.trans (World.grownBy_alloc W (.cells cs e) _) hg) (by simpa using hblk)
  unfold Own
  rw [List.length_append, List.flatMap_append]
  simpa using hown
end
section
variable {P : Program} {ops : Array Oper} {q : Oper} {a : Act} {K : Act → World → Prop} {Q : Exit → Act → World → Prop} {C : Prop}
theorem step_own {α : Type} (hgd : q.guard = none) (E : Enc α) {W : World} (base : Nat) (s x : Operand) (t e : TypeId) (z : Value) (bytes : Nat)
    (ho : q.op = .call { callee := .builtin .append, args := #[s, x], argTypes := #[t, t] })
    (ht : P.underlying t = some (.slice e)) (hinfo : (P.info? e).map (fun i => (i.zero, i.size, i.bytes)) = some (some z, E.sz, bytes)) (hz : z.cells.size = E.sz) (hb0 : 0 < bytes)
    (v : Value) (l : List α) (y : α) (cs : Array Value) (hcs : cs.toList = E.cells y) (hs : a.eval s = v) (hx : a.eval x = .slice (some ⟨W.heap.size, 0, none⟩) 1 1)
    (HO : Own E e W base v l) (hbase : base ≤ W.heap.size) (hl : (l.length + 1) * bytes ≤ 140737488355328)
    (h : ∀ v1 w1, Own E e w1 base v1 (l ++ [y]) → W.grownBy w1 v.ownBlock → (v1.ownBlock = v.ownBlock ∨ v1.ownBlock = some (W.heap.size + 1)) → K (a.put q.dst v1) w1) :
    if Region.wanted q (yielded ops a.tmps) = true then Oper.wp P q a (W.alloc (.cells cs e)) K Q else C := by
  have hw : Region.wanted q (yielded ops a.tmps) = true := by simp [Region.wanted, hgd]
  rw [if_pos hw]
  obtain ⟨i0, hi, hz0, hz1, hz2⟩ := info_parts hinfo
  have hlen : l.length + 1 ≤ 140737488355328 := Nat.le_trans (Nat.le_mul_of_pos_right _ hb0) hl
  refine wp_append_lies (W.alloc (.cells cs e)) s x t ho base e i0 z E.sz bytes ht hi hz0 hz1 hz2 hz E.pos v l.length (l.flatMap E.cells) hs (Own.alloc HO _) ⟨W.heap.size, 0, none⟩ 1 1 (E.cells y) hx (by rw [E.len]; omega)
      (fun j u hu => World.news_of_block (cs := cs) (t := e) (fr := (0, 0)) (heap_alloc_new W _) j u (by rw [hcs]; exact hu)) (E.one y) (by decide) (by simp only [maxLen]; omega) hl (by simp; omega) _ rfl ?_
  intro g cap w1 hown hg hat hlt
  refine h _ w1 ?_ (World.grownBy.trans (World.grownBy_alloc W (.cells cs e) _) hg) ?_
  · unfold Own
    rw [List.length_append, List.flatMap_append, show [y].flatMap E.cells = E.cells y from by simp]
    exact hown
  · rcases hat with hat | hat
    · exact .inl (by rw [hat]; rfl)
    · exact .inr (by rw [hat]; simp [Value.ownBlock])
end
theorem MapAt.ne_cells {κ : Type} [DecidableEq κ] {P : Program} {kt : TypeId} {K : MKey P kt κ} {w : World} {b p : Nat} {l : List (κ × Value)} {cs : Array Value} {t : TypeId} (h : MapAt K w b l) (hc : CellsAt w p cs t) : b ≠ p := by
  rintro rfl
  obtain ⟨es, c, h1, _⟩ := h
  have := hc.symm.trans h1
  simp at this
theorem atSome (bm : Nat) (w : World) : (binOp .eql 72 (.map (some bm)) (.map none)).run Tryz.prog w = .ok (.bool false) w := by kernel_rfl
theorem atNone (w : World) : (binOp .eql 72 (.map none) (.map none)).run Tryz.prog w = .ok (.bool true) w := by kernel_rfl
set_option maxRecDepth 100000 in
set_option maxHeartbeats 4000000 in
theorem sAdd_new (p : Nat) (b : Body) (w : World) (F : Nat → Prop) (l : List Body) (v : Value) (mb : Nat) (es : List (Int × Value)) (h : StoreIn w p F l v (.map (some mb))) (hF : F mb) (hm : MapAt atKey w mb es) (hg : ∀ k, getM es k = (idx l k).map fun (i : Nat) => Value.int .i64 (i : Int)) (hb : errOf b = 0) (hi : idx l b.key = none) (hl : l.length < 4096) :
    Calls Tryz.prog 32 #[.pointer (some ⟨p, 0, none⟩), .agg b.arr] w fun e w' => e = .returned (.int .i64 0) ∧ ∃ F', StoreAt w' p F' (l ++ [b]) ∧ Alter F w w' ∧ ∀ k, F' k → F k ∨ w.heap.size ≤ k := by
  have HC := fun W => check_flat b.key b.radius b.ax b.ay b.inv b.bounce b.px b.py b.vx b.vy W
  change ∀ W, Calls _ _ _ W fun e w' => e = .returned (.int .i64 (errOf b)) ∧ _ at HC
  rw [hb] at HC
  clear hb
  have hgk : getM es b.key = none := by rw [hg, hi]; rfl
  have hB := h.blk
  have hp : p < w.heap.size := hB.lt
  have hmb : mb < w.heap.size := hm.lt
  have hne := hm.ne_cells hB
  obtain ⟨A, c, hv⟩ := h.own.form
  have hO := h.own
  have hfo := h.fo
  have hvp := h.ne
  have hfp := h.fp
  have hnd := h.nodup
  have hvlt : ∀ k, v.ownBlock = some k → k < w.heap.size := fun k hk => by
    rcases hO.2 with ⟨rfl, _⟩ | ⟨g, cap, cur, rfl, _, h3, _⟩
    · simp [Value.ownBlock] at hk
    · obtain rfl : g = k := by simpa [Value.ownBlock] using hk
      exact lt_of_block h3
  have hvm : ∀ k, v.ownBlock = some k → k ≠ mb := fun k hk e => by
    rcases hO.2 with ⟨rfl, _⟩ | ⟨g, cap, cur, rfl, _, h3, _⟩
    · simp [Value.ownBlock] at hk
    · obtain rfl : g = k := by simpa [Value.ownBlock] using hk
      exact hm.ne_cells h3 e.symm
  have HX := Lib.hid (And.intro hO (And.intro hfo (And.intro hvp (And.intro hnd (And.intro hg (And.intro hi (And.intro hvlt hvm)))))))
  clear hO hfo hvp hnd hg hi hvlt hvm h
  obtain ⟨n, hn⟩ : ∃ n, n = l.length := ⟨_, rfl⟩
  rw [← hn] at hv hl
  have HN := Lib.hid hn
  clear hn
  have hl4 : (n : Int) < 4096 := by omega
  have HLN := Lib.hid hl
  clear hl
  have c0 : w.cell? ⟨p, 0, none⟩ = some (.slice A n c) := by rw [← hv]; exact hB.at 0 rfl
  have c1 : w.cell? ⟨p, 1, none⟩ = some (.map (some mb)) := hB.at 1 rfl
  have HV := Lib.hid hv
  clear hv
  go_enter Tryz.func32, Tryz.ntmps32
  go_upto_region 6 with (go_at_call 71; refine (HC _).mono ?_; rintro e w1 ⟨rfl, hb⟩; obtain ⟨g1, rfl⟩ := Grow.of hb; clear hb)
  have q1 : p < g1.world.heap.size := Nat.lt_of_lt_of_le (by simp; omega) g1.le
  have q1' : w.heap.size < g1.world.heap.size := Nat.lt_of_lt_of_le (by simp) g1.le
  have HL : ∀ g : Grow g1.world, (Instr.lookup 72 (.map (some mb)) (.int .u32 b.key) true).run Tryz.prog g.world = .ok (.tuple #[.int .i64 0, .bool false]) g.world := fun g => by
    have := at_look (((hm.of_block (Below.heap_alloc w _ mb hmb)).of_block (g1.below.block mb (by simp; omega))).of_block (g.below.block mb (Nat.lt_of_lt_of_le (by simp; omega) g1.le))) b.key
    rw [hgk] at this
    exact this
  refine wp_region_grow (by kernel_rfl) (by kernel_rfl) ?_
  repeat (first | go_big_quiet_skip | (go_big_quiet_want; go_big_quiet_op; first | go_big_quiet_on))
  refine wpQuiet_nil ?_
  rintro _ ⟨g2, rfl⟩
  have q2 : p < g2.world.heap.size := Nat.lt_of_lt_of_le q1 g2.le
  have q2' : w.heap.size < g2.world.heap.size := Nat.lt_of_lt_of_le q1' g2.le
  have qE := atSome
  go_upto_region 13 with fail
  refine wp_region_grow_tail 11 (by kernel_rfl) (by kernel_rfl) ?_
  simp only [List.take_succ_cons, List.take_zero]
  repeat (first | go_big_quiet_skip | (go_big_quiet_want; go_big_quiet_op; first | go_big_quiet_on))
  refine wpQuiet_nil ?_
  rintro _ ⟨g3, rfl⟩
  simp only [List.drop_succ_cons, List.drop_zero]
  have hb3 : Below w.heap.size w g3.world := (by repeat (first | with_reducible exact Below.refl _ _ | with_reducible refine bel_alloc ?_ _ | with_reducible refine bel_drewN ?_ _ | with_reducible refine bel_drew ?_ | with_reducible refine bel_grow ?_ _ | with_reducible refine bel_set ?_ (by first | omega | (simp; done) | (simp; omega)) _))
  have hX3 : CellsAt g3.world w.heap.size b.arr 27 := (by repeat (first | with_reducible exact CellsAt.newAt (by first | rfl | (simp; done) | omega) rfl | with_reducible refine CellsAt.alloc ?_ _ | with_reducible refine CellsAt.drewN ?_ _ | with_reducible refine CellsAt.drew ?_ | with_reducible refine CellsAt.grow ?_ _ | with_reducible refine CellsAt.far ?_ (by first | omega | (simp; done) | (simp; omega)) _))
  have hB3 := hB.below hb3 hp
  have hm3 := hm.of_block (hb3.block mb hmb)
  have hO3 := HX.out.1.below (by exact hb3)
  refine wpList_store (K := atKey) rfl (.tmp 44) (.tmp 46) (.tmp 51) 72 3 rfl Tryz.underlying72 mb es b.key (.int .i64 n) rfl rfl rfl hm3 ?_
  intro w4 hm4 hg4 hs4
  have hB4 : CellsAt w4 p _ _ := hB3.of_block (hg4.block p hB3.lt (fun e => hne (by simpa using e.symm)))
  have hX4 : CellsAt w4 w.heap.size _ _ := hX3.of_block (hg4.block _ hX3.lt (fun e => absurd (show w.heap.size = mb by simpa using e) (by omega)))
  have hO4 : Own bodyE 27 w4 0 v l := own_block hO3 fun k hk hlt => hg4.block k hlt (fun e => HX.out.2.2.2.2.2.2.2 k hk (by simpa using e))
  have q4 := hB4.lt
  have q4' := hX4.lt
  have d0 : w4.cell? ⟨p, 0, none⟩ = some (.slice A n c) := by rw [← HV.out]; exact hB4.at 0 rfl
  have kk1 : w4.cell? ⟨w.heap.size, 0, none⟩ = some (.int .u32 b.key) := hX4.at 0 rfl
  have kk2 : w4.cell? ⟨w.heap.size, 1, none⟩ = some (.int .i32 b.radius) := hX4.at 1 rfl
  have kk3 : w4.cell? ⟨w.heap.size, 2, none⟩ = some (.int .i32 b.ax) := hX4.at 2 rfl
  have kk4 : w4.cell? ⟨w.heap.size, 3, none⟩ = some (.int .i32 b.ay) := hX4.at 3 rfl
  have kk5 : w4.cell? ⟨w.heap.size, 4, none⟩ = some (.int .i32 b.inv) := hX4.at 4 rfl
  have kk6 : w4.cell? ⟨w.heap.size, 5, none⟩ = some (.int .i32 b.bounce) := hX4.at 5 rfl
  have kk7 : w4.cell? ⟨w.heap.size, 6, none⟩ = some (.int .i32 b.px) := hX4.at 6 rfl
  have kk8 : w4.cell? ⟨w.heap.size, 7, none⟩ = some (.int .i32 b.py) := hX4.at 7 rfl
  have kk9 : w4.cell? ⟨w.heap.size, 8, none⟩ = some (.int .i32 b.vx) := hX4.at 8 rfl
  have kk10 : w4.cell? ⟨w.heap.size, 9, none⟩ = some (.int .i32 b.vy) := hX4.at 9 rfl
  go_upto_region 14 with fail
  have HO4 := Lib.hid hO4
  have HB4 := Lib.hid hB4
  have hlv : ∀ k, k < g3.world.heap.size → k < w4.heap.size := fun k hk => Nat.lt_of_lt_of_le hk hg4.size
  have A4 : Alter F w w4 := (Alter.of_below hb3 F).trans (T := F) (Alter.of_grown hg4 hF) (fun _ _ h => h)
  have hm4' := Lib.hid hm4
  have FIN : ∀ (w5 : World) (A6 : Option Addr) (n6 c6 : Nat), Own bodyE 27 w5 0 (.slice A6 n6 c6) (l ++ [b]) → w4.drew.grownBy w5 (Value.ownBlock (.slice A n c)) → (Value.ownBlock (.slice A6 n6 c6) = Value.ownBlock (.slice A n c) ∨ Value.ownBlock (.slice A6 n6 c6) = some (w4.drew.heap.size + 1)) →
      ∃ F', StoreAt (w5.setCell ⟨p, 0, none⟩ (.slice A6 n6 c6)) p F' (l ++ [b]) ∧ Alter F w (w5.setCell ⟨p, 0, none⟩ (.slice A6 n6 c6)) ∧ ∀ k, F' k → F k ∨ w.heap.size ≤ k := by
    intro w5 A6 n6 c6 hO6 hg5 hk5
    rw [← HV.out] at hg5 hk5
    obtain ⟨_, xfo, xvp, xnd, xg, xi, xvl, xvm⟩ := HX.out
    have hsz4 : w.heap.size ≤ w4.heap.size := A4.size
    have hB5 : CellsAt w5 p #[v, .map (some mb)] 78 := CellsAt.of_block (w := w4) HB4.out (hg5.block p q4 (fun e => xvp e.symm))
    have hm5 : MapAt atKey w5 mb _ := hm4'.out.of_block (hg5.block mb hm4'.out.lt (fun e => xvm mb e.symm rfl))
    have hn6 : ∀ k, Value.ownBlock (.slice A6 n6 c6) = some k → k ≠ p := fun k hk e => by
      rcases hk5 with h5 | h5
      · exact xvp (by rw [← h5, hk, e])
      · rw [hk] at h5
        have : k = w4.heap.size + 1 := by simpa using h5
        omega
    refine ⟨fun k => F k ∨ Value.ownBlock (.slice A6 n6 c6) = some k, ⟨_, _, (hB5.set 0 _).eq (by simp), .inl hfp, own_block hO6 fun k hk _ => Below.heap_setCell _ _ _ _ (hn6 k hk), fun k hk => .inr hk, ?_, ?_, .inr ⟨mb, _, rfl, .inl hF, hm5.of_block (Below.heap_setCell _ _ _ _ hne), fun k => ?_⟩⟩, alter_set (Alter.trans (T := F) (w' := w4.drew) (alter_drew A4) (Alter.of_grown_none hg5 xfo) (fun _ _ h => h)) (.inl hfp) _, fun k hk => ?_⟩
    · rw [List.map_append, List.nodup_append]
      refine ⟨xnd, by simp, ?_⟩
      intro a ha
      simp
      rintro rfl
      obtain ⟨x, hx, e⟩ := List.mem_map.1 ha
      have := (List.findIdx?_eq_none_iff.1 xi) x hx
      simp at this
      exact this e
    · have := HLN.out
      rw [HN.out] at this
      simp
      omega
    · rw [getM_put]
      by_cases hk : k = b.key
      · subst hk
        rw [if_pos rfl, idx_append_new xi, HN.out]
        rfl
      · rw [if_neg hk, idx_append_ne (fun e => hk e.symm), xg]
    · rcases hk with hk | hk
      · exact .inl hk
      · rcases hk5 with h5 | h5
        · exact .inl (xfo k (by rw [← h5, hk]))
        · rw [hk] at h5
          have : k = w4.heap.size + 1 := by simpa using h5
          exact .inr (by omega)
  clear hO4 hO3 hB3 hX3 hm3 hB4 hs4 hm4 A4 hlv
  have hb4 : Value.ownBlock (.slice A n c) ≠ some p := by rw [← HV.out]; exact HX.out.2.2.1
  have hb5 : Value.ownBlock (.slice A n c) ≠ some w.heap.size := fun e => by
    rw [← HV.out] at e
    have := HX.out.2.2.2.2.2.2.1 _ e
    omega
  have HK : ∀ w', w4.drew.grownBy w' (Value.ownBlock (.slice A n c)) → w'.cell? ⟨w.heap.size, 0, none⟩ = some (.int .u32 b.key) ∧ w'.cell? ⟨w.heap.size, 1, none⟩ = some (.int .i32 b.radius) ∧ w'.cell? ⟨w.heap.size, 2, none⟩ = some (.int .i32 b.ax) ∧ w'.cell? ⟨w.heap.size, 3, none⟩ = some (.int .i32 b.ay) ∧ w'.cell? ⟨w.heap.size, 4, none⟩ = some (.int .i32 b.inv) ∧ w'.cell? ⟨w.heap.size, 5, none⟩ = some (.int .i32 b.bounce) ∧ w'.cell? ⟨w.heap.size, 6, none⟩ = some (.int .i32 b.px) ∧ w'.cell? ⟨w.heap.size, 7, none⟩ = some (.int .i32 b.py) ∧ w'.cell? ⟨w.heap.size, 8, none⟩ = some (.int .i32 b.vx) ∧ w'.cell? ⟨w.heap.size, 9, none⟩ = some (.int .i32 b.vy) := fun w' hg => by
    have e1 : ∀ o, w'.cell? ⟨w.heap.size, o, none⟩ = w4.cell? ⟨w.heap.size, o, none⟩ := fun o => World.cell?_of_block (hg.block _ q4' (fun e => hb5 e.symm))
    exact ⟨(e1 0).trans (hX4.at 0 rfl), (e1 1).trans (hX4.at 1 rfl), (e1 2).trans (hX4.at 2 rfl), (e1 3).trans (hX4.at 3 rfl), (e1 4).trans (hX4.at 4 rfl), (e1 5).trans (hX4.at 5 rfl), (e1 6).trans (hX4.at 6 rfl), (e1 7).trans (hX4.at 7 rfl), (e1 8).trans (hX4.at 8 rfl), (e1 9).trans (hX4.at 9 rfl)⟩
  have HS : ∀ w' u, w4.drew.grownBy w' (Value.ownBlock (.slice A n c)) → (fun w' : World => w'.cell? ⟨w.heap.size, 0, none⟩ = some (.int .u32 b.key) ∧ w'.cell? ⟨w.heap.size, 1, none⟩ = some (.int .i32 b.radius) ∧ w'.cell? ⟨w.heap.size, 2, none⟩ = some (.int .i32 b.ax) ∧ w'.cell? ⟨w.heap.size, 3, none⟩ = some (.int .i32 b.ay) ∧ w'.cell? ⟨w.heap.size, 4, none⟩ = some (.int .i32 b.inv) ∧ w'.cell? ⟨w.heap.size, 5, none⟩ = some (.int .i32 b.bounce) ∧ w'.cell? ⟨w.heap.size, 6, none⟩ = some (.int .i32 b.px) ∧ w'.cell? ⟨w.heap.size, 7, none⟩ = some (.int .i32 b.py) ∧ w'.cell? ⟨w.heap.size, 8, none⟩ = some (.int .i32 b.vx) ∧ w'.cell? ⟨w.heap.size, 9, none⟩ = some (.int .i32 b.vy)) (w'.setCell ⟨p, 0, none⟩ u) := fun w' u hg => by
    have e1 : ∀ o, (w'.setCell ⟨p, 0, none⟩ u).cell? ⟨w.heap.size, o, none⟩ = w4.cell? ⟨w.heap.size, o, none⟩ := fun o => (World.cell?_of_block (Below.heap_setCell w' ⟨p, 0, none⟩ u w.heap.size (fun e => by simp at e; omega))).trans (World.cell?_of_block (hg.block _ q4' (fun e => hb5 e.symm)))
    exact ⟨(e1 0).trans (hX4.at 0 rfl), (e1 1).trans (hX4.at 1 rfl), (e1 2).trans (hX4.at 2 rfl), (e1 3).trans (hX4.at 3 rfl), (e1 4).trans (hX4.at 4 rfl), (e1 5).trans (hX4.at 5 rfl), (e1 6).trans (hX4.at 6 rfl), (e1 7).trans (hX4.at 7 rfl), (e1 8).trans (hX4.at 8 rfl), (e1 9).trans (hX4.at 9 rfl)⟩
  have HF5 : ∀ w', w4.drew.grownBy w' (Value.ownBlock (.slice A n c)) → CellsAt w' p #[.slice A n c, .map (some mb)] 78 := fun w' hg => by
    rw [← HV.out]
    exact CellsAt.of_block (w := w4) HB4.out (hg.block p q4 (fun e => hb4 e.symm))
  go_region_law
    (first
      | (refine step_own (W := w4.drew) rfl bodyE 0 (.tmp 56) (.tmp 58) 38 27 _ 40 (by rfl) Tryz.underlying38 bdInfo rfl (by decide) (.slice A n c) l b b.arr rfl rfl rfl (by rw [← HV.out]; exact HO4.out) (Nat.zero_le _) (by have := HLN.out; rw [← HN.out]; omega) ?_; intro v1 w5 hO6 hg5 hk5; obtain ⟨A6, n6, c6, rfl⟩ : ∃ A6 n6 c6, v1 = .slice A6 n6 c6 := (have ⟨A6, c6, e6⟩ := hO6.form; ⟨A6, _, c6, e6⟩); have hB5 := HF5 _ hg5; have f5 : w5.frozen? ⟨p, 0, none⟩ = false := hB5.froz 0; have d5 : w5.cell? ⟨p, 0, none⟩ = some (.slice A n c) := hB5.at 0 rfl; have l5 := hB5.lt))
  all_goals
    have HE := FIN _ _ _ _ hO6 hg5 hk5
    clear FIN
    go_wp2
    go_ret
    exact ⟨rfl, HE⟩
end Go.Proofs.YtnhaiecbjipodaaGreatDoor
/- (*store.Store).Add: the first body of a store whose map is nil. -/
namespace Go.Proofs.YtnhaiecbjipodaaGreatDoor
open Go.RowKit Go.Shelf Go.Proofs
attribute [local go_sem] Grow.cell Grow.froz Grow.lt lt_s1 lt_s2 lt_s3 lt_s4 lt_s5
set_option maxRecDepth 100000 in
set_option maxHeartbeats 4000000 in
theorem sAdd_first (p : Nat) (b : Body) (w : World) (F : Nat → Prop) (l : List Body) (v : Value) (h : StoreIn w p F l v (.map none)) (hl0 : l = []) (hb : errOf b = 0) :
    Calls Tryz.prog 32 #[.pointer (some ⟨p, 0, none⟩), .agg b.arr] w fun e w' => e = .returned (.int .i64 0) ∧ ∃ F', StoreAt w' p F' (l ++ [b]) ∧ Alter F w w' ∧ ∀ k, F' k → F k ∨ w.heap.size ≤ k := by
  have HC := fun W => check_flat b.key b.radius b.ax b.ay b.inv b.bounce b.px b.py b.vx b.vy W
  change ∀ W, Calls _ _ _ W fun e w' => e = .returned (.int .i64 (errOf b)) ∧ _ at HC
  rw [hb] at HC
  clear hb
  have hl : l.length < 4096 := by subst hl0; simp
  have hg : ∀ k, getM ([] : List (Int × Value)) k = (idx l k).map fun (i : Nat) => Value.int .i64 (i : Int) := fun k => by subst hl0; rfl
  have hi : idx l b.key = none := by subst hl0; rfl
  clear hl0
  have hB := h.blk
  have hp : p < w.heap.size := hB.lt
  obtain ⟨A, c, hv⟩ := h.own.form
  have hO := h.own
  have hfo := h.fo
  have hvp := h.ne
  have hfp := h.fp
  have hnd := h.nodup
  have hvlt : ∀ k, v.ownBlock = some k → k < w.heap.size := fun k hk => by
    rcases hO.2 with ⟨rfl, _⟩ | ⟨g, cap, cur, rfl, _, h3, _⟩
    · simp [Value.ownBlock] at hk
    · obtain rfl : g = k := by simpa [Value.ownBlock] using hk
      exact lt_of_block h3
  have HX := Lib.hid (And.intro hO (And.intro hfo (And.intro hvp (And.intro hnd (And.intro hg (And.intro hi hvlt))))))
  clear hO hfo hvp hnd hg hi hvlt h
  obtain ⟨n, hn⟩ : ∃ n, n = l.length := ⟨_, rfl⟩
  rw [← hn] at hv hl
  have HN := Lib.hid hn
  clear hn
  have hl4 : (n : Int) < 4096 := by omega
  have HLN := Lib.hid hl
  clear hl
  have c0 : w.cell? ⟨p, 0, none⟩ = some (.slice A n c) := by rw [← hv]; exact hB.at 0 rfl
  have c1 : w.cell? ⟨p, 1, none⟩ = some (.map none) := hB.at 1 rfl
  have f1 : w.frozen? ⟨p, 1, none⟩ = false := hB.froz 1
  have HV := Lib.hid hv
  clear hv
  go_enter Tryz.func32, Tryz.ntmps32
  go_upto_region 6 with (go_at_call 71; refine (HC _).mono ?_; rintro e w1 ⟨rfl, hb⟩; obtain ⟨g1, rfl⟩ := Grow.of hb; clear hb)
  have q1 : p < g1.world.heap.size := Nat.lt_of_lt_of_le (by simp; omega) g1.le
  have q1' : w.heap.size < g1.world.heap.size := Nat.lt_of_lt_of_le (by simp) g1.le
  have HL : ∀ g : Grow g1.world, (Instr.lookup 72 (.map none) (.int .u32 b.key) true).run Tryz.prog g.world = .ok (.tuple #[.int .i64 0, .bool false]) g.world := fun g => nil_look _ _
  refine wp_region_grow (by kernel_rfl) (by kernel_rfl) ?_
  repeat (first | go_big_quiet_skip | (go_big_quiet_want; go_big_quiet_op; first | go_big_quiet_on))
  refine wpQuiet_nil ?_
  rintro _ ⟨g2, rfl⟩
  have q2 : p < g2.world.heap.size := Nat.lt_of_lt_of_le q1 g2.le
  have q2' : w.heap.size < g2.world.heap.size := Nat.lt_of_lt_of_le q1' g2.le
  have qE := atNone
  have qM : ∀ w : World, (Instr.makeMap 72 none).run Tryz.prog w = .ok (.map (some w.heap.size)) (w.alloc (.map #[] 0)) := fun _ => rfl
  go_upto_region 13 with fail
  obtain ⟨mb, hmbe⟩ : ∃ mb, mb = g2.world.heap.size := ⟨_, rfl⟩
  have hb2 : Below w.heap.size w g2.world := (by repeat (first | with_reducible exact Below.refl _ _ | with_reducible refine bel_alloc ?_ _ | with_reducible refine bel_drewN ?_ _ | with_reducible refine bel_drew ?_ | with_reducible refine bel_grow ?_ _ | with_reducible refine bel_set ?_ (by first | omega | (simp; done) | (simp; omega)) _))
  have hX2 : CellsAt g2.world w.heap.size b.arr 27 := (by repeat (first | with_reducible exact CellsAt.newAt (by first | rfl | (simp; done) | omega) rfl | with_reducible refine CellsAt.alloc ?_ _ | with_reducible refine CellsAt.drewN ?_ _ | with_reducible refine CellsAt.drew ?_ | with_reducible refine CellsAt.grow ?_ _ | with_reducible refine CellsAt.far ?_ (by first | omega | (simp; done) | (simp; omega)) _))
  have hne : mb ≠ p := by omega
  obtain ⟨W, hW⟩ : ∃ W, W = (g2.world.setCell ⟨p, 1, none⟩ (.map (some g2.world.heap.size))).alloc (.map #[] 0) := ⟨_, rfl⟩
  have hX3 : CellsAt W w.heap.size b.arr 27 := by rw [hW]; exact (hX2.far (by omega) _).alloc _
  have hB3 : CellsAt W p #[v, .map (some mb)] 78 := by
    rw [hmbe, hW]
    exact (((hB.below hb2 hp).set 1 (.map (some g2.world.heap.size))).alloc (.map #[] 0)).eq (by simp)
  have hm3 : MapAt atKey W mb [] := by
    rw [hW, show mb = (g2.world.setCell ⟨p, 1, none⟩ (.map (some g2.world.heap.size))).heap.size by simp [hmbe]]
    exact MapAt.made _
  have hO3 : Own bodyE 27 W 0 v l := own_block HX.out.1 fun k hk hlt => by
    rw [hW]
    exact (Below.heap_alloc _ _ _ (by simpa using Nat.lt_of_lt_of_le hlt hb2.size)).trans ((Below.heap_setCell _ _ _ _ (fun e => HX.out.2.2.1 (by rw [hk]; exact congrArg some e))).trans (hb2.block k hlt))
  have A3 : Alter (fun k => k = p) w W := by rw [hW]; exact alter_alloc (alter_set (S := fun k => k = p) (Alter.of_below hb2 _) (.inl rfl) _) _
  have hmbw : w.heap.size < mb := by omega
  rw [← hW]
  clear hW hmbe
  have q3 := hB3.lt
  have q3' := hX3.lt
  have d0 : W.cell? ⟨p, 0, none⟩ = some (.slice A n c) := by rw [← HV.out]; exact hB3.at 0 rfl
  have d1 : W.cell? ⟨p, 1, none⟩ = some (.map (some mb)) := hB3.at 1 rfl
  have kk1 : W.cell? ⟨w.heap.size, 0, none⟩ = some (.int .u32 b.key) := hX3.at 0 rfl
  have kk2 : W.cell? ⟨w.heap.size, 1, none⟩ = some (.int .i32 b.radius) := hX3.at 1 rfl
  have kk3 : W.cell? ⟨w.heap.size, 2, none⟩ = some (.int .i32 b.ax) := hX3.at 2 rfl
  have kk4 : W.cell? ⟨w.heap.size, 3, none⟩ = some (.int .i32 b.ay) := hX3.at 3 rfl
  have kk5 : W.cell? ⟨w.heap.size, 4, none⟩ = some (.int .i32 b.inv) := hX3.at 4 rfl
  have kk6 : W.cell? ⟨w.heap.size, 5, none⟩ = some (.int .i32 b.bounce) := hX3.at 5 rfl
  have kk7 : W.cell? ⟨w.heap.size, 6, none⟩ = some (.int .i32 b.px) := hX3.at 6 rfl
  have kk8 : W.cell? ⟨w.heap.size, 7, none⟩ = some (.int .i32 b.py) := hX3.at 7 rfl
  have kk9 : W.cell? ⟨w.heap.size, 8, none⟩ = some (.int .i32 b.vx) := hX3.at 8 rfl
  have kk10 : W.cell? ⟨w.heap.size, 9, none⟩ = some (.int .i32 b.vy) := hX3.at 9 rfl
  refine wp_region_grow_tail 11 (by kernel_rfl) (by kernel_rfl) ?_
  simp only [List.take_succ_cons, List.take_zero]
  repeat (first | go_big_quiet_skip | (go_big_quiet_want; go_big_quiet_op; first | go_big_quiet_on))
  refine wpQuiet_nil ?_
  rintro _ ⟨g3, rfl⟩
  simp only [List.drop_succ_cons, List.drop_zero]
  replace hX3 := hX3.grow g3
  replace hB3 := hB3.grow g3
  replace hm3 := hm3.of_block (g3.below.block mb hm3.lt)
  replace hO3 := hO3.below g3.below
  replace A3 := alter_grow A3 g3
  refine wpList_store (K := atKey) rfl (.tmp 44) (.tmp 46) (.tmp 51) 72 3 rfl Tryz.underlying72 mb [] b.key (.int .i64 n) rfl rfl rfl hm3 ?_
  intro w4 hm4 hg4 hs4
  have hB4 : CellsAt w4 p _ _ := hB3.of_block (hg4.block p hB3.lt (fun e => hne (by simpa using e.symm)))
  have hX4 : CellsAt w4 w.heap.size _ _ := hX3.of_block (hg4.block _ hX3.lt (fun e => absurd (show w.heap.size = mb by simpa using e) (by omega)))
  have hO4 : Own bodyE 27 w4 0 v l := own_block hO3 fun k hk hlt => hg4.block k hlt (fun e => absurd (show k = mb by simpa using e) (Nat.ne_of_lt (Nat.lt_trans (HX.out.2.2.2.2.2.2 k hk) hmbw)))
  have q4 := hB4.lt
  have q4' := hX4.lt
  clear d0 d1
  have d0 : w4.cell? ⟨p, 0, none⟩ = some (.slice A n c) := by rw [← HV.out]; exact hB4.at 0 rfl
  have kk11 : w4.cell? ⟨w.heap.size, 0, none⟩ = some (.int .u32 b.key) := hX4.at 0 rfl
  have kk12 : w4.cell? ⟨w.heap.size, 1, none⟩ = some (.int .i32 b.radius) := hX4.at 1 rfl
  have kk13 : w4.cell? ⟨w.heap.size, 2, none⟩ = some (.int .i32 b.ax) := hX4.at 2 rfl
  have kk14 : w4.cell? ⟨w.heap.size, 3, none⟩ = some (.int .i32 b.ay) := hX4.at 3 rfl
  have kk15 : w4.cell? ⟨w.heap.size, 4, none⟩ = some (.int .i32 b.inv) := hX4.at 4 rfl
  have kk16 : w4.cell? ⟨w.heap.size, 5, none⟩ = some (.int .i32 b.bounce) := hX4.at 5 rfl
  have kk17 : w4.cell? ⟨w.heap.size, 6, none⟩ = some (.int .i32 b.px) := hX4.at 6 rfl
  have kk18 : w4.cell? ⟨w.heap.size, 7, none⟩ = some (.int .i32 b.py) := hX4.at 7 rfl
  have kk19 : w4.cell? ⟨w.heap.size, 8, none⟩ = some (.int .i32 b.vx) := hX4.at 8 rfl
  have kk20 : w4.cell? ⟨w.heap.size, 9, none⟩ = some (.int .i32 b.vy) := hX4.at 9 rfl
  go_upto_region 14 with fail
  have HO4 := Lib.hid hO4
  have HB4 := Lib.hid hB4
  have hlv : ∀ k, k < g3.world.heap.size → k < w4.heap.size := fun k hk => Nat.lt_of_lt_of_le hk hg4.size
  have A4 : Alter F w w4 := A3.mono (fun k _ hk => by rw [hk]; exact hfp) |>.trans (T := fun k => k = mb) (Alter.of_grown hg4 rfl) (fun k hk h => absurd h (by omega))
  have hm4' := Lib.hid hm4
  have FIN : ∀ (w5 : World) (A6 : Option Addr) (n6 c6 : Nat), Own bodyE 27 w5 0 (.slice A6 n6 c6) (l ++ [b]) → w4.drew.grownBy w5 (Value.ownBlock (.slice A n c)) → (Value.ownBlock (.slice A6 n6 c6) = Value.ownBlock (.slice A n c) ∨ Value.ownBlock (.slice A6 n6 c6) = some (w4.drew.heap.size + 1)) →
      ∃ F', StoreAt (w5.setCell ⟨p, 0, none⟩ (.slice A6 n6 c6)) p F' (l ++ [b]) ∧ Alter F w (w5.setCell ⟨p, 0, none⟩ (.slice A6 n6 c6)) ∧ ∀ k, F' k → F k ∨ w.heap.size ≤ k := by
    intro w5 A6 n6 c6 hO6 hg5 hk5
    rw [← HV.out] at hg5 hk5
    obtain ⟨_, xfo, xvp, xnd, xg, xi, xvl⟩ := HX.out
    have hsz4 : w.heap.size ≤ w4.heap.size := A4.size
    have hB5 : CellsAt w5 p #[v, .map (some mb)] 78 := CellsAt.of_block (w := w4) HB4.out (hg5.block p q4 (fun e => xvp e.symm))
    have hm5 : MapAt atKey w5 mb _ := hm4'.out.of_block (hg5.block mb hm4'.out.lt (fun e => by have := xvl mb e.symm; omega))
    have hn6 : ∀ k, Value.ownBlock (.slice A6 n6 c6) = some k → k ≠ p := fun k hk e => by
      rcases hk5 with h5 | h5
      · exact xvp (by rw [← h5, hk, e])
      · rw [hk] at h5
        have : k = w4.heap.size + 1 := by simpa using h5
        omega
    refine ⟨fun k => F k ∨ k = mb ∨ Value.ownBlock (.slice A6 n6 c6) = some k, ⟨_, _, (hB5.set 0 _).eq (by simp), .inl hfp, own_block hO6 fun k hk _ => Below.heap_setCell _ _ _ _ (hn6 k hk), fun k hk => .inr (.inr hk), ?_, ?_, .inr ⟨mb, _, rfl, .inr (.inl rfl), hm5.of_block (Below.heap_setCell _ _ _ _ hne), fun k => ?_⟩⟩, alter_set (Alter.trans (T := F) (w' := w4.drew) (alter_drew A4) (Alter.of_grown_none hg5 xfo) (fun _ _ h => h)) (.inl hfp) _, fun k hk => ?_⟩
    · rw [List.map_append, List.nodup_append]
      refine ⟨xnd, by simp, ?_⟩
      intro a ha
      simp
      rintro rfl
      obtain ⟨x, hx, e⟩ := List.mem_map.1 ha
      have := (List.findIdx?_eq_none_iff.1 xi) x hx
      simp at this
      exact this e
    · have := HLN.out
      rw [HN.out] at this
      simp
      omega
    · rw [getM_put]
      by_cases hk : k = b.key
      · subst hk
        rw [if_pos rfl, idx_append_new xi, HN.out]
        rfl
      · rw [if_neg hk, idx_append_ne (fun e => hk e.symm), xg]
    · rcases hk with hk | hk | hk
      · exact .inl hk
      · exact .inr (by omega)
      · rcases hk5 with h5 | h5
        · exact .inl (xfo k (by rw [← h5, hk]))
        · rw [hk] at h5
          have : k = w4.heap.size + 1 := by simpa using h5
          exact .inr (by omega)
  clear hO4 hO3 hB3 hX3 hm3 hB4 hs4 hm4 A4 hlv
  have hb4 : Value.ownBlock (.slice A n c) ≠ some p := by rw [← HV.out]; exact HX.out.2.2.1
  have hb5 : Value.ownBlock (.slice A n c) ≠ some w.heap.size := fun e => by
    rw [← HV.out] at e
    have := HX.out.2.2.2.2.2.2 _ e
    omega
  have HK : ∀ w', w4.drew.grownBy w' (Value.ownBlock (.slice A n c)) → w'.cell? ⟨w.heap.size, 0, none⟩ = some (.int .u32 b.key) ∧ w'.cell? ⟨w.heap.size, 1, none⟩ = some (.int .i32 b.radius) ∧ w'.cell? ⟨w.heap.size, 2, none⟩ = some (.int .i32 b.ax) ∧ w'.cell? ⟨w.heap.size, 3, none⟩ = some (.int .i32 b.ay) ∧ w'.cell? ⟨w.heap.size, 4, none⟩ = some (.int .i32 b.inv) ∧ w'.cell? ⟨w.heap.size, 5, none⟩ = some (.int .i32 b.bounce) ∧ w'.cell? ⟨w.heap.size, 6, none⟩ = some (.int .i32 b.px) ∧ w'.cell? ⟨w.heap.size, 7, none⟩ = some (.int .i32 b.py) ∧ w'.cell? ⟨w.heap.size, 8, none⟩ = some (.int .i32 b.vx) ∧ w'.cell? ⟨w.heap.size, 9, none⟩ = some (.int .i32 b.vy) := fun w' hg => by
    have e1 : ∀ o, w'.cell? ⟨w.heap.size, o, none⟩ = w4.cell? ⟨w.heap.size, o, none⟩ := fun o => World.cell?_of_block (hg.block _ q4' (fun e => hb5 e.symm))
    exact ⟨(e1 0).trans (hX4.at 0 rfl), (e1 1).trans (hX4.at 1 rfl), (e1 2).trans (hX4.at 2 rfl), (e1 3).trans (hX4.at 3 rfl), (e1 4).trans (hX4.at 4 rfl), (e1 5).trans (hX4.at 5 rfl), (e1 6).trans (hX4.at 6 rfl), (e1 7).trans (hX4.at 7 rfl), (e1 8).trans (hX4.at 8 rfl), (e1 9).trans (hX4.at 9 rfl)⟩
  have HS : ∀ w' u, w4.drew.grownBy w' (Value.ownBlock (.slice A n c)) → (fun w' : World => w'.cell? ⟨w.heap.size, 0, none⟩ = some (.int .u32 b.key) ∧ w'.cell? ⟨w.heap.size, 1, none⟩ = some (.int .i32 b.radius) ∧ w'.cell? ⟨w.heap.size, 2, none⟩ = some (.int .i32 b.ax) ∧ w'.cell? ⟨w.heap.size, 3, none⟩ = some (.int .i32 b.ay) ∧ w'.cell? ⟨w.heap.size, 4, none⟩ = some (.int .i32 b.inv) ∧ w'.cell? ⟨w.heap.size, 5, none⟩ = some (.int .i32 b.bounce) ∧ w'.cell? ⟨w.heap.size, 6, none⟩ = some (.int .i32 b.px) ∧ w'.cell? ⟨w.heap.size, 7, none⟩ = some (.int .i32 b.py) ∧ w'.cell? ⟨w.heap.size, 8, none⟩ = some (.int .i32 b.vx) ∧ w'.cell? ⟨w.heap.size, 9, none⟩ = some (.int .i32 b.vy)) (w'.setCell ⟨p, 0, none⟩ u) := fun w' u hg => by
    have e1 : ∀ o, (w'.setCell ⟨p, 0, none⟩ u).cell? ⟨w.heap.size, o, none⟩ = w4.cell? ⟨w.heap.size, o, none⟩ := fun o => (World.cell?_of_block (Below.heap_setCell w' ⟨p, 0, none⟩ u w.heap.size (fun e => by simp at e; omega))).trans (World.cell?_of_block (hg.block _ q4' (fun e => hb5 e.symm)))
    exact ⟨(e1 0).trans (hX4.at 0 rfl), (e1 1).trans (hX4.at 1 rfl), (e1 2).trans (hX4.at 2 rfl), (e1 3).trans (hX4.at 3 rfl), (e1 4).trans (hX4.at 4 rfl), (e1 5).trans (hX4.at 5 rfl), (e1 6).trans (hX4.at 6 rfl), (e1 7).trans (hX4.at 7 rfl), (e1 8).trans (hX4.at 8 rfl), (e1 9).trans (hX4.at 9 rfl)⟩
  have HF5 : ∀ w', w4.drew.grownBy w' (Value.ownBlock (.slice A n c)) → CellsAt w' p #[.slice A n c, .map (some mb)] 78 := fun w' hg => by
    rw [← HV.out]
    exact CellsAt.of_block (w := w4) HB4.out (hg.block p q4 (fun e => hb4 e.symm))
  clear A3 hmbw hb2
  go_region_law
    (first
      | (refine step_own (W := w4.drew) rfl bodyE 0 (.tmp 56) (.tmp 58) 38 27 _ 40 (by rfl) Tryz.underlying38 bdInfo rfl (by decide) (.slice A n c) l b b.arr rfl rfl rfl (by rw [← HV.out]; exact HO4.out) (Nat.zero_le _) (by have := HLN.out; rw [← HN.out]; omega) ?_; intro v1 w5 hO6 hg5 hk5; obtain ⟨A6, n6, c6, rfl⟩ : ∃ A6 n6 c6, v1 = .slice A6 n6 c6 := (have ⟨A6, c6, e6⟩ := hO6.form; ⟨A6, _, c6, e6⟩); have hB5 := HF5 _ hg5; have f5 : w5.frozen? ⟨p, 0, none⟩ = false := hB5.froz 0; have d5 : w5.cell? ⟨p, 0, none⟩ = some (.slice A n c) := hB5.at 0 rfl; have l5 := hB5.lt))
  all_goals
    have HE := FIN _ _ _ _ hO6 hg5 hk5
    clear FIN
    go_wp2
    go_ret
    exact ⟨rfl, HE⟩

theorem StoreAt.below {w w' : World} {p : Nat} {F : Nat → Prop} {l : List Body} (h : StoreAt w p F l) (hb : Below w.heap.size w w') : StoreAt w' p F l := by
  obtain ⟨v, m, h⟩ := h
  refine ⟨v, m, h.blk.below hb h.blk.lt, h.fp, h.own.below hb, h.fo, h.nodup, h.len, ?_⟩
  rcases h.ok with h1 | ⟨mb, es, h1, h2, h3, h4⟩
  · exact .inl h1
  · exact .inr ⟨mb, es, h1, h2, h3.of_block (hb.block mb h3.lt), h4⟩
/-- (*store.Store).Add. -/
theorem storeAdd_any (p : Nat) (b : Body) (w : World) (F : Nat → Prop) (l : List Body) (h : StoreAt w p F l) :
    Calls Tryz.prog 32 #[.pointer (some ⟨p, 0, none⟩), .agg b.arr] w fun e w' => e = .returned (.int .i64 (addE l b)) ∧ ∃ F', StoreAt w' p F' (if addE l b = 0 then l ++ [b] else l) ∧ Alter F w w' ∧ ∀ k, F' k → F k ∨ w.heap.size ≤ k := by
  have hh := h
  obtain ⟨v, m, hs⟩ := h
  have keep : ∀ (c : Int), c ≠ 0 → addE l b = c → (Calls Tryz.prog 32 #[.pointer (some ⟨p, 0, none⟩), .agg b.arr] w fun e w' => e = .returned (.int .i64 c) ∧ Below w.heap.size w w') → Calls Tryz.prog 32 #[.pointer (some ⟨p, 0, none⟩), .agg b.arr] w fun e w' => e = .returned (.int .i64 (addE l b)) ∧ ∃ F', StoreAt w' p F' (if addE l b = 0 then l ++ [b] else l) ∧ Alter F w w' ∧ ∀ k, F' k → F k ∨ w.heap.size ≤ k := by
    intro c hc he hC
    rw [he, if_neg hc]
    exact hC.mono fun e w' ⟨h1, h2⟩ => ⟨h1, F, hh.below h2, Alter.of_below h2 _, fun k hk => .inl hk⟩
  by_cases hb : errOf b = 0
  · cases hi : idx l b.key with
    | some i => exact keep 10 (by decide) (by simp [addE, hb, hi]) (sAdd_dup p b w F l v m hs hb i hi)
    | none =>
      by_cases hl : l.length = 4096
      · exact keep 12 (by decide) (by simp [addE, hb, hi, hl]) (sAdd_full p b w F l v m hs hb hi hl)
      · have hlt : l.length < 4096 := by have := hs.len; omega
        have he : addE l b = 0 := by simp [addE, hb, hi]; omega
        rw [he, if_pos rfl]
        rcases hs.ok with ⟨h1, h2⟩ | ⟨mb, es, h1, h2, h3, h4⟩
        · subst h1
          exact sAdd_first p b w F l v hs h2 hb
        · subst h1
          exact sAdd_new p b w F l v mb es hs h2 h3 h4 hb hi hlt
  · exact keep _ hb (by simp [addE, hb]) (sAdd_bad p b w hb)
end Go.Proofs.YtnhaiecbjipodaaGreatDoor
/- The world's own methods: of, Add, View. -/
namespace Go.Proofs.YtnhaiecbjipodaaGreatDoor
open Go.RowKit Go.Shelf Go.Proofs
attribute [local go_sem] Grow.cell Grow.froz Grow.lt lt_s1 lt_s2 lt_s3 lt_s4 lt_s5
theorem of_any (p : Nat) (w : World) : Calls Tryz.prog 31 #[.pointer (some ⟨p, 0, none⟩)] w fun e w' => e = .returned (.pointer (some ⟨p, 0, none⟩)) ∧ w' = w := by
  go_enter Tryz.func31, Tryz.ntmps31
  go_wp2
  go_ret
  exact ⟨rfl, rfl⟩
theorem StoreAt.lt {w : World} {p : Nat} {F : Nat → Prop} {l : List Body} (h : StoreAt w p F l) : p < w.heap.size := by
  obtain ⟨v, m, h⟩ := h
  exact h.blk.lt
def addR (l : List Body) (b : Body) : List Body := if addE l b = 0 then l ++ [b] else l
theorem storeAdd_r (p : Nat) (b : Body) (w : World) (F : Nat → Prop) (l : List Body) (h : StoreAt w p F l) :
    Calls Tryz.prog 32 #[.pointer (some ⟨p, 0, none⟩), .agg b.arr] w fun e w' => e = .returned (.int .i64 (addE l b)) ∧ ∃ F', StoreAt w' p F' (addR l b) ∧ Alter F w w' ∧ ∀ k, F' k → F k ∨ w.heap.size ≤ k := storeAdd_any p b w F l h
set_option maxHeartbeats 1000000 in
theorem worldAdd_any (p : Nat) (b : Body) (w : World) (F : Nat → Prop) (l : List Body) (h : StoreAt w p F l) :
    Calls Tryz.prog 15 #[.pointer (some ⟨p, 0, none⟩), .agg b.arr] w fun e w' => e = .returned (.int .i64 (addE l b)) ∧ ∃ F', StoreAt w' p F' (addR l b) ∧ Alter F w w' ∧ ∀ k, F' k → F k ∨ w.heap.size ≤ k := by
  have hp := h.lt
  have HS := Lib.hid h
  clear h
  go_enter Tryz.func15, Tryz.ntmps15
  go_upto_region 3 with (go_at_call 31; refine (of_any _ _).mono ?_; rintro e w' ⟨rfl, rfl⟩)
  refine wp_region_grow_tail 4 (by kernel_rfl) (by kernel_rfl) ?_
  simp only [List.take_succ_cons, List.take_zero]
  repeat (first | go_big_quiet_skip | (go_big_quiet_want; go_big_quiet_op; first | go_big_quiet_on))
  refine wpQuiet_nil ?_
  rintro _ ⟨g1, rfl⟩
  simp only [List.drop_succ_cons, List.drop_zero]
  have hb1 : Below w.heap.size w g1.world := (by repeat (first | with_reducible exact Below.refl _ _ | with_reducible refine bel_alloc ?_ _ | with_reducible refine bel_drewN ?_ _ | with_reducible refine bel_drew ?_ | with_reducible refine bel_grow ?_ _ | with_reducible refine bel_set ?_ (by first | omega | (simp; done) | (simp; omega)) _))
  have h1 := HS.out.below hb1
  obtain ⟨c, hc⟩ : ∃ c, c = addE l b := ⟨_, rfl⟩
  go_wp2_with (go_at_call 32; refine (storeAdd_r p b _ F l h1).mono ?_; rintro e w2 ⟨rfl, h2⟩; rw [← hc]; have H2 := Lib.hid h2; clear h2 h1)
  go_ret
  obtain ⟨F', h2, h3, h4⟩ := H2.out
  exact ⟨rfl, F', h2, (Alter.of_below hb1 F).trans h3 (fun _ _ h => h), fun k hk => (h4 k hk).imp id (fun h => Nat.le_trans hb1.size h)⟩
set_option maxHeartbeats 1000000 in
theorem worldView_any (p : Nat) (w : World) (F : Nat → Prop) (l : List Body) (h : StoreAt w p F l) :
    Calls Tryz.prog 11 #[.pointer (some ⟨p, 0, none⟩)] w fun e w' => ∃ v' l', e = .returned v' ∧ Own bodyE 27 w' w.heap.size v' l' ∧ l'.Perm l ∧ l'.Pairwise (fun a b => a.key ≤ b.key) ∧ Below w.heap.size w w' := by
  obtain ⟨v, m, h⟩ := h
  have hc : w.cell? ⟨p, 0, none⟩ = some v := h.blk.at 0 rfl
  have HO := Lib.hid h.own
  have HL := Lib.hid h.len
  have HC := Lib.hid hc
  clear h hc
  go_enter Tryz.func11, Tryz.ntmps11
  go_wp2_with (go_at_call 28; refine (bodies_any p v l w 0 HC.out HO.out HL.out).mono ?_; rintro e w2 ⟨v', l', rfl, h2⟩; have H2 := Lib.hid h2; clear h2)
  go_ret
  exact ⟨v', l', rfl, H2.out⟩
end Go.Proofs.YtnhaiecbjipodaaGreatDoor
/- (*store.Store).Get, (*world.World).Get. -/
namespace Go.Proofs.YtnhaiecbjipodaaGreatDoor
open Go.RowKit Go.Shelf Go.Proofs
attribute [local go_sem] Grow.cell Grow.froz Grow.lt lt_s1 lt_s2 lt_s3 lt_s4 lt_s5
theorem idx_some {l : List Body} {k : Int} {i : Nat} (h : idx l k = some i) : ∃ hi : i < l.length, l[i].key = k := by
  unfold idx at h
  obtain ⟨h1, h2, _⟩ := List.findIdx?_eq_some_iff_getElem.1 h
  exact ⟨h1, by simpa using h2⟩
def getE (l : List Body) (k : Int) : Int := if (idx l k).isSome then 0 else 11
def getB (l : List Body) (k : Int) : Body := ((idx l k).bind fun i => l[i]?).getD ⟨0, 0, 0, 0, 0, 0, 0, 0, 0, 0⟩
set_option maxRecDepth 100000 in
set_option maxHeartbeats 1000000 in
theorem get_none (p : Nat) (k : Int) (w : World) (F : Nat → Prop) (l : List Body) (h : StoreAt w p F l) (hi : idx l k = none) :
    Calls Tryz.prog 142 #[.pointer (some ⟨p, 0, none⟩), .int .u32 k] w fun e w' => e = .returned (.tuple #[.agg #[.int .u32 0, .int .i32 0, .int .i32 0, .int .i32 0, .int .i32 0, .int .i32 0, .int .i32 0, .int .i32 0, .int .i32 0, .int .i32 0], .int .i64 11]) ∧ Below w.heap.size w w' := by
  obtain ⟨v, m, h⟩ := h
  have hp := h.blk.lt
  obtain ⟨mv, hmv⟩ : ∃ mv : Value, mv = m := ⟨_, rfl⟩
  have HL : ∀ W : World, Below w.heap.size w W → (Instr.lookup 72 mv (.int .u32 k) true).run Tryz.prog W = .ok (.tuple #[.int .i64 0, .bool false]) W := by
    intro W hb
    rw [hmv]
    rcases h.ok with ⟨rfl, rfl⟩ | ⟨mb, es, rfl, _, hm, hg⟩
    · exact nil_look _ _
    · have := at_look (hm.of_block (hb.block mb hm.lt)) k
      rw [hg, hi] at this
      exact this
  have c1 : w.cell? ⟨p, 1, none⟩ = some mv := by rw [hmv]; exact h.blk.at 1 rfl
  have HL2 : (Instr.lookup 72 mv (.int .u32 k) true).run Tryz.prog (w.alloc (.cells #[.int .u32 0, .int .i32 0, .int .i32 0, .int .i32 0, .int .i32 0, .int .i32 0, .int .i32 0, .int .i32 0, .int .i32 0, .int .i32 0] 27)) = .ok (.tuple #[.int .i64 0, .bool false]) _ := HL _ (by repeat (first | with_reducible exact Below.refl _ _ | with_reducible refine bel_alloc ?_ _ | with_reducible refine bel_drewN ?_ _ | with_reducible refine bel_drew ?_ | with_reducible refine bel_grow ?_ _ | with_reducible refine bel_set ?_ (by first | omega | (simp; done) | (simp; omega)) _))
  clear HL h hmv hi
  go_enter Tryz.func142, Tryz.ntmps142
  go_wp2
  refine bodyPost_ret (v := .tuple #[.agg #[.int .u32 0, .int .i32 0, .int .i32 0, .int .i32 0, .int .i32 0, .int .i32 0, .int .i32 0, .int .i32 0, .int .i32 0, .int .i32 0], .int .i64 11]) (ret_cells w.heap.size #[.int .u32 0, .int .i32 0, .int .i32 0, .int .i32 0, .int .i32 0, .int .i32 0, .int .i32 0, .int .i32 0, .int .i32 0, .int .i32 0] 27 ?_ ?_) rfl ⟨rfl, (by repeat (first | with_reducible exact Below.refl _ _ | with_reducible refine bel_alloc ?_ _ | with_reducible refine bel_drewN ?_ _ | with_reducible refine bel_drew ?_ | with_reducible refine bel_grow ?_ _ | with_reducible refine bel_set ?_ (by first | omega | (simp; done) | (simp; omega)) _))⟩
  · exact CellsAt.new w _ _
  · intro W K
    have kk1 : W.cell? ⟨w.heap.size, 0, none⟩ = some (.int .u32 0) := K.at 0 rfl
    have kk2 : W.cell? ⟨w.heap.size, 1, none⟩ = some (.int .i32 0) := K.at 1 rfl
    have kk3 : W.cell? ⟨w.heap.size, 2, none⟩ = some (.int .i32 0) := K.at 2 rfl
    have kk4 : W.cell? ⟨w.heap.size, 3, none⟩ = some (.int .i32 0) := K.at 3 rfl
    have kk5 : W.cell? ⟨w.heap.size, 4, none⟩ = some (.int .i32 0) := K.at 4 rfl
    have kk6 : W.cell? ⟨w.heap.size, 5, none⟩ = some (.int .i32 0) := K.at 5 rfl
    have kk7 : W.cell? ⟨w.heap.size, 6, none⟩ = some (.int .i32 0) := K.at 6 rfl
    have kk8 : W.cell? ⟨w.heap.size, 7, none⟩ = some (.int .i32 0) := K.at 7 rfl
    have kk9 : W.cell? ⟨w.heap.size, 8, none⟩ = some (.int .i32 0) := K.at 8 rfl
    have kk10 : W.cell? ⟨w.heap.size, 9, none⟩ = some (.int .i32 0) := K.at 9 rfl
    simp [results, Tryz.results142, go_sem, *]
set_option maxRecDepth 100000 in
set_option maxHeartbeats 1000000 in
theorem get_hit (p : Nat) (k : Int) (w : World) (F : Nat → Prop) (l : List Body) (h : StoreAt w p F l) (i : Nat) (hil : i < l.length) (hi : idx l k = some i) :
    Calls Tryz.prog 142 #[.pointer (some ⟨p, 0, none⟩), .int .u32 k] w fun e w' => e = .returned (.tuple #[.agg l[i].arr, .int .i64 0]) ∧ Below w.heap.size w w' := by
  obtain ⟨v, m, h⟩ := h
  have hp := h.blk.lt
  have hlen := h.len
  obtain ⟨A, c, b1, o1, rfl, hA, hx⟩ := (h.own.reads (by omega)).bodies
  have c0 : w.cell? ⟨p, 0, none⟩ = some (.slice A l.length c) := h.blk.at 0 rfl
  rcases h.ok with ⟨_, rfl⟩ | ⟨mb, es, rfl, _, hm, hg⟩
  · simp [idx] at hi
  have c1 : w.cell? ⟨p, 1, none⟩ = some (.map (some mb)) := h.blk.at 1 rfl
  have HL : ∀ W : World, Below w.heap.size w W → (Instr.lookup 72 (.map (some mb)) (.int .u32 k) true).run Tryz.prog W = .ok (.tuple #[.int .i64 i, .bool true]) W := fun W hb => by
    have := at_look (hm.of_block (hb.block mb hm.lt)) k
    rw [hg, hi] at this
    exact this
  have HL2 : (Instr.lookup 72 (.map (some mb)) (.int .u32 k) true).run Tryz.prog (w.alloc (.cells #[.int .u32 0, .int .i32 0, .int .i32 0, .int .i32 0, .int .i32 0, .int .i32 0, .int .i32 0, .int .i32 0, .int .i32 0, .int .i32 0] 27)) = .ok (.tuple #[.int .i64 i, .bool true]) _ := HL _ (by repeat (first | with_reducible exact Below.refl _ _ | with_reducible refine bel_alloc ?_ _ | with_reducible refine bel_drewN ?_ _ | with_reducible refine bel_drew ?_ | with_reducible refine bel_grow ?_ _ | with_reducible refine bel_set ?_ (by first | omega | (simp; done) | (simp; omega)) _))
  clear HL
  obtain ⟨eA, zA⟩ := hA (by omega)
  have ix := fun w => idx_body (c := c) eA hil w
  obtain ⟨q0, q1, q2, q3, q4, q5, q6, q7, q8, q9⟩ := hx i hil
  clear eA hA hx h hi hg hm
  go_enter Tryz.func142, Tryz.ntmps142
  go_wp2
  refine bodyPost_ret (v := .tuple #[.agg #[.int .u32 l[i].key, .int .i32 l[i].radius, .int .i32 l[i].ax, .int .i32 l[i].ay, .int .i32 l[i].inv, .int .i32 l[i].bounce, .int .i32 l[i].px, .int .i32 l[i].py, .int .i32 l[i].vx, .int .i32 l[i].vy], .int .i64 0]) (ret_cells w.heap.size #[.int .u32 l[i].key, .int .i32 l[i].radius, .int .i32 l[i].ax, .int .i32 l[i].ay, .int .i32 l[i].inv, .int .i32 l[i].bounce, .int .i32 l[i].px, .int .i32 l[i].py, .int .i32 l[i].vx, .int .i32 l[i].vy] 27 ?_ ?_) rfl ⟨rfl, (by repeat (first | with_reducible exact Below.refl _ _ | with_reducible refine bel_alloc ?_ _ | with_reducible refine bel_drewN ?_ _ | with_reducible refine bel_drew ?_ | with_reducible refine bel_grow ?_ _ | with_reducible refine bel_set ?_ (by first | omega | (simp; done) | (simp; omega)) _))⟩
  · exact CellsAt.new w _ _
  · intro W K
    have kk11 : W.cell? ⟨w.heap.size, 0, none⟩ = some (.int .u32 l[i].key) := K.at 0 rfl
    have kk12 : W.cell? ⟨w.heap.size, 1, none⟩ = some (.int .i32 l[i].radius) := K.at 1 rfl
    have kk13 : W.cell? ⟨w.heap.size, 2, none⟩ = some (.int .i32 l[i].ax) := K.at 2 rfl
    have kk14 : W.cell? ⟨w.heap.size, 3, none⟩ = some (.int .i32 l[i].ay) := K.at 3 rfl
    have kk15 : W.cell? ⟨w.heap.size, 4, none⟩ = some (.int .i32 l[i].inv) := K.at 4 rfl
    have kk16 : W.cell? ⟨w.heap.size, 5, none⟩ = some (.int .i32 l[i].bounce) := K.at 5 rfl
    have kk17 : W.cell? ⟨w.heap.size, 6, none⟩ = some (.int .i32 l[i].px) := K.at 6 rfl
    have kk18 : W.cell? ⟨w.heap.size, 7, none⟩ = some (.int .i32 l[i].py) := K.at 7 rfl
    have kk19 : W.cell? ⟨w.heap.size, 8, none⟩ = some (.int .i32 l[i].vx) := K.at 8 rfl
    have kk20 : W.cell? ⟨w.heap.size, 9, none⟩ = some (.int .i32 l[i].vy) := K.at 9 rfl
    simp [results, Tryz.results142, go_sem, *]
end Go.Proofs.YtnhaiecbjipodaaGreatDoor
/- (*store.Store).Set. -/
namespace Go.Proofs.YtnhaiecbjipodaaGreatDoor
open Go.RowKit Go.Shelf Go.Proofs
attribute [local go_sem] Grow.cell Grow.froz Grow.lt lt_s1 lt_s2 lt_s3 lt_s4 lt_s5
theorem own_of_at {α : Type} {E : Enc α} {t : TypeId} {w : World} {g cap : Nat} {cur : Array Value} {l : List α} (hg : w.heap[g]? = some (.cells cur t (0, 0))) (hc : l.length ≤ cap) (hm : cap ≤ maxLen) (hs : cur.size = cap * E.sz)
    (h : ∀ i (hi : i < l.length) j u, (E.cells l[i])[j]? = some u → cur[i * E.sz + j]? = some u) (base : Nat) (hb : base ≤ g) : Own E t w base (.slice (some ⟨g, 0, none⟩) l.length cap) l := by
  refine ⟨flat_len E l, .inr ⟨g, cap, cur, rfl, hb, hg, hc, hm, hs, ?_⟩⟩
  refine List.ext_getElem? fun k => ?_
  rw [List.getElem?_take]
  by_cases hk : k < l.length * E.sz
  · rw [if_pos hk, Array.getElem?_toList]
    have hz := E.pos
    have hi : k / E.sz < l.length := Nat.div_lt_of_lt_mul (by rwa [Nat.mul_comm] at hk)
    have hrl : k % E.sz < (E.cells l[k / E.sz]).length := by rw [E.len]; exact Nat.mod_lt _ hz
    have hjj : k / E.sz * E.sz + k % E.sz = k := by have := Nat.div_add_mod k E.sz; rwa [Nat.mul_comm] at this
    have h1 := flat_get E l (k / E.sz) _ (k % E.sz) _ (List.getElem?_eq_getElem hi) (List.getElem?_eq_getElem hrl)
    have h2 := h (k / E.sz) hi (k % E.sz) _ (List.getElem?_eq_getElem hrl)
    rw [hjj] at h1 h2
    rw [h1, h2]
  · rw [if_neg hk, List.getElem?_eq_none (by rw [flat_len]; omega)]
theorem own_at {α : Type} {E : Enc α} {t : TypeId} {w : World} {base : Nat} {v : Value} {l : List α} (h : Own E t w base v l) (hl : 0 < l.length) : ∃ g cap cur, v = .slice (some ⟨g, 0, none⟩) l.length cap ∧ base ≤ g ∧ w.heap[g]? = some (.cells cur t (0, 0)) ∧ l.length ≤ cap ∧ cap ≤ maxLen ∧ cur.size = cap * E.sz ∧
    ∀ i (hi : i < l.length) j u, (E.cells l[i])[j]? = some u → cur[i * E.sz + j]? = some u := by
  rcases h.2 with ⟨_, h0⟩ | ⟨g, cap, cur, rfl, hb, hg, hc, hm, hs, ht⟩
  · omega
  · refine ⟨g, cap, cur, rfl, hb, hg, hc, hm, hs, fun i hi j u hu => ?_⟩
    have h1 := flat_get E l i _ j u (List.getElem?_eq_getElem hi) hu
    have hj : j < E.sz := by
      have := (List.getElem?_eq_some_iff.1 hu).1
      rwa [E.len] at this
    have hlt : i * E.sz + j < l.length * E.sz := by
      have : (i + 1) * E.sz ≤ l.length * E.sz := Nat.mul_le_mul_right _ hi
      rw [Nat.succ_mul] at this
      omega
    rw [← ht, List.getElem?_take, if_pos hlt, Array.getElem?_toList] at h1
    exact h1
def put10 (w : World) (g o : Nat) (b : Body) : World := ((((((((((w.setCell ⟨g, o, none⟩ (.int .u32 b.key)).setCell ⟨g, o + 1, none⟩ (.int .i32 b.radius)).setCell ⟨g, o + 2, none⟩ (.int .i32 b.ax)).setCell ⟨g, o + 3, none⟩ (.int .i32 b.ay)).setCell ⟨g, o + 4, none⟩ (.int .i32 b.inv)).setCell ⟨g, o + 5, none⟩ (.int .i32 b.bounce)).setCell ⟨g, o + 6, none⟩ (.int .i32 b.px)).setCell ⟨g, o + 7, none⟩ (.int .i32 b.py)).setCell ⟨g, o + 8, none⟩ (.int .i32 b.vx)).setCell ⟨g, o + 9, none⟩ (.int .i32 b.vy))
theorem own_put10 {w : World} {base g cap : Nat} {l : List Body} {n : Nat} (h : Own bodyE 27 w base (.slice (some ⟨g, 0, none⟩) n cap) l) {i : Nat} (hi : i < l.length) (b : Body) : Own bodyE 27 (put10 w g (i * 10) b) base (.slice (some ⟨g, 0, none⟩) n cap) (l.set i b) := by
  obtain ⟨g', cap', cur, e, hb, hg, hc, hm, hs, hat⟩ := own_at h (by omega)
  simp only [Value.slice.injEq, Option.some.injEq, Addr.mk.injEq, and_true] at e
  obtain ⟨rfl, rfl, rfl⟩ := e
  have c0 : CellsAt w g cur 27 := hg
  have c1 := (((((((((c0.set (i * 10) (.int .u32 b.key)).set (i * 10 + 1) (.int .i32 b.radius)).set (i * 10 + 2) (.int .i32 b.ax)).set (i * 10 + 3) (.int .i32 b.ay)).set (i * 10 + 4) (.int .i32 b.inv)).set (i * 10 + 5) (.int .i32 b.bounce)).set (i * 10 + 6) (.int .i32 b.px)).set (i * 10 + 7) (.int .i32 b.py)).set (i * 10 + 8) (.int .i32 b.vx)).set (i * 10 + 9) (.int .i32 b.vy)
  have hsz : (i + 1) * 10 ≤ cur.size := by
    rw [hs]
    exact Nat.mul_le_mul_right 10 (by omega)
  have := own_of_at (E := bodyE) (l := l.set i b) (cap := cap) c1 (by simpa using hc) hm (by simpa using hs) (by
    intro k hk j u hu
    have hk' : k < l.length := by simpa using hk
    by_cases hki : k = i
    · subst hki
      simp only [List.getElem_set_self] at hu
      have hj : j < 10 := by
        have := (List.getElem?_eq_some_iff.1 hu).1
        rwa [bodyE.len] at this
      show _ = _
      rw [show bodyE.sz = 10 from rfl]
      have hh : (b.cells.toList)[j]? = some u := hu
      obtain rfl | rfl | rfl | rfl | rfl | rfl | rfl | rfl | rfl | rfl : j = 0 ∨ j = 1 ∨ j = 2 ∨ j = 3 ∨ j = 4 ∨ j = 5 ∨ j = 6 ∨ j = 7 ∨ j = 8 ∨ j = 9 := by omega
      all_goals
        simp [Body.cells] at hh
        subst hh
        simp [Array.getElem?_setIfInBounds]
        omega
    · have hj : j < 10 := by
        have := (List.getElem?_eq_some_iff.1 hu).1
        rwa [bodyE.len] at this
      rw [List.getElem_set_ne (fun e => hki e.symm)] at hu
      have h1 := hat k hk' j u hu
      rw [show bodyE.sz = 10 from rfl] at *
      have hne : ∀ d, d < 10 → ¬ i * 10 + d = k * 10 + j := fun d hd => by omega
      have h0 := hne 0 (by omega)
      simp only [Nat.add_zero] at h0
      simp [Array.getElem?_setIfInBounds, h0, hne 1 (by omega), hne 2 (by omega), hne 3 (by omega), hne 4 (by omega), hne 5 (by omega), hne 6 (by omega), hne 7 (by omega), hne 8 (by omega), hne 9 (by omega), h1]) base hb
  rw [List.length_set] at this
  exact this
end Go.Proofs.YtnhaiecbjipodaaGreatDoor
/- (*store.Store).Set: the walk. -/
namespace Go.Proofs.YtnhaiecbjipodaaGreatDoor
open Go.RowKit Go.Shelf Go.Proofs
attribute [local go_sem] Grow.cell Grow.froz Grow.lt lt_s1 lt_s2 lt_s3 lt_s4 lt_s5
set_option maxHeartbeats 1000000 in
theorem set_bad (p : Nat) (b : Body) (w : World) (hb : errOf b ≠ 0) :
    Calls Tryz.prog 96 #[.pointer (some ⟨p, 0, none⟩), .agg b.arr] w fun e w' => e = .returned (.int .i64 (errOf b)) ∧ Below w.heap.size w w' := by
  have HC := fun W => check_flat b.key b.radius b.ax b.ay b.inv b.bounce b.px b.py b.vx b.vy W
  change ∀ W, Calls _ _ _ W fun e w' => e = .returned (.int .i64 (errOf b)) ∧ _ at HC
  generalize errOf b = c at *
  have h1 : (c != 0) = true := by simpa using hb
  go_enter Tryz.func96, Tryz.ntmps96
  go_wp2_with (go_at_call 71; refine (HC _).mono ?_; rintro e w1 ⟨rfl, hb⟩; obtain ⟨g1, rfl⟩ := Grow.of hb; clear hb)
  go_ret
  exact ⟨rfl, (by repeat (first | with_reducible exact Below.refl _ _ | with_reducible refine bel_alloc ?_ _ | with_reducible refine bel_drewN ?_ _ | with_reducible refine bel_drew ?_ | with_reducible refine bel_grow ?_ _ | with_reducible refine bel_set ?_ (by first | omega | (simp; done) | (simp; omega)) _))⟩
set_option maxRecDepth 100000 in
set_option maxHeartbeats 2000000 in
theorem set_none (p : Nat) (b : Body) (w : World) (F : Nat → Prop) (l : List Body) (h : StoreAt w p F l) (hb : errOf b = 0) (hi : idx l b.key = none) :
    Calls Tryz.prog 96 #[.pointer (some ⟨p, 0, none⟩), .agg b.arr] w fun e w' => e = .returned (.int .i64 11) ∧ Below w.heap.size w w' := by
  have HC := fun W => check_flat b.key b.radius b.ax b.ay b.inv b.bounce b.px b.py b.vx b.vy W
  change ∀ W, Calls _ _ _ W fun e w' => e = .returned (.int .i64 (errOf b)) ∧ _ at HC
  rw [hb] at HC
  clear hb
  obtain ⟨v, m, h⟩ := h
  have hp := h.blk.lt
  obtain ⟨mv, hmv⟩ : ∃ mv : Value, mv = m := ⟨_, rfl⟩
  have HL : ∀ W : World, Below w.heap.size w W → (Instr.lookup 72 mv (.int .u32 b.key) true).run Tryz.prog W = .ok (.tuple #[.int .i64 0, .bool false]) W := by
    intro W hb
    rw [hmv]
    rcases h.ok with ⟨rfl, rfl⟩ | ⟨mb, es, rfl, _, hm, hg⟩
    · exact nil_look _ _
    · have := at_look (hm.of_block (hb.block mb hm.lt)) b.key
      rw [hg, hi] at this
      exact this
  have c1 : w.cell? ⟨p, 1, none⟩ = some mv := by rw [hmv]; exact h.blk.at 1 rfl
  clear h hmv hi
  go_enter Tryz.func96, Tryz.ntmps96
  go_upto_region 6 with (go_at_call 71; refine (HC _).mono ?_; rintro e w1 ⟨rfl, hb⟩; obtain ⟨g1, rfl⟩ := Grow.of hb; clear hb)
  have q1 : p < g1.world.heap.size := Nat.lt_of_lt_of_le (by simp; omega) g1.le
  have HG : ∀ g : Grow g1.world, (Instr.lookup 72 mv (.int .u32 b.key) true).run Tryz.prog g.world = .ok (.tuple #[.int .i64 0, .bool false]) g.world := fun g => HL _ (by repeat (first | with_reducible exact Below.refl _ _ | with_reducible refine bel_alloc ?_ _ | with_reducible refine bel_drewN ?_ _ | with_reducible refine bel_drew ?_ | with_reducible refine bel_grow ?_ _ | with_reducible refine bel_set ?_ (by first | omega | (simp; done) | (simp; omega)) _))
  clear HL
  refine wp_region_grow (by kernel_rfl) (by kernel_rfl) ?_
  repeat (first | go_big_quiet_skip | (go_big_quiet_want; go_big_quiet_op; first | go_big_quiet_on))
  refine wpQuiet_nil ?_
  rintro _ ⟨g2, rfl⟩
  go_wp2
  go_ret
  exact ⟨rfl, (by repeat (first | with_reducible exact Below.refl _ _ | with_reducible refine bel_alloc ?_ _ | with_reducible refine bel_drewN ?_ _ | with_reducible refine bel_drew ?_ | with_reducible refine bel_grow ?_ _ | with_reducible refine bel_set ?_ (by first | omega | (simp; done) | (simp; omega)) _))⟩
theorem put10_other {w : World} {g o k : Nat} {b : Body} (hk : k ≠ g) : (put10 w g o b).heap[k]? = w.heap[k]? := by
  unfold put10
  rw [Below.heap_setCell _ _ _ _ hk, Below.heap_setCell _ _ _ _ hk, Below.heap_setCell _ _ _ _ hk, Below.heap_setCell _ _ _ _ hk, Below.heap_setCell _ _ _ _ hk, Below.heap_setCell _ _ _ _ hk, Below.heap_setCell _ _ _ _ hk, Below.heap_setCell _ _ _ _ hk, Below.heap_setCell _ _ _ _ hk, Below.heap_setCell _ _ _ _ hk]
theorem idx_keys (l : List Body) (k : Int) : idx l k = (l.map Body.key).findIdx? (fun x => decide (x = k)) := by
  unfold idx
  rw [List.findIdx?_map]
  rfl
theorem set_keys {l : List Body} {i : Nat} {b : Body} (hi : i < l.length) (hk : l[i].key = b.key) : (l.set i b).map Body.key = l.map Body.key := by
  refine List.ext_getElem (by simp) fun j h1 h2 => ?_
  by_cases hj : i = j
  · subst hj; simp [hk]
  · simp [hj]
set_option maxRecDepth 100000 in
set_option maxHeartbeats 4000000 in
theorem set_hit (p : Nat) (b : Body) (w : World) (F : Nat → Prop) (l : List Body) (h : StoreAt w p F l) (hb : errOf b = 0) (i : Nat) (hil : i < l.length) (hi : idx l b.key = some i) :
    Calls Tryz.prog 96 #[.pointer (some ⟨p, 0, none⟩), .agg b.arr] w fun e w' => e = .returned (.int .i64 0) ∧ StoreAt w' p F (l.set i b) ∧ Alter F w w' := by
  have HC := fun W => check_flat b.key b.radius b.ax b.ay b.inv b.bounce b.px b.py b.vx b.vy W
  change ∀ W, Calls _ _ _ W fun e w' => e = .returned (.int .i64 (errOf b)) ∧ _ at HC
  rw [hb] at HC
  clear hb
  obtain ⟨v, m, h⟩ := h
  have hp := h.blk.lt
  have hlen := h.len
  rcases h.ok with ⟨_, rfl⟩ | ⟨mb, es, rfl, hF, hm, hg⟩
  · simp [idx] at hi
  obtain ⟨g, cap, cur, rfl, _, hcur, hc, hmx, hs, hat⟩ := own_at h.own (by omega)
  obtain ⟨n, hn⟩ : ∃ n, n = l.length := ⟨_, rfl⟩
  have c0 : w.cell? ⟨p, 0, none⟩ = some (.slice (some ⟨g, 0, none⟩) n cap) := by rw [hn]; exact h.blk.at 0 rfl
  have c1 : w.cell? ⟨p, 1, none⟩ = some (.map (some mb)) := h.blk.at 1 rfl
  have HL : ∀ W : World, Below w.heap.size w W → (Instr.lookup 72 (.map (some mb)) (.int .u32 b.key) true).run Tryz.prog W = .ok (.tuple #[.int .i64 i, .bool true]) W := fun W hb => by
    have := at_look (hm.of_block (hb.block mb hm.lt)) b.key
    rw [hg, hi] at this
    exact this
  have hgl : g < w.heap.size := lt_of_block hcur
  have ix : ∀ W, (Instr.indexAt 38 (.slice (some ⟨g, 0, none⟩) n cap) (.int .i64 (i : Int))).run Tryz.prog W = .ok (.pointer (some ⟨g, i * 10, none⟩)) W := fun W => by
    have := idx_body (A := some ⟨g, 0, none⟩) (b := g) (off := 0) (c := cap) rfl (show i < n by omega) W
    rwa [Nat.zero_add] at this
  have HX := Lib.hid (And.intro h (And.intro hn (And.intro hil (And.intro hi (And.intro hF (And.intro hm hg))))))
  have hK : CellsAt w g cur 27 := hcur
  have hcs : ∀ j, j < 10 → ∃ u, cur[i * 10 + j]? = some u := fun j hj => by
    have : (i + 1) * 10 ≤ cap * 10 := Nat.mul_le_mul_right 10 (by omega)
    have hs' : cur.size = cap * 10 := hs
    exact ⟨_, Array.getElem?_eq_getElem (by omega)⟩
  obtain ⟨u0, e0⟩ := hcs 0 (by omega)
  obtain ⟨u1, e1⟩ := hcs 1 (by omega)
  obtain ⟨u2, e2⟩ := hcs 2 (by omega)
  obtain ⟨u3, e3⟩ := hcs 3 (by omega)
  obtain ⟨u4, e4⟩ := hcs 4 (by omega)
  obtain ⟨u5, e5⟩ := hcs 5 (by omega)
  obtain ⟨u6, e6⟩ := hcs 6 (by omega)
  obtain ⟨u7, e7⟩ := hcs 7 (by omega)
  obtain ⟨u8, e8⟩ := hcs 8 (by omega)
  obtain ⟨u9, e9⟩ := hcs 9 (by omega)
  have k0 : w.cell? ⟨g, i * 10, none⟩ = some u0 := hK.at (i * 10) e0
  have k1 : w.cell? ⟨g, i * 10 + 1, none⟩ = some u1 := hK.at _ e1
  have k2 : w.cell? ⟨g, i * 10 + 2, none⟩ = some u2 := hK.at _ e2
  have k3 : w.cell? ⟨g, i * 10 + 3, none⟩ = some u3 := hK.at _ e3
  have k4 : w.cell? ⟨g, i * 10 + 4, none⟩ = some u4 := hK.at _ e4
  have k5 : w.cell? ⟨g, i * 10 + 5, none⟩ = some u5 := hK.at _ e5
  have k6 : w.cell? ⟨g, i * 10 + 6, none⟩ = some u6 := hK.at _ e6
  have k7 : w.cell? ⟨g, i * 10 + 7, none⟩ = some u7 := hK.at _ e7
  have k8 : w.cell? ⟨g, i * 10 + 8, none⟩ = some u8 := hK.at _ e8
  have k9 : w.cell? ⟨g, i * 10 + 9, none⟩ = some u9 := hK.at _ e9
  have fz : ∀ j, w.frozen? ⟨g, j, none⟩ = false := fun j => hK.froz j
  clear hcs e0 e1 e2 e3 e4 e5 e6 e7 e8 e9 h hn hil hi hF hm hg hat hcur hc hmx hs hlen hK
  go_enter Tryz.func96, Tryz.ntmps96
  go_upto_region 6 with (go_at_call 71; refine (HC _).mono ?_; rintro e w1 ⟨rfl, hb⟩; obtain ⟨g1, rfl⟩ := Grow.of hb; clear hb)
  have q1 : p < g1.world.heap.size := Nat.lt_of_lt_of_le (by simp; omega) g1.le
  have q1' : w.heap.size < g1.world.heap.size := Nat.lt_of_lt_of_le (by simp) g1.le
  have q1g : g < g1.world.heap.size := Nat.lt_of_lt_of_le (by simp; omega) g1.le
  have HG : ∀ g : Grow g1.world, (Instr.lookup 72 (.map (some mb)) (.int .u32 b.key) true).run Tryz.prog g.world = .ok (.tuple #[.int .i64 i, .bool true]) g.world := fun g => HL _ (by repeat (first | with_reducible exact Below.refl _ _ | with_reducible refine bel_alloc ?_ _ | with_reducible refine bel_drewN ?_ _ | with_reducible refine bel_drew ?_ | with_reducible refine bel_grow ?_ _ | with_reducible refine bel_set ?_ (by first | omega | (simp; done) | (simp; omega)) _))
  clear HL
  refine wp_region_grow (by kernel_rfl) (by kernel_rfl) ?_
  repeat (first | go_big_quiet_skip | (go_big_quiet_want; go_big_quiet_op; first | go_big_quiet_on))
  refine wpQuiet_nil ?_
  rintro _ ⟨g2, rfl⟩
  have q2 : p < g2.world.heap.size := Nat.lt_of_lt_of_le q1 g2.le
  have q2' : w.heap.size < g2.world.heap.size := Nat.lt_of_lt_of_le q1' g2.le
  have q2g : g < g2.world.heap.size := Nat.lt_of_lt_of_le q1g g2.le
  go_upto_region 9 with fail
  refine wp_region_grow_tail 7 (by kernel_rfl) (by kernel_rfl) ?_
  simp only [List.take_succ_cons, List.take_zero]
  repeat (first | go_big_quiet_skip | (go_big_quiet_want; go_big_quiet_op; first | go_big_quiet_on))
  refine wpQuiet_nil ?_
  rintro _ ⟨g3, rfl⟩
  simp only [List.drop_succ_cons, List.drop_zero]
  have q3g : g < g3.world.heap.size := Nat.lt_of_lt_of_le q2g g3.le
  have hb3 : Below w.heap.size w g3.world := (by repeat (first | with_reducible exact Below.refl _ _ | with_reducible refine bel_alloc ?_ _ | with_reducible refine bel_drewN ?_ _ | with_reducible refine bel_drew ?_ | with_reducible refine bel_grow ?_ _ | with_reducible refine bel_set ?_ (by first | omega | (simp; done) | (simp; omega)) _))
  go_wp2
  go_ret
  obtain ⟨h, hn, hil, hi, hF, hm, hg⟩ := HX.out
  have h3 := h.alter (Alter.of_below hb3 (fun _ => False)) (fun _ _ h => h)
  have hkey : l[i].key = b.key := (idx_some hi).2
  have hpg : p ≠ g := fun e => h.ne (by rw [e]; rfl)
  have hmg : mb ≠ g := fun e => by
    obtain ⟨_, _, cur, e2, _, h4, _⟩ := own_at h.own (by omega)
    simp only [Value.slice.injEq, Option.some.injEq, Addr.mk.injEq, and_true] at e2
    obtain ⟨rfl, _⟩ := e2
    exact hm.ne_cells h4 e
  refine ⟨rfl, (?_ : StoreAt (put10 g3.world g (i * 10) b) p F (l.set i b)), (?_ : Alter F w (put10 g3.world g (i * 10) b))⟩
  · have ho := own_put10 h3.own hil b
    refine ⟨_, _, h3.blk.of_block (put10_other hpg), h3.fp, ho, h3.fo, by rw [set_keys hil hkey]; exact h.nodup, by rw [List.length_set]; exact h.len, .inr ⟨mb, es, rfl, hF, (hm.of_block (hb3.block mb hm.lt)).of_block (put10_other hmg), fun k => ?_⟩⟩
    rw [hg, idx_keys, idx_keys, set_keys hil hkey]
  · have hFg : F g := h.fo g rfl
    unfold put10
    repeat (first | refine alter_set ?_ (.inl hFg) _ | exact Alter.of_below hb3 F)
end Go.Proofs.YtnhaiecbjipodaaGreatDoor
/- (*store.Store).Remove. -/
namespace Go.Proofs.YtnhaiecbjipodaaGreatDoor
open Go.RowKit Go.Shelf Go.Proofs
attribute [local go_sem] Grow.cell Grow.froz Grow.lt lt_s1 lt_s2 lt_s3 lt_s4 lt_s5
/-- The list without its element i, the last one in its place. -/
def remL (l : List Body) (i : Nat) : List Body := (l.set i (l.getLastD ⟨0, 0, 0, 0, 0, 0, 0, 0, 0, 0⟩)).dropLast
theorem remL_len (l : List Body) (i : Nat) : (remL l i).length = l.length - 1 := by simp [remL]
set_option maxRecDepth 100000 in
set_option maxHeartbeats 1000000 in
theorem rem_none (p : Nat) (k : Int) (w : World) (F : Nat → Prop) (l : List Body) (h : StoreAt w p F l) (hi : idx l k = none) :
    Calls Tryz.prog 92 #[.pointer (some ⟨p, 0, none⟩), .int .u32 k] w fun e w' => e = .returned (.int .i64 11) ∧ w' = w := by
  obtain ⟨v, m, h⟩ := h
  have hp := h.blk.lt
  obtain ⟨mv, hmv⟩ : ∃ mv : Value, mv = m := ⟨_, rfl⟩
  have HL : (Instr.lookup 72 mv (.int .u32 k) true).run Tryz.prog w = .ok (.tuple #[.int .i64 0, .bool false]) w := by
    rw [hmv]
    rcases h.ok with ⟨rfl, rfl⟩ | ⟨mb, es, rfl, _, hm, hg⟩
    · exact nil_look _ _
    · have := at_look hm k
      rw [hg, hi] at this
      exact this
  have c1 : w.cell? ⟨p, 1, none⟩ = some mv := by rw [hmv]; exact h.blk.at 1 rfl
  clear h hmv hi
  go_enter Tryz.func92, Tryz.ntmps92
  go_wp2
  go_ret
  exact ⟨rfl, rfl⟩
theorem findIdx_nodup {ks : List Int} (hd : ks.Nodup) {i : Nat} (hi : i < ks.length) : ks.findIdx? (fun x => decide (x = ks[i])) = some i := by
  rw [List.findIdx?_eq_some_iff_getElem]
  refine ⟨hi, by simp, fun j hj => ?_⟩
  have hji : j ≠ i := by omega
  simp
  intro e
  exact hji ((List.getElem_inj hd).1 e)
theorem remL_get {l : List Body} {i j : Nat} (hi : i < l.length) (hj : j < (remL l i).length) : (remL l i)[j] = if j = i then l[l.length - 1] else l[j]'(by rw [remL_len] at hj; omega) := by
  have hne : l ≠ [] := by rintro rfl; simp at hi
  have hl : l.getLastD ⟨0, 0, 0, 0, 0, 0, 0, 0, 0, 0⟩ = l[l.length - 1] := by
    rw [List.getLastD_eq_getLast?, List.getLast?_eq_getElem?, List.getElem?_eq_getElem (by omega)]
    rfl
  have hjl : j < l.length := by rw [remL_len] at hj; omega
  have e1 : (remL l i)[j]? = some (if j = i then l[l.length - 1] else l[j]) := by
    unfold remL
    rw [List.dropLast_eq_take, List.getElem?_take, if_pos (by rw [remL_len] at hj; simpa using hj), List.getElem?_set, hl]
    by_cases h : i = j
    · subst h; simp [hjl]
    · rw [if_neg h, if_neg (fun e : j = i => h e.symm)]
      exact List.getElem?_eq_getElem hjl
  rw [List.getElem?_eq_getElem hj] at e1
  exact Option.some.inj e1
theorem idx_get {l : List Body} (hd : (l.map Body.key).Nodup) {i : Nat} (hi : i < l.length) : idx l l[i].key = some i := by
  rw [idx_keys]
  have := findIdx_nodup hd (i := i) (by simpa using hi)
  simpa using this
theorem idx_mem {l : List Body} {k : Int} : idx l k = none ↔ ∀ b ∈ l, b.key ≠ k := by
  unfold idx
  rw [List.findIdx?_eq_none_iff]
  simp
theorem remL_keys {l : List Body} (hd : (l.map Body.key).Nodup) {i : Nat} (hi : i < l.length) : ((remL l i).map Body.key).Nodup := by
  have key : ∀ x y (hx : x < l.length) (hy : y < l.length), x ≠ y → l[x].key ≠ l[y].key := fun x y hx hy hxy e => by
    have h1 := idx_get hd hx
    rw [e, idx_get hd hy] at h1
    exact hxy (by simpa using h1.symm)
  rw [List.nodup_iff_pairwise_ne, List.pairwise_iff_getElem]
  intro a b ha hb hab
  have hlen := remL_len l i
  have ha' : a < (remL l i).length := by simpa using ha
  have hb' : b < (remL l i).length := by simpa using hb
  simp only [List.getElem_map, remL_get hi ha', remL_get hi hb']
  have hal : a < l.length := by omega
  have hbl : b < l.length := by omega
  by_cases h1 : a = i
  · rw [if_pos h1, if_neg (by omega)]
    exact key _ _ (by omega) hbl (by omega)
  · rw [if_neg h1]
    by_cases h2 : b = i
    · rw [if_pos h2]
      exact key _ _ hal (by omega) (by omega)
    · rw [if_neg h2]
      exact key _ _ hal hbl (by omega)
theorem idx_rem {l : List Body} (hd : (l.map Body.key).Nodup) {i : Nat} (hi : i < l.length) (k : Int) : idx (remL l i) k = if k = l[i].key then none else if k = (l[l.length - 1]'(by omega)).key then some i else idx l k := by
  have hlen := remL_len l i
  have key : ∀ x y (hx : x < l.length) (hy : y < l.length), l[x].key = l[y].key → x = y := fun x y hx hy e => by
    have h1 := idx_get hd hx
    rw [e, idx_get hd hy] at h1
    simpa using h1.symm
  have hd' := remL_keys hd hi
  by_cases h1 : k = l[i].key
  · rw [if_pos h1, idx_mem]
    intro b hb e
    obtain ⟨j, hj, rfl⟩ := List.getElem_of_mem hb
    rw [remL_get hi hj, h1] at e
    by_cases hji : j = i
    · rw [if_pos hji] at e
      have := key _ _ (by omega) hi e
      omega
    · rw [if_neg hji] at e
      exact hji (key _ _ (by omega) hi e)
  · rw [if_neg h1]
    by_cases h2 : k = (l[l.length - 1]'(by omega)).key
    · rw [if_pos h2]
      have hil : i < (remL l i).length := by
        rw [hlen]
        have : i ≠ l.length - 1 := fun e => h1 (by rw [h2]; congr 2; exact e.symm)
        omega
      have := idx_get hd' hil
      rw [remL_get hi hil, if_pos rfl, ← h2] at this
      exact this
    · rw [if_neg h2]
      cases hk : idx l k with
      | none =>
        rw [idx_mem] at hk ⊢
        intro b hb e
        obtain ⟨j, hj, rfl⟩ := List.getElem_of_mem hb
        rw [remL_get hi hj] at e
        by_cases hji : j = i
        · rw [if_pos hji] at e; exact h2 e.symm
        · rw [if_neg hji] at e; exact hk _ (List.getElem_mem _) e
      | some j =>
        obtain ⟨hj, e⟩ := idx_some hk
        have hji : j ≠ i := by rintro rfl; exact h1 e.symm
        have hjl : j ≠ l.length - 1 := by rintro rfl; exact h2 e.symm
        have hj' : j < (remL l i).length := by omega
        have := idx_get hd' hj'
        rw [remL_get hi hj', if_neg hji, e] at this
        exact this
end Go.Proofs.YtnhaiecbjipodaaGreatDoor
/- pairs.boxes: the boxes of all bodies, by key. -/
namespace Go.Proofs.YtnhaiecbjipodaaGreatDoor
open Go.RowKit Go.Shelf Go.Proofs
attribute [local go_sem] Grow.cell Grow.froz Grow.lt lt_s1 lt_s2 lt_s3 lt_s4 lt_s5
theorem fill_step {l : List Body} {k : Nat} {es : List (Int × Value)} {f : Body → Value} (hd : (l.map Body.key).Nodup) (hk : k < l.length) (h : ∀ b ∈ l.take k, getM es b.key = some (f b)) :
    ∀ b ∈ l.take (k + 1), getM (putM es l[k].key (f l[k])) b.key = some (f b) := by
  intro b hb
  rw [List.take_succ_eq_append_getElem hk, List.mem_append, List.mem_singleton] at hb
  rw [getM_put]
  rcases hb with hb | rfl
  · rw [if_neg, h b hb]
    intro e
    obtain ⟨j, hj, rfl⟩ := List.getElem_of_mem hb
    have hj' : j < k := by simp at hj; omega
    rw [List.getElem_take] at e
    have h3 : (l.map Body.key)[j]'(by simp; omega) = (l.map Body.key)[k]'(by simpa using hk) := by simpa using e
    have := (List.getElem_inj hd).1 h3
    omega
  · rw [if_pos rfl]
set_option maxRecDepth 100000 in
set_option maxHeartbeats 1000000 in
theorem boxes_any (v : Value) (l : List Body) (w : World) (hl : Reads bodyE w v l) (hV : ∀ b ∈ l, Placed b) (hd : (l.map Body.key).Nodup) :
    Calls Tryz.prog 147 #[v] w fun e w' => ∃ es, e = .returned (.map (some w.heap.size)) ∧ MapAt atKey w' w.heap.size es ∧ (∀ b ∈ l, getM es b.key = some (.agg (boxI b).arr)) ∧ Below w.heap.size w w' := by
  have q := hl.1
  obtain ⟨A, c, b1, o1, rfl, hA, hx⟩ := hl.bodies
  have hA := Lib.hid hA
  have hx := Lib.hid hx
  have HV := Lib.hid hV
  have HD := Lib.hid hd
  clear hl hV hd
  go_enter Tryz.func147, Tryz.ntmps147
  have qM : ∀ w : World, (Instr.makeMap 213 none).run Tryz.prog w = .ok (.map (some w.heap.size)) (w.alloc (.map #[] 0)) := fun _ => rfl
  go_wp2
  go_loopw [9] (fun i wr => ∃ (k : Nat) (es : List (Int × Value)), k ≤ l.length ∧ i = .int .i64 k ∧ MapAt atKey wr w.heap.size es ∧ (∀ b ∈ l.take k, getM es b.key = some (.agg (boxI b).arr)) ∧ Below w.heap.size w wr) (fun i _ => l.length - (intOf i).toNat)
  case atStart => exact ⟨0, [], by omega, rfl, MapAt.made _, by simp, (by repeat (first | with_reducible exact Below.refl _ _ | with_reducible refine bel_alloc ?_ _ | with_reducible refine bel_drewN ?_ _ | with_reducible refine bel_drew ?_ | with_reducible refine bel_grow ?_ _ | with_reducible refine bel_set ?_ (by first | omega | (simp; done) | (simp; omega)) _))⟩
  case round =>
    obtain ⟨k, es, hk, rfl, hm, hes, hbel⟩ := hrel
    have HM := Lib.hid hm
    have HE := Lib.hid hes
    have HB := Lib.hid hbel
    have hsz := hm.lt
    clear hm hes hbel qM
    by_cases hlt : k < l.length
    · obtain ⟨eA, zA⟩ := hA.out (by omega)
      have ix := fun w => idx_body (c := c) eA hlt w
      clear eA
      obtain ⟨q0, q1, q2, q3, q4, q5, q6, q7, q8, q9⟩ := (hx.out k hlt).below HB.out
      have hP := HV.out l[k] (List.getElem_mem hlt)
      obtain ⟨x, hxk⟩ : ∃ x, x = l[k] := ⟨_, rfl⟩
      rw [← hxk] at q0 q1 q2 q3 q4 q5 q6 q7 q8 q9 hP
      have HK := Lib.hid hxk
      clear hxk
      have zz : wr.heap.size < (wr.alloc (.cells x.arr 27)).heap.size := by simp
      go_wp2_with fail
      refine wp_region_grow_tail 5 (by kernel_rfl) (by kernel_rfl) ?_
      simp only [List.take_succ_cons, List.take_zero]
      repeat (first | go_big_quiet_skip | (go_big_quiet_want; go_big_quiet_op; first | go_big_quiet_on | (go_big_quiet_call (first
          | (go_at_call 169; exact Calls.grow_of (boxOf_any x _ hP))))))
      refine wpQuiet_nil ?_
      rintro _ ⟨g1, rfl⟩
      simp only [List.drop_succ_cons, List.drop_zero]
      have hm1 := ((HM.out.of_block (Below.heap_alloc wr (.cells x.arr 27) w.heap.size hsz))).of_block (g1.below.block w.heap.size (by simp; omega))
      refine wpList_store (K := atKey) rfl (.tmp 13) (.tmp 15) (.tmp 17) 213 220 rfl Tryz.underlying213 w.heap.size es x.key (.agg (boxI x).arr) rfl rfl rfl hm1 ?_
      intro w4 hm4 hg4 hs4
      have HM4 := Lib.hid hm4
      have HG4 := Lib.hid hg4
      clear hm1 hm4 hg4 hs4
      go_wp2
      go_roundw
      case rel =>
        refine ⟨k + 1, _, by omega, by go_num, HM4.out, by rw [HK.out]; exact fill_step HD.out hlt HE.out, ?_⟩
        have h1 : Below w.heap.size w g1.world := (HB.out.alloc HB.out.size _).trans (g1.below.mono (by simp; omega))
        exact h1.grown HG4.out h1.size (fun k e => by simp at e; omega)
      case measure => simp [intOf]; omega
    · have hkl : k = l.length := by omega
      have HN := Lib.hid hkl
      clear hkl
      go_wp2
      go_ret
      exact ⟨es, rfl, HM.out, fun b hb => HE.out b (by rw [HN.out, List.take_length]; exact hb), HB.out⟩
end Go.Proofs.YtnhaiecbjipodaaGreatDoor
