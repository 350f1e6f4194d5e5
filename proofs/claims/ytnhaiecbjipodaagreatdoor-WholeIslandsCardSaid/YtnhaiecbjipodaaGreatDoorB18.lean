/- Contracts of the program's functions, by walks, and plain facts beside them: Bodies, StoreAt. -/
import Derived.Test.YtnhaiecbjipodaaGreatDoorB13
import Derived.Test.YtnhaiecbjipodaaGreatDoorB14
import Derived.Lib.SliceRun
import Derived.Test.YtnhaiecbjipodaaGreatDoorB02
import Derived.Test.YtnhaiecbjipodaaGreatDoorB17
/- slices.Clone at bodies, the sort of bodies, (*store.Store).Bodies. -/
namespace Go.Proofs.YtnhaiecbjipodaaGreatDoor
open Go.RowKit Go.Shelf Go.Proofs
attribute [local go_sem] Grow.cell Grow.froz Grow.lt lt_s1 lt_s2 lt_s3 lt_s4 lt_s5
theorem Reads.cellsA {α : Type} {E : Enc α} {w : World} {A : Option Addr} {c : Nat} {l : List α} (h : Reads E w (.slice A l.length c) l) : 0 < l.length → ∃ ad, A = some ad ∧ ∀ j u, (l.flatMap E.cells)[j]? = some u → w.cell? (ad.add j) = some u := by
  intro hl
  obtain ⟨h1, A', c', e, h3⟩ := h
  simp only [Value.slice.injEq] at e
  obtain ⟨rfl, _, rfl⟩ := e
  obtain ⟨b, off, rfl, _⟩ := h3 0 l[0] (List.getElem?_eq_getElem hl)
  refine ⟨_, rfl, fun j u hu => ?_⟩
  have hj : j < l.length * E.sz := by
    have := (List.getElem?_eq_some_iff.1 hu).1
    rwa [flat_len] at this
  have hz := E.pos
  have hi : j / E.sz < l.length := Nat.div_lt_of_lt_mul (by rwa [Nat.mul_comm] at hj)
  obtain ⟨b', off', e', hc⟩ := h3 (j / E.sz) l[j / E.sz] (List.getElem?_eq_getElem hi)
  simp only [Option.some.injEq, Addr.mk.injEq, and_true] at e'
  obtain ⟨rfl, rfl⟩ := e'
  have hrl : j % E.sz < (E.cells l[j / E.sz]).length := by rw [E.len]; exact Nat.mod_lt _ hz
  have hjj : j / E.sz * E.sz + j % E.sz = j := by have := Nat.div_add_mod j E.sz; rwa [Nat.mul_comm] at this
  have hu' := flat_get E l (j / E.sz) _ (j % E.sz) _ (List.getElem?_eq_getElem hi) (List.getElem?_eq_getElem hrl)
  rw [hjj, hu] at hu'
  rw [Option.some.injEq] at hu'
  have := hc (j % E.sz) u (by rw [hu']; exact List.getElem?_eq_getElem hrl)
  rw [← this]
  simp only [Addr.add]
  rw [Nat.add_assoc, hjj]
  by_cases hj0 : j = 0 <;> simp [hj0]
theorem bdInfo : (Tryz.prog.info? 27).map (fun i => (i.zero, i.size, i.bytes)) = some (some (.agg #[.int .u32 0, .int .i32 0, .int .i32 0, .int .i32 0, .int .i32 0, .int .i32 0, .int .i32 0, .int .i32 0, .int .i32 0, .int .i32 0]), 10, 40) := by kernel_rfl
set_option maxHeartbeats 1000000 in
theorem clone_any (v : Value) (l : List Body) (w : World) (base : Nat) (h : Own bodyE 27 w base v l) (hn : l.length ≤ 4096) : Calls Tryz.prog 48 #[v] w fun e w' => ∃ v', e = .returned v' ∧ Own bodyE 27 w' w.heap.size v' l ∧ Below w.heap.size w w' := by
  have hr := h.reads (by omega)
  have q22 : ∀ (w : World) (a : Option Addr) (n c n' c' : Nat), (binOp .eql 38 (.slice a n c) (.slice none n' c')).run Tryz.prog w = .ok (.bool a.isNone) w := fun w a n c n' c' => Lib.run_eql_slice_nil w _ _ a n c n' c' Tryz.underlying38
  rcases h.2 with ⟨rfl, h0⟩ | ⟨gb, cap, cur, rfl, hb, hg, hc, hm, hs, ht⟩
  · obtain rfl : l = [] := List.eq_nil_of_length_eq_zero h0
    clear h h0 hr hn
    go_enter Tryz.func48, Tryz.ntmps48
    go_wp2
    go_ret
    exact ⟨_, rfl, Own.nil _ _ _ _, Below.refl _ _⟩
  · have HC := Lib.hid ((hr.alloc (.cells #[] 27)).cellsA)
    have HL := Lib.hid hn
    clear hr ht hs hm hc h hn hg hb
    go_enter Tryz.func48, Tryz.ntmps48
    go_wp2_with (at_builtin; refine copy_law bodyE w.heap.size rfl (.tmp 5) (.tmp 6) 38 27 _ 40 (by rfl) Tryz.underlying38 bdInfo rfl (by decide) w.heap.size (heap_alloc_new w (.cells #[] 27)) (Nat.le_refl _) l _ _ rfl rfl HC.out (by have := HL.out; omega) ?_; intro v1 ga O1)
    go_ret
    exact ⟨_, rfl, O1, (bel_grow ((Below.refl w.heap.size w).alloc (Nat.le_refl _) _) ga)⟩

theorem sortBodies_any (w : World) (base : Nat) (v : Value) (l : List Body) (h : Own bodyE 27 w base v l) (hn : l.length ≤ 140737488355328) :
    Calls Tryz.prog 49 #[v, .func (.func 50) #[] #[]] w fun e w' => e = .returned (.tuple #[]) ∧ ∃ l' : List Body, l'.Perm l ∧ l'.Pairwise (fun a b => a.key ≤ b.key) ∧ Own bodyE 27 w' base v l' ∧ Alter (fun k => v.ownBlock = some k) w w' := by
  refine (sort_own Tryz.sortB bodyE 27 Tryz.isAgg27 Tryz.sizeOf27 cmpB swoB 50 #[] (enters_of Tryz.func50 (by kernel_rfl) rfl) (fun W x y => bodies1_any x y W) w base v l h (by omega)).mono ?_
  rintro e w' ⟨rfl, l', h1, h2, h3⟩
  refine ⟨rfl, l', h1, h2.imp ?_, h3⟩
  intro a b hab
  by_cases hlt : b.key < a.key
  · rw [cmpB_lt.2 hlt] at hab; cases hab
  · omega
set_option maxHeartbeats 1000000 in
theorem bodies_any (p : Nat) (v : Value) (l : List Body) (w : World) (base : Nat) (hc : w.cell? ⟨p, 0, none⟩ = some v) (h : Own bodyE 27 w base v l) (hn : l.length ≤ 4096) :
    Calls Tryz.prog 28 #[.pointer (some ⟨p, 0, none⟩)] w fun e w' => ∃ v' l', e = .returned v' ∧ Own bodyE 27 w' w.heap.size v' l' ∧ l'.Perm l ∧ l'.Pairwise (fun a b => a.key ≤ b.key) ∧ Below w.heap.size w w' := by
  have HO := Lib.hid h
  have HL := Lib.hid hn
  clear h hn
  go_enter Tryz.func28, Tryz.ntmps28
  go_wp2_with (first | (go_at_call 48; refine (clone_any v l w base HO.out HL.out).mono ?_; rintro e w1 ⟨v1, rfl, h1, hb1⟩; obtain ⟨g1, rfl⟩ := Grow.of hb1; have H1 := Lib.hid h1; clear h1 hb1) | (go_at_call 49; refine (sortBodies_any _ w.heap.size v1 l H1.out (by have := HL.out; omega)).mono ?_; rintro e w2 ⟨rfl, l', hp, hs, hO, hal⟩; have H2 := Lib.hid (And.intro hp (And.intro hs (And.intro hO hal))); clear hp hs hO hal))
  go_ret
  obtain ⟨hp, hs, hO, hal⟩ := H2.out
  refine ⟨_, l', rfl, hO, hp, hs, g1.below.trans (hal.below g1.le fun k hk e => ?_)⟩
  have := H1.out.base_le k e
  omega
end Go.Proofs.YtnhaiecbjipodaaGreatDoor
/- A store of bodies in memory: its block of two cells, its slots, its map. -/
namespace Go.Proofs.YtnhaiecbjipodaaGreatDoor
open Go.RowKit Go.Shelf Go.Proofs
attribute [local go_sem] Grow.cell Grow.froz Grow.lt lt_s1 lt_s2 lt_s3 lt_s4 lt_s5

abbrev atKey : MKey Tryz.prog 23 Int := intKey Tryz.prog 23 .u32 Tryz.underlying23
def idx (l : List Body) (k : Int) : Option Nat := l.findIdx? fun b => b.key = k
def AtOk (w : World) (F : Nat → Prop) (l : List Body) (m : Value) : Prop :=
  (m = .map none ∧ l = []) ∨ ∃ mb es, m = .map (some mb) ∧ F mb ∧ MapAt atKey w mb es ∧ ∀ k, getM es k = (idx l k).map fun (i : Nat) => Value.int .i64 (i : Int)
structure StoreIn (w : World) (p : Nat) (F : Nat → Prop) (l : List Body) (v m : Value) : Prop where
  blk : CellsAt w p #[v, m] 78
  fp : F p
  own : Own bodyE 27 w 0 v l
  fo : ∀ k, v.ownBlock = some k → F k
  nodup : (l.map Body.key).Nodup
  len : l.length ≤ 4096
  ok : AtOk w F l m
def StoreAt (w : World) (p : Nat) (F : Nat → Prop) (l : List Body) : Prop := ∃ v m, StoreIn w p F l v m

theorem own_block {α : Type} {E : Enc α} {t : TypeId} {w w' : World} {b : Nat} {v : Value} {l : List α} (h : Own E t w b v l) (hk : ∀ k, v.ownBlock = some k → k < w.heap.size → w'.heap[k]? = w.heap[k]?) : Own E t w' b v l := by
  refine ⟨h.1, ?_⟩
  rcases h.2 with h1 | ⟨g, cap, cur, rfl, h2, h3, h4⟩
  · exact .inl h1
  · exact .inr ⟨g, cap, cur, rfl, h2, (hk g rfl (lt_of_block h3)).trans h3, h4⟩
theorem StoreIn.alter {w w' : World} {p : Nat} {F S : Nat → Prop} {l : List Body} {v m : Value} (h : StoreIn w p F l v m) (ha : Alter S w w') (hs : ∀ k, F k → ¬ S k) : StoreIn w' p F l v m where
  blk := h.blk.of_block (ha.block p h.blk.lt (hs p h.fp))
  fp := h.fp
  own := own_block h.own fun k hk hlt => ha.block k hlt (hs k (h.fo k hk))
  fo := h.fo
  nodup := h.nodup
  len := h.len
  ok := by
    rcases h.ok with h1 | ⟨mb, es, h1, h2, h3, h4⟩
    · exact .inl h1
    · exact .inr ⟨mb, es, h1, h2, h3.of_block (ha.block mb h3.lt (hs mb h2)), h4⟩

theorem StoreIn.ne {w : World} {p : Nat} {F : Nat → Prop} {l : List Body} {v m : Value} (h : StoreIn w p F l v m) : v.ownBlock ≠ some p := by
  intro e
  rcases h.own.2 with ⟨rfl, _⟩ | ⟨g, cap, cur, rfl, _, h3, _⟩
  · simp [Value.ownBlock] at e
  · obtain rfl : g = p := by simpa [Value.ownBlock] using e
    have := h.blk.symm.trans h3
    simp at this

/-- What Add does. -/
def addE (l : List Body) (b : Body) : Int := if errOf b ≠ 0 then errOf b else if (idx l b.key).isSome then 10 else if 4096 ≤ l.length then 12 else 0
set_option maxHeartbeats 1000000 in
theorem sAdd_bad (p : Nat) (b : Body) (w : World) (hb : errOf b ≠ 0) :
    Calls Tryz.prog 32 #[.pointer (some ⟨p, 0, none⟩), .agg b.arr] w fun e w' => e = .returned (.int .i64 (errOf b)) ∧ Below w.heap.size w w' := by
  have HC := fun W => check_flat b.key b.radius b.ax b.ay b.inv b.bounce b.px b.py b.vx b.vy W
  change ∀ W, Calls _ _ _ W fun e w' => e = .returned (.int .i64 (errOf b)) ∧ _ at HC
  generalize errOf b = c at *
  have h1 : (c != 0) = true := by simpa using hb
  go_enter Tryz.func32, Tryz.ntmps32
  go_wp2_with (go_at_call 71; refine (HC _).mono ?_; rintro e w1 ⟨rfl, hb⟩; obtain ⟨g1, rfl⟩ := Grow.of hb; clear hb)
  go_ret
  exact ⟨rfl, (by repeat (first | with_reducible exact Below.refl _ _ | with_reducible refine bel_alloc ?_ _ | with_reducible refine bel_drewN ?_ _ | with_reducible refine bel_drew ?_ | with_reducible refine bel_grow ?_ _ | with_reducible refine bel_set ?_ (by first | omega | (simp; done) | (simp; omega)) _))⟩
theorem nil_look (w : World) (k : Int) : (Instr.lookup 72 (.map none) (.int .u32 k) true).run Tryz.prog w = .ok (.tuple #[.int .i64 0, .bool false]) w :=
  run_lookup_nil atKey Tryz.underlying72 (Tryz.zeroValue3 w) k true
theorem at_look {w : World} {mb : Nat} {es : List (Int × Value)} (h : MapAt atKey w mb es) (k : Int) : (Instr.lookup 72 (.map (some mb)) (.int .u32 k) true).run Tryz.prog w = .ok (.tuple #[(getM es k).getD (.int .i64 0), .bool (getM es k).isSome]) w :=
  run_lookup h Tryz.underlying72 (Tryz.zeroValue3 w) k true
set_option maxHeartbeats 2000000 in
theorem sAdd_dup (p : Nat) (b : Body) (w : World) (F : Nat → Prop) (l : List Body) (v m : Value) (h : StoreIn w p F l v m) (hb : errOf b = 0) (i : Nat) (hi : idx l b.key = some i) :
    Calls Tryz.prog 32 #[.pointer (some ⟨p, 0, none⟩), .agg b.arr] w fun e w' => e = .returned (.int .i64 10) ∧ Below w.heap.size w w' := by
  have HC := fun W => check_flat b.key b.radius b.ax b.ay b.inv b.bounce b.px b.py b.vx b.vy W
  change ∀ W, Calls _ _ _ W fun e w' => e = .returned (.int .i64 (errOf b)) ∧ _ at HC
  rw [hb] at HC
  clear hb
  rcases h.ok with ⟨_, rfl⟩ | ⟨mb, es, rfl, _, hm, hg⟩
  · simp [idx] at hi
  have hgk : getM es b.key = some (.int .i64 i) := by rw [hg, hi]; rfl
  have hB := h.blk
  have hp : p < w.heap.size := hB.lt
  have hmb : mb < w.heap.size := hm.lt
  have c1 : w.cell? ⟨p, 1, none⟩ = some (.map (some mb)) := hB.at 1 rfl
  clear hg hi h
  go_enter Tryz.func32, Tryz.ntmps32
  go_upto_region 6 with (go_at_call 71; refine (HC _).mono ?_; rintro e w1 ⟨rfl, hb⟩; obtain ⟨g1, rfl⟩ := Grow.of hb; clear hb)
  have q1 : p < g1.world.heap.size := Nat.lt_of_lt_of_le (by simp; omega) g1.le
  have HL : ∀ g : Grow g1.world, (Instr.lookup 72 (.map (some mb)) (.int .u32 b.key) true).run Tryz.prog g.world = .ok (.tuple #[.int .i64 i, .bool true]) g.world := fun g => by
    have := at_look (((hm.of_block (Below.heap_alloc w _ mb hmb)).of_block (g1.below.block mb (by simp; omega))).of_block (g.below.block mb (Nat.lt_of_lt_of_le (by simp; omega) g1.le))) b.key
    rw [hgk] at this
    exact this
  refine wp_region_grow (by kernel_rfl) (by kernel_rfl) ?_
  repeat (first | go_big_quiet_skip | (go_big_quiet_want; go_big_quiet_op; first | go_big_quiet_on))
  refine wpQuiet_nil ?_
  rintro _ ⟨g2, rfl⟩
  go_wp2
  go_ret
  exact ⟨rfl, (by repeat (first | with_reducible exact Below.refl _ _ | with_reducible refine bel_alloc ?_ _ | with_reducible refine bel_drewN ?_ _ | with_reducible refine bel_drew ?_ | with_reducible refine bel_grow ?_ _ | with_reducible refine bel_set ?_ (by first | omega | (simp; done) | (simp; omega)) _))⟩
end Go.Proofs.YtnhaiecbjipodaaGreatDoor
