/- Contracts of the program's functions, by walks, and plain facts beside them: Sort, Compare. -/
import Derived.Test.YtnhaiecbjipodaaGreatDoorB01
import Derived.Test.YtnhaiecbjipodaaGreatDoorB10
import Derived.Test.YtnhaiecbjipodaaGreatDoorB02
/- slices.SortFunc at a slice of the call's own, and the two instances that the program calls. -/
namespace Go.Proofs.YtnhaiecbjipodaaGreatDoor
open Go.RowKit Go.Shelf Go.Proofs

theorem flat_k {α : Type} (enc : α → List Value) (k : Nat) (hk : ∀ x, (enc x).length = k) : ∀ l : List α, (l.flatMap enc).length = l.length * k
  | [] => by simp
  | a :: r => by rw [List.flatMap_cons, List.length_append, hk, flat_k enc k hk r, List.length_cons, Nat.succ_mul]; omega
theorem flatK_list {α : Type} [Inhabited α] (enc : α → List Value) (k : Nat) (hk : ∀ x, (enc x).length = k) (l : List α) : (Go.Sort.flatK enc k l.toArray).toList = l.flatMap enc := by
  refine List.ext_getElem ?_ fun t h1 h2 => ?_
  · simp [flat_k enc k hk l]
  · have ht : t < l.length * k := by simpa using h1
    have e1 : (Go.Sort.flatK enc k l.toArray)[t]! = (Go.Sort.flatK enc k l.toArray).toList[t] := by
      rw [getElem!_pos _ t (by simpa using ht)]; simp
    rw [← e1, Go.Sort.get_flatK _ _ _ _ (by simpa using ht)]
    clear e1 h1
    induction l generalizing t with
    | nil => simp at ht
    | cons a r ih =>
      have k0 : 0 < k := by rcases Nat.eq_zero_or_pos k with h | h; · subst h; simp at ht
                            · exact h
      by_cases htk : t < k
      · have : t / k = 0 := Nat.div_eq_of_lt htk
        have h3 : t < (enc a).length := by rw [hk]; exact htk
        rw [this, Nat.mod_eq_of_lt htk]
        simp only [List.flatMap_cons]
        rw [List.getElem_append_left h3]
        simp [h3]
      · obtain ⟨u, rfl⟩ : ∃ u, t = k + u := ⟨t - k, by omega⟩
        have hu : u < r.length * k := by rw [List.length_cons, Nat.succ_mul] at ht; omega
        have h4 : u < (r.flatMap enc).length := by rw [flat_k enc k hk]; exact hu
        have := ih (t := u) h4 hu
        simp only [List.flatMap_cons]
        rw [List.getElem_append_right (by rw [hk]; omega)]
        simp only [hk, Nat.add_sub_cancel_left]
        rw [← this, Nat.add_div_left _ k0, Nat.add_mod_left]
        simp

section
variable {P : Program} {ρ : Ren} {α : Type} [Inhabited α]
set_option maxHeartbeats 1000000 in
theorem sort_own (L : Go.Proofs.SlLaysF0.n6 P ρ) (E : Enc α) (t : TypeId) (aE : ∀ w, (isAgg (ρ.t 24)).run P w = .ok true w) (zE : ∀ w, (Go.sizeOf (ρ.t 24)).run P w = .ok E.sz w) (cf : α → α → Int) (hO : Go.Sort.SWO (Go.Proofs.ltOf cf)) (g : Nat) (cb : Array Value)
    (eg : ∀ args w, (callFunc g args).run P w = .ok (.enter g args) w)
    (hcmp : ∀ (W : World) (x y : α), Calls P g (#[.agg (E.cells x).toArray, .agg (E.cells y).toArray] ++ cb) W fun e w' => e = .returned (.int .i64 (cf x y)) ∧ ∃ q os', w' = Go.Sort.grow (W.drewN q) os')
    (w : World) (base : Nat) (v : Value) (l : List α) (h : Own E t w base v l) (hl : l.length < 4611686018427387904) :
    Calls P (ρ.f 6) #[v, .func (.func g) #[] cb] w fun e w' => e = .returned (.tuple #[]) ∧ ∃ l' : List α, l'.Perm l ∧ l'.Pairwise (fun a b => Go.Proofs.ltOf cf b a = false) ∧ Own E t w' base v l' ∧ Alter (fun k => v.ownBlock = some k) w w' := by
  obtain ⟨hlen, h2⟩ := h
  rcases h2 with ⟨rfl, h0⟩ | ⟨gb, cap, cur, rfl, hb, hg, hc, hm, hs, ht⟩
  · obtain rfl : l = [] := List.eq_nil_of_length_eq_zero h0
    refine (AnyF.slices_SortFunc_none L none 0 (.func (.func g) #[] cb) w).mono ?_
    rintro e w' ⟨rfl, rfl⟩
    exact ⟨rfl, [], .refl _, .nil, Own.nil _ _ _ _, Alter.refl _ _⟩
  · have hfl := flatK_list E.cells E.sz E.len l
    have hcur : ∀ j, j < l.length * E.sz → cur[j]? = some (Go.Sort.flatK E.cells E.sz l.toArray)[j]! := fun j hj => by
      have e := congrArg (fun z => z[j]?) (ht.trans hfl.symm)
      simp only [List.getElem?_take, hj, if_true] at e
      rw [Array.getElem?_toList] at e
      rw [e, Array.getElem?_toList, Array.getElem?_eq_getElem (by simpa using hj), getElem!_pos _ j (by simpa using hj)]
    have hH : Go.Sort.HoldsK E.cells E.sz w gb 0 l.toArray := fun j hj => by
      have hj' : j < l.length * E.sz := by simpa using hj
      refine ⟨?_, by simp [World.frozen?, hg]⟩
      simp [World.cell?, hg]
      exact hcur j hj'
    refine (AnyQ.slices_SortFunc L E.sz aE zE E.cells E.len E.one cf hO g cb gb 0 cap l.toArray w eg (fun m os dk _ x y => hcmp _ x y) hH (lt_of_block hg) hl).mono ?_
    rintro e w' ⟨rfl, d', n, os, ⟨hsz, _, hperm⟩, hsort, rfl⟩
    have hsz' : d'.size = l.length := by simpa using hsz
    have hfl' := flatK_list E.cells E.sz E.len d'.toList
    refine ⟨rfl, d'.toList, ?_, ?_, ⟨?_, .inr ⟨gb, cap, Go.Sort.putCells id 0 (Go.Sort.flatK E.cells E.sz d') cur, ?_, hb, ?_, ?_, hm, ?_, ?_⟩⟩, ⟨rfl, rfl, rfl, ?_, fun k hk hne => ?_⟩⟩
    · have : d'.extract 0 l.toArray.size = d' := by rw [← hsz]; simp
      rw [this] at hperm
      simpa using hperm
    · rw [List.pairwise_iff_getElem]
      intro i j hi hj hij
      have := hsort i j (by omega) hij (by simpa [hsz'] using hj)
      rw [getElem!_pos d' j (by simpa using hj), getElem!_pos d' i (by simpa using hi)] at this
      simpa using this
    · rw [flat_len]
    · simp [hsz']
    · unfold sortWorldK
      rw [Go.Sort.heap_grow_old _ _ (by simp [Go.Sort.putRowK, Go.Sort.putRow, Go.Sort.mapBlock]; exact lt_of_block hg)]
      simp [Go.Sort.putRowK, Go.Sort.putRow, Go.Sort.mapBlock, Array.getElem?_modify, hg, Go.Sort.onCells]
    · simpa [hsz'] using hc
    · simp [Go.Sort.putCells, hs]
    · refine List.ext_getElem? fun j => ?_
      rw [← hfl', List.getElem?_take]
      by_cases hj : j < d'.toList.length * E.sz
      · have hj' : j < l.length * E.sz := by simpa [hsz'] using hj
        have hjs : j < d'.size * E.sz := by rw [hsz']; exact hj'
        rw [if_pos hj, Array.getElem?_toList, Array.getElem?_toList]
        simp only [Go.Sort.putCells, Array.getElem?_mapIdx, hcur j hj', Option.map_some]
        rw [if_pos ⟨by omega, by simpa using hjs⟩]
        simp [hjs]
      · rw [if_neg hj, List.getElem?_eq_none (by simpa using hj)]
    · unfold sortWorldK
      simp [Go.Sort.putRowK, Go.Sort.putRow, Go.Sort.mapBlock]
    · have hkg : gb ≠ k := fun e => hne (by rw [e]; rfl)
      unfold sortWorldK
      rw [Go.Sort.heap_grow_old _ _ (by simp [Go.Sort.putRowK, Go.Sort.putRow, Go.Sort.mapBlock]; exact hk)]
      simp [Go.Sort.putRowK, Go.Sort.putRow, Go.Sort.mapBlock, Array.getElem?_modify, hkg]
end
end Go.Proofs.YtnhaiecbjipodaaGreatDoor
/- The two comparisons that the program sorts by, exact, and slices.SortFunc with them. -/
namespace Go.Proofs.YtnhaiecbjipodaaGreatDoor
open Go.RowKit Go.Shelf Go.Proofs
attribute [local go_sem] Grow.cell Grow.froz Grow.lt lt_s1 lt_s2 lt_s3 lt_s4 lt_s5
instance bodyInh : Inhabited Body := ⟨⟨0, 0, 0, 0, 0, 0, 0, 0, 0, 0⟩⟩
def pairE : Enc (Int × Int) := ⟨2, fun c => [.int .u32 c.1, .int .u32 c.2], fun _ => rfl, fun c u hu => by
  simp at hu
  rcases hu with rfl | rfl <;> rfl, by decide⟩
def cmpP (a b : Int × Int) : Int := if cmpI a.1 b.1 = 0 then cmpI a.2 b.2 else cmpI a.1 b.1
def cmpB (a b : Body) : Int := cmpI a.key b.key
theorem cmpI_lt {x y : Int} : cmpI x y < 0 ↔ x < y := by
  unfold cmpI
  split
  · simp [*]
  · split <;> simp <;> omega
theorem cmpI_eq {x y : Int} : cmpI x y = 0 ↔ x = y := by
  unfold cmpI
  split
  · simp; omega
  · split <;> simp <;> omega
theorem cmpB_lt {a b : Body} : ltOf cmpB a b = true ↔ a.key < b.key := by simp [ltOf, cmpB, cmpI_lt]
theorem cmpP_lt {a b : Int × Int} : ltOf cmpP a b = true ↔ a.1 < b.1 ∨ a.1 = b.1 ∧ a.2 < b.2 := by
  unfold ltOf cmpP
  by_cases h : a.1 = b.1
  · simp [h, cmpI_eq.2 rfl, cmpI_lt]
  · simp [h, cmpI_eq, cmpI_lt]
theorem swoB : Go.Sort.SWO (ltOf cmpB) where
  irrefl x := by rw [Bool.eq_false_iff]; intro h; have := cmpB_lt.1 h; omega
  trans x y z h1 h2 := by rw [cmpB_lt] at *; omega
  ntrans x y z h1 h2 := by
    rw [Bool.eq_false_iff] at *
    simp only [ne_eq, cmpB_lt] at *
    omega
theorem swoP : Go.Sort.SWO (ltOf cmpP) where
  irrefl x := by rw [Bool.eq_false_iff]; intro h; have := cmpP_lt.1 h; omega
  trans x y z h1 h2 := by rw [cmpP_lt] at *; omega
  ntrans x y z h1 h2 := by
    rw [Bool.eq_false_iff] at *
    simp only [ne_eq, cmpP_lt] at *
    omega

theorem alloc3_grow (W : World) (o1 o2 o3 : Obj) (n : Nat) : (((W.alloc o1).alloc o2).drewN n).alloc o3 = Go.Sort.grow (W.drewN n) #[o1, o2, o3] := by
  rw [Go.Sort.alloc_eq_grow, Go.Sort.alloc_eq_grow, Go.Sort.alloc_eq_grow, Go.Sort.grow_grow]
  show Go.Sort.grow (Go.Sort.grow (W.drewN n) _) _ = _
  rw [Go.Sort.grow_grow]
  rfl
theorem alloc2_grow (W : World) (o1 o2 : Obj) : (W.alloc o1).alloc o2 = Go.Sort.grow (W.drewN 0) #[o1, o2] := by
  rw [Go.Sort.alloc_eq_grow, Go.Sort.alloc_eq_grow, Go.Sort.grow_grow]
  rfl
set_option maxHeartbeats 1000000 in
theorem gcompare_any (a b : Int × Int) (W : World) : Calls Tryz.prog 179 #[.agg #[.int .u32 a.1, .int .u32 a.2], .agg #[.int .u32 b.1, .int .u32 b.2]] W fun e w' => e = .returned (.int .i64 (cmpP a b)) ∧ ∃ q os', w' = Go.Sort.grow (W.drewN q) os' := by
  go_enter Tryz.func179, Tryz.ntmps179
  go_upto_region 1 with fail
  refine wp_region_drew_tail 10 (by kernel_rfl) (by kernel_rfl) ?_
  simp only [List.take_succ_cons, List.take_zero]
  repeat (first | go_big_quiet_skip | (go_big_quiet_want; go_big_quiet_op; first | go_big_quiet_on | (go_big_quiet_call ((go_at_call 51; exact Calls.quiet_of_same (compare_u32 _ _ _))))))
  refine wpQuiet_nil ?_
  rintro _ ⟨nq, rfl⟩
  simp only [List.drop_succ_cons, List.drop_zero]
  have hP : cmpP a b = if cmpI a.1 b.1 = 0 then cmpI a.2 b.2 else cmpI a.1 b.1 := rfl
  generalize cmpI a.1 b.1 = c1 at *
  generalize cmpI a.2 b.2 = c2 at *
  have HO := fun B W h0 h1 => or_any c1 c2 B W h0 h1
  obtain ⟨r, hr⟩ : ∃ r, r = cmpP a b := ⟨_, rfl⟩
  rw [← hP, ← hr] at HO
  have HR := Lib.hid hr
  clear hP hr
  go_wp2_with (go_at_call 205; refine (HO _ _ (by simp [go_sem]) (by simp [go_sem])).mono ?_; rintro e w' ⟨rfl, rfl⟩)
  go_ret
  exact ⟨ret_int HR.out, nq, _, alloc3_grow _ _ _ _ _⟩
set_option maxHeartbeats 1000000 in
theorem bodies1_any (a b : Body) (W : World) : Calls Tryz.prog 50 #[.agg a.arr, .agg b.arr] W fun e w' => e = .returned (.int .i64 (cmpB a b)) ∧ ∃ q os', w' = Go.Sort.grow (W.drewN q) os' := by
  go_enter Tryz.func50, Tryz.ntmps50
  go_wp2_with (go_at_call 51; refine (compare_u32 _ _ _).mono ?_; rintro e w' ⟨rfl, rfl⟩)
  go_ret
  exact ⟨rfl, 0, _, alloc2_grow _ _ _⟩
end Go.Proofs.YtnhaiecbjipodaaGreatDoor
