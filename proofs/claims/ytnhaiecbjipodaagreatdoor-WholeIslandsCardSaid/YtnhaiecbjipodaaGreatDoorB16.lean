/- Contracts of the program's functions, by walks, and plain facts beside them: Same, Store, Put, Add, View, RefGrav, Trans, MoveW. -/
import Derived.Test.YtnhaiecbjipodaaGreatDoorB02
import Derived.Test.YtnhaiecbjipodaaGreatDoorB15
import Derived.WalkKit
import Derived.WalkSpells
import Derived.WalkLawsBesides
import Derived.Lib.Hide
import Derived.Test.YtnhaiecbjipodaaGreatDoorRows
import Derived.Test.YtnhaiecbjipodaaGreatDoorB06
/- The contract of the reference's Same: it compares two slices of bodies. -/
namespace Go.Proofs.YtnhaiecbjipodaaGreatDoor
open Go.RowKit
attribute [local go_sem] Grow.cell Grow.froz Grow.lt
attribute [local go_sem high] body_eq

theorem same_len {l m : List Body} (h : l.length ≠ m.length) : (false : Bool) = decide (l = m) := by
  have : l ≠ m := fun e => h (by rw [e])
  simp [this]
theorem same_at {l m : List Body} {k : Nat} (h1 : k < l.length) (h2 : k < m.length) (h : l[k] ≠ m[k]) : (false : Bool) = decide (l = m) := by
  have : l ≠ m := fun e => h (by subst e; rfl)
  simp [this]
theorem same_all {l m : List Body} (h : l.length = m.length) (h2 : ∀ j (a : j < l.length) (b : j < m.length), l[j] = m[j]) : (true : Bool) = decide (l = m) := by
  have : l = m := List.ext_getElem h h2
  simp [this]
theorem eqB_no {x y : Body} (h : x ≠ y) : eqB x y = false := by
  cases hb : eqB x y with
  | false => rfl
  | true => exact absurd ((eqB_iff x y).1 hb) h

set_option maxHeartbeats 2000000 in
theorem same_any (v u : Value) (l m : List Body) (w : World) (hl : Reads bodyE w v l) (hm : Reads bodyE w u m) :
    Calls Tryz.prog 25 #[v, u] w fun e w' => e = .returned (.bool (decide (l = m))) ∧ Below w.heap.size w w' := by
  have q := hl.1
  have q2 := hm.1
  obtain ⟨A, c, b1, o1, rfl, hA, hx⟩ := hl.bodies
  obtain ⟨B, d, b2, o2, rfl, hB, hy⟩ := hm.bodies
  have hA := Lib.hid hA
  have hB := Lib.hid hB
  have hx := Lib.hid hx
  have hy := Lib.hid hy
  clear hl hm
  by_cases h : l.length = m.length
  · have hh : ((l.length : Int) == (m.length : Int)) = true := by simp [h]
    have H := Lib.hid h
    clear h
    go_enter Tryz.func25, Tryz.ntmps25
    go_wp2
    go_loopw [5] (fun i wr => ∃ k : Nat, k ≤ l.length ∧ i = .int .i64 k ∧ (∀ j (_ : j < k) (a : j < l.length) (b : j < m.length), l[j] = m[j]) ∧ Below w.heap.size w wr) (fun i _ => l.length - (intOf i).toNat)
    case atStart => exact ⟨0, by omega, rfl, fun j h => absurd h (by omega), Below.refl _ _⟩
    case round =>
      obtain ⟨k, hk, rfl, hP, hbel⟩ := hrel
      have HP := Lib.hid hP
      clear hP
      by_cases hlt : k < l.length
      · have hkm : k < m.length := by have := H.out; omega
        obtain ⟨eA, zA⟩ := hA.out (by omega)
        obtain ⟨eB, zB⟩ := hB.out (by omega)
        obtain ⟨q0, q1, q2, q3, q4, q5, q6, q7, q8, q9⟩ := (hx.out k hlt).below hbel
        obtain ⟨r0, r1, r2, r3, r4, r5, r6, r7, r8, r9⟩ := (hy.out k hkm).below hbel
        have zA' : b1 < wr.heap.size := Nat.lt_of_lt_of_le zA hbel.size
        have zB' : b2 < wr.heap.size := Nat.lt_of_lt_of_le zB hbel.size
        by_cases he : l[k] = m[k]
        · have hq : eqB ⟨l[k].key, l[k].radius, l[k].ax, l[k].ay, l[k].inv, l[k].bounce, l[k].px, l[k].py, l[k].vx, l[k].vy⟩ ⟨m[k].key, m[k].radius, m[k].ax, m[k].ay, m[k].inv, m[k].bounce, m[k].px, m[k].py, m[k].vx, m[k].vy⟩ = true := (eqB_iff _ _).2 he
          have HE := Lib.hid he
          clear he
          go_wp2
          refine wp_region_grow (by kernel_rfl) (by kernel_rfl) ?_
          repeat (first | go_big_quiet_skip | (go_big_quiet_want; go_big_quiet_op; first | go_big_quiet_on))
          refine wpQuiet_nil ?_
          rintro _ ⟨g, rfl⟩
          go_wp2
          go_roundw
          case rel => exact ⟨k + 1, by omega, by go_num, fun j hj a b => if e : j = k then by subst e; exact HE.out else HP.out j (by omega) a b, bel_grow hbel g⟩
          case measure => simp [intOf]; omega
        · have hq : eqB ⟨l[k].key, l[k].radius, l[k].ax, l[k].ay, l[k].inv, l[k].bounce, l[k].px, l[k].py, l[k].vx, l[k].vy⟩ ⟨m[k].key, m[k].radius, m[k].ax, m[k].ay, m[k].inv, m[k].bounce, m[k].px, m[k].py, m[k].vx, m[k].vy⟩ = false := eqB_no he
          have HE := Lib.hid he
          clear he
          go_wp2
          refine wp_region_grow (by kernel_rfl) (by kernel_rfl) ?_
          repeat (first | go_big_quiet_skip | (go_big_quiet_want; go_big_quiet_op; first | go_big_quiet_on))
          refine wpQuiet_nil ?_
          rintro _ ⟨g, rfl⟩
          go_wp2
          go_ret
          exact ⟨ret_bool (same_at hlt hkm HE.out), bel_grow hbel g⟩
      · go_wp2
        go_ret
        exact ⟨ret_bool (same_all H.out (fun j a b => HP.out j (by omega) a b)), hbel⟩
  · have hh : ((l.length : Int) == (m.length : Int)) = false := by simp; omega
    have H := Lib.hid h
    clear h
    go_enter Tryz.func25, Tryz.ntmps25
    go_wp2
    go_ret
    exact ⟨ret_bool (same_len H.out), Below.refl _ _⟩
end Go.Proofs.YtnhaiecbjipodaaGreatDoor
/- The contracts of the reference's Find, Put, Add and All: bodies in ascending order of their keys. -/
namespace Go.Proofs.YtnhaiecbjipodaaGreatDoor
open Go.RowKit
attribute [local go_sem] Grow.cell Grow.froz Grow.lt
attribute [local go_sem high] body_eq

def findK : List Body → Int → Nat → Int
  | [], _, _ => -1
  | b :: r, key, i => if b.key = key then (i : Int) else findK r key (i + 1)
theorem findK_range : ∀ (l : List Body) (key : Int) (i : Nat), findK l key i = -1 ∨ ((i : Int) ≤ findK l key i ∧ findK l key i < (i : Int) + l.length)
  | [], _, _ => .inl rfl
  | b :: r, key, i => by
    unfold findK
    by_cases h : b.key = key
    · rw [if_pos h]; right; simp; omega
    · rw [if_neg h]
      rcases findK_range r key (i + 1) with h1 | h1
      · exact .inl h1
      · right; simp; omega
theorem findK_hit {l : List Body} {key : Int} {k : Nat} (hk : k < l.length) (h : l[k].key = key) : findK (l.drop k) key k = k := by
  rw [List.drop_eq_getElem_cons hk, findK, if_pos h]
theorem findK_miss {l : List Body} {key : Int} {k : Nat} (hk : k < l.length) (h : ¬ l[k].key = key) : findK (l.drop k) key k = findK (l.drop (k + 1)) key (k + 1) := by
  rw [List.drop_eq_getElem_cons hk, findK, if_neg h]
theorem findK_end {l : List Body} {key : Int} {k : Nat} (hk : ¬ k < l.length) : findK (l.drop k) key k = -1 := by
  rw [List.drop_eq_nil_of_le (by omega)]; rfl

set_option maxHeartbeats 1000000 in
theorem find_any (v : Value) (l : List Body) (key : Int) (w : World) (hl : Reads bodyE w v l) :
    Calls Tryz.prog 70 #[v, .int .u32 key] w fun e w' => e = .returned (.int .i64 (findK l key 0)) ∧ w = w' := by
  have q := hl.1
  obtain ⟨A, c, b1, o1, rfl, hA, hx⟩ := hl.bodies
  have hA := Lib.hid hA
  have hx := Lib.hid hx
  clear hl
  go_enter Tryz.func70, Tryz.ntmps70
  go_wp2
  go_loop [5] (fun i => ∃ k : Nat, k ≤ l.length ∧ i = .int .i64 k ∧ findK l key 0 = findK (l.drop k) key k) (fun i => l.length - (intOf i).toNat)
  case atStart => exact ⟨0, by omega, rfl, rfl⟩
  case round =>
    obtain ⟨k, hk, rfl, hP⟩ := hrel
    have HP := Lib.hid hP
    clear hP
    by_cases hlt : k < l.length
    · obtain ⟨eA, zA⟩ := hA.out (by omega)
      obtain ⟨q0, q1, q2, q3, q4, q5, q6, q7, q8, q9⟩ := hx.out k hlt
      by_cases he : l[k].key = key
      · have hq : (l[k].key == key) = true := by simp [he]
        have HE := Lib.hid he
        clear he
        go_wp2
        go_ret
        exact ⟨ret_int (by rw [HP.out, findK_hit hlt HE.out]), rfl⟩
      · have hq : (l[k].key == key) = false := by simp [he]
        have HE := Lib.hid he
        clear he
        go_wp2
        go_round
        case rel => exact ⟨k + 1, by omega, by go_num, by rw [HP.out, findK_miss hlt HE.out]⟩
        case measure => simp [intOf]; omega
    · go_wp2
      go_ret
      exact ⟨ret_int (by rw [HP.out, findK_end hlt]), rfl⟩

/-- What a round of Put does. -/
def putStep (b : Body) (s : List Body × Bool) (x : Body) : List Body × Bool :=
  let t := if (!s.2 && decide (b.key ≤ x.key)) = true then (s.1 ++ [b], true) else s
  if x.key = b.key then t else (t.1 ++ [x], t.2)
def putL (l : List Body) (b : Body) (gone : Bool) : List Body :=
  let s := l.foldl (putStep b) ([], gone)
  if s.2 = true then s.1 else s.1 ++ [b]
def pend (d : Bool) : Nat := bif d then 0 else 1
theorem putStep_len (b : Body) (s : List Body × Bool) (x : Body) : (putStep b s x).1.length + pend (putStep b s x).2 ≤ s.1.length + pend s.2 + 1 := by
  obtain ⟨a, d⟩ := s
  unfold putStep
  by_cases h2 : x.key = b.key
  · by_cases h1 : b.key ≤ x.key <;> cases d <;> simp [h2, pend] <;> omega
  · by_cases h1 : b.key ≤ x.key <;> cases d <;> simp [h1, h2, pend] <;> omega
theorem put_len (b : Body) (l : List Body) (s : List Body × Bool) : (l.foldl (putStep b) s).1.length + pend (l.foldl (putStep b) s).2 ≤ s.1.length + pend s.2 + l.length := by
  induction l generalizing s with
  | nil => simp
  | cons x r ih =>
    have h1 := ih (putStep b s x)
    have h2 := putStep_len b s x
    simp only [List.foldl_cons, List.length_cons]
    omega
theorem putL_len (l : List Body) (b : Body) (gone : Bool) : (putL l b gone).length ≤ l.length + 1 := by
  have h := put_len b l ([], gone)
  have hp : pend gone ≤ 1 := by cases gone <;> decide
  unfold putL
  simp only
  split
  · simp at h; omega
  · rename_i hd
    have hd' : (l.foldl (putStep b) ([], gone)).2 = false := by simpa using hd
    rw [hd'] at h
    simp [pend] at h
    simp
    cases gone <;> simp at h <;> omega
theorem take_fold {l : List Body} {k : Nat} (b : Body) (s : List Body × Bool) (hk : k < l.length) : (l.take (k + 1)).foldl (putStep b) s = putStep b ((l.take k).foldl (putStep b) s) l[k] := by
  rw [List.take_succ_eq_append_getElem hk, List.foldl_append]; rfl
end Go.Proofs.YtnhaiecbjipodaaGreatDoor
/- The contract of the reference's Put. -/
namespace Go.Proofs.YtnhaiecbjipodaaGreatDoor
open Go.RowKit
attribute [local go_sem] Grow.cell Grow.froz Grow.lt
attribute [local go_sem high] body_eq
set_option linter.unusedSimpArgs false

theorem bodyInfo : (Tryz.prog.info? 27).map (fun i => (i.zero, i.size, i.bytes)) = some (some (.agg #[.int .u32 0, .int .i32 0, .int .i32 0, .int .i32 0, .int .i32 0, .int .i32 0, .int .i32 0, .int .i32 0, .int .i32 0, .int .i32 0]), 10, 40) := by kernel_rfl

theorem box_ten {w wr : World} {b : Body} (h : Below (w.heap.size + 1) (w.alloc (.cells b.cells 27)) wr) : BoxAt wr w.heap.size b := by
  have hb : wr.heap[w.heap.size]? = some (.cells b.cells 27 (0, 0)) := by
    rw [h.block w.heap.size (by omega)]
    exact heap_alloc_new w _
  exact box_of hb
theorem TenAt.below_box {w wr : World} {o : Obj} {p q : Nat} {x : Body} (h : TenAt w p q x) (hb : Below (w.heap.size + 1) (w.alloc o) wr) : TenAt wr p q x := by
  have z : p < w.heap.size := World.block_lt_of_cell? w _ h.1
  refine h.below ?_
  exact ((Below.refl _ _).alloc (Nat.le_refl _) o).trans (hb.mono (by omega))

theorem bel_box {w wr : World} {o : Obj} (h : Below (w.heap.size + 1) (w.alloc o) wr) : Below w.heap.size w wr := (new_ok o).trans (h.mono (by omega))
theorem putL_no {l a : List Body} {b : Body} {gone : Bool} {k : Nat} (h : (a, false) = (l.take k).foldl (putStep b) ([], gone)) (hk : k = l.length) : a ++ [b] = putL l b gone := by
  subst hk
  rw [List.take_length] at h
  unfold putL
  rw [← h]; rfl
theorem putL_yes {l a : List Body} {b : Body} {gone : Bool} {k : Nat} (h : (a, true) = (l.take k).foldl (putStep b) ([], gone)) (hk : k = l.length) : a = putL l b gone := by
  subst hk
  rw [List.take_length] at h
  unfold putL
  rw [← h]; rfl

set_option maxHeartbeats 4000000 in
theorem put_any (v : Value) (l : List Body) (b : Body) (gone : Bool) (w : World) (hl : Reads bodyE w v l) (hn : l.length ≤ 1000000) :
    Calls Tryz.prog 97 #[v, .agg b.cells, .bool gone] w fun e w' => ∃ v', e = .returned v' ∧ Reads bodyE w' v' (putL l b gone) ∧ Below w.heap.size w w' := by
  obtain ⟨A, c, b1, o1, rfl, hA, hx⟩ := hl.bodies
  have hA := Lib.hid hA
  have hx := Lib.hid hx
  clear hl
  show Calls _ _ #[_, .agg #[.int .u32 b.key, .int .i32 b.radius, .int .i32 b.ax, .int .i32 b.ay, .int .i32 b.inv, .int .i32 b.bounce, .int .i32 b.px, .int .i32 b.py, .int .i32 b.vx, .int .i32 b.vy], _] w _
  go_enter Tryz.func97, Tryz.ntmps97
  go_wp2
  go_loopw [7, 8, 9] (fun v d i wr => ∃ k : Nat, k ≤ l.length ∧ i = .int .i64 k ∧ ∃ s : List Body × Bool, s = (l.take k).foldl (putStep b) ([], gone) ∧ d = .bool s.2 ∧ Own bodyE 27 wr (w.heap.size + 1) v s.1 ∧ Below (w.heap.size + 1) (w.alloc (.cells b.cells 27)) wr) (fun _ _ i _ => l.length - (intOf i).toNat)
  case atStart => exact ⟨0, by omega, rfl, ([], gone), rfl, rfl, Own.nil _ _ _ _, Below.refl _ _⟩
  case round =>
    obtain ⟨k, hk, rfl, ⟨a, d⟩, hs, rfl, hown, hbel⟩ := hrel
    have HS := Lib.hid hs
    clear hs
    have hlen : a.length ≤ k + 1 := by
      have h1 := put_len b (l.take k) ([], gone)
      rw [← HS.out] at h1
      have h2 : pend gone ≤ 1 := by cases gone <;> decide
      simp at h1
      omega
    have hz := hbel.size
    simp at hz
    have tB : BoxAt wr w.heap.size b := box_ten hbel
    by_cases hlt : k < l.length
    · obtain ⟨eA, zA⟩ := hA.out (by omega)
      have ix := fun w => idx_body (c := c) eA hlt w
      clear eA
      have tX : TenAt wr b1 (o1 + k * 10) l[k] := (hx.out k hlt).below_box hbel
      obtain ⟨q0, q1, q2, q3, q4, q5, q6, q7, q8, q9⟩ := tX
      obtain ⟨r0, r1, r2, r3, r4, r5, r6, r7, r8, r9⟩ := tB
      have zA' : b1 < wr.heap.size := by omega
      have zB' : w.heap.size < wr.heap.size := by omega
      by_cases heq : l[k].key = b.key
      · have HK := Lib.hid heq
        clear heq
        have hke : (l[k].key == b.key) = true := by have := HK.out; simpa using this
        cases d
        · by_cases hge : b.key ≤ l[k].key
          · have HG := Lib.hid hge
            go_wp2
            refine wp_region_grow (by kernel_rfl) (by kernel_rfl) ?_
            repeat (first | go_big_quiet_skip | (go_big_quiet_want; go_big_quiet_op; first | go_big_quiet_on))
            refine wpQuiet_nil ?_
            rintro _ ⟨g, rfl⟩
            go_wp2_with (at_builtin; refine own_append bodyE (w.heap.size + 1) rfl (.tmp 29) (.tmp 31) 38 27 _ 40 rfl Tryz.underlying38 bodyInfo rfl (by decide) _ a b _ rfl rfl rfl (hown.below g.below) (hbel.trans (g.below.mono hz)) (Nat.le_trans hz g.below.size) (by first | omega | (simp; omega)) ?_; intro v1 w1 own2 bel2 gr2 sz2)
            clear q0 q1 q2 q3 q4 q5 q6 q7 q8 q9 r0 r1 r2 r3 r4 r5 r6 r7 r8 r9 zA' zB'
            obtain ⟨q0, q1, q2, q3, q4, q5, q6, q7, q8, q9⟩ := (hx.out k hlt).below_box bel2
            obtain ⟨r0, r1, r2, r3, r4, r5, r6, r7, r8, r9⟩ := box_ten bel2
            have zA' : b1 < w1.heap.size := by omega
            have zB' : w.heap.size < w1.heap.size := by omega
            refine wp_region_grow (by kernel_rfl) (by kernel_rfl) ?_
            repeat (first | go_big_quiet_skip | (go_big_quiet_want; go_big_quiet_op; first | go_big_quiet_on))
            refine wpQuiet_nil ?_
            rintro _ ⟨g2, rfl⟩
            go_wp2
            go_roundw
            case rel => exact ⟨k + 1, by omega, by go_num, ((a ++ [b]), true), by rw [take_fold b _ hlt, ← HS.out]; simp [putStep, decide_eq_true HG.out, HK.out], rfl, own2.below g2.below, bel2.trans (g2.below.mono sz2)⟩
            case measure => simp [intOf]; omega
          · exact absurd (Int.le_of_eq HK.out.symm) hge
        · by_cases hge : b.key ≤ l[k].key
          · have HG := Lib.hid hge
            go_wp2
            refine wp_region_grow (by kernel_rfl) (by kernel_rfl) ?_
            repeat (first | go_big_quiet_skip | (go_big_quiet_want; go_big_quiet_op; first | go_big_quiet_on))
            refine wpQuiet_nil ?_
            rintro _ ⟨g, rfl⟩
            go_wp2_with fail
            have own2 := hown.below g.below
            have bel2 := hbel.trans (g.below.mono hz)
            have sz2 := Nat.le_trans hz g.below.size
            generalize g.world = w1 at own2 bel2 sz2 ⊢
            clear q0 q1 q2 q3 q4 q5 q6 q7 q8 q9 r0 r1 r2 r3 r4 r5 r6 r7 r8 r9 zA' zB'
            obtain ⟨q0, q1, q2, q3, q4, q5, q6, q7, q8, q9⟩ := (hx.out k hlt).below_box bel2
            obtain ⟨r0, r1, r2, r3, r4, r5, r6, r7, r8, r9⟩ := box_ten bel2
            have zA' : b1 < w1.heap.size := by omega
            have zB' : w.heap.size < w1.heap.size := by omega
            refine wp_region_grow (by kernel_rfl) (by kernel_rfl) ?_
            repeat (first | go_big_quiet_skip | (go_big_quiet_want; go_big_quiet_op; first | go_big_quiet_on))
            refine wpQuiet_nil ?_
            rintro _ ⟨g2, rfl⟩
            go_wp2
            go_roundw
            case rel => exact ⟨k + 1, by omega, by go_num, (a, true), by rw [take_fold b _ hlt, ← HS.out]; simp [putStep, decide_eq_true HG.out, HK.out], rfl, own2.below g2.below, bel2.trans (g2.below.mono sz2)⟩
            case measure => simp [intOf]; omega
          · exact absurd (Int.le_of_eq HK.out.symm) hge
      · have HK := Lib.hid heq
        clear heq
        have hke : (l[k].key == b.key) = false := by have := HK.out; simpa using this
        cases d
        · by_cases hge : b.key ≤ l[k].key
          · have HG := Lib.hid hge
            go_wp2
            refine wp_region_grow (by kernel_rfl) (by kernel_rfl) ?_
            repeat (first | go_big_quiet_skip | (go_big_quiet_want; go_big_quiet_op; first | go_big_quiet_on))
            refine wpQuiet_nil ?_
            rintro _ ⟨g, rfl⟩
            go_wp2_with (at_builtin; refine own_append bodyE (w.heap.size + 1) rfl (.tmp 29) (.tmp 31) 38 27 _ 40 rfl Tryz.underlying38 bodyInfo rfl (by decide) _ a b _ rfl rfl rfl (hown.below g.below) (hbel.trans (g.below.mono hz)) (Nat.le_trans hz g.below.size) (by first | omega | (simp; omega)) ?_; intro v1 w1 own2 bel2 gr2 sz2)
            clear q0 q1 q2 q3 q4 q5 q6 q7 q8 q9 r0 r1 r2 r3 r4 r5 r6 r7 r8 r9 zA' zB'
            obtain ⟨q0, q1, q2, q3, q4, q5, q6, q7, q8, q9⟩ := (hx.out k hlt).below_box bel2
            obtain ⟨r0, r1, r2, r3, r4, r5, r6, r7, r8, r9⟩ := box_ten bel2
            have zA' : b1 < w1.heap.size := by omega
            have zB' : w.heap.size < w1.heap.size := by omega
            refine wp_region_grow (by kernel_rfl) (by kernel_rfl) ?_
            repeat (first | go_big_quiet_skip | (go_big_quiet_want; go_big_quiet_op; first | go_big_quiet_on))
            refine wpQuiet_nil ?_
            rintro _ ⟨g2, rfl⟩
            go_wp2_with (at_builtin; refine own_append bodyE (w.heap.size + 1) rfl (.tmp 41) (.tmp 46) 38 27 _ 40 rfl Tryz.underlying38 bodyInfo rfl (by decide) _ (a ++ [b]) l[k] _ rfl rfl rfl (own2.below g2.below) (bel2.trans (g2.below.mono sz2)) (Nat.le_trans sz2 g2.below.size) (by first | omega | (simp; omega)) ?_; intro v3 w3 own3 bel3 gr3 sz3)
            go_roundw
            case rel => exact ⟨k + 1, by omega, by go_num, ((a ++ [b]) ++ [l[k]], true), by rw [take_fold b _ hlt, ← HS.out]; simp [putStep, decide_eq_true HG.out, HK.out], rfl, own3, bel3⟩
            case measure => simp [intOf]; omega
          · have HG := Lib.hid hge
            go_wp2
            refine wp_region_grow (by kernel_rfl) (by kernel_rfl) ?_
            repeat (first | go_big_quiet_skip | (go_big_quiet_want; go_big_quiet_op; first | go_big_quiet_on))
            refine wpQuiet_nil ?_
            rintro _ ⟨g, rfl⟩
            go_wp2_with fail
            have own2 := hown.below g.below
            have bel2 := hbel.trans (g.below.mono hz)
            have sz2 := Nat.le_trans hz g.below.size
            generalize g.world = w1 at own2 bel2 sz2 ⊢
            clear q0 q1 q2 q3 q4 q5 q6 q7 q8 q9 r0 r1 r2 r3 r4 r5 r6 r7 r8 r9 zA' zB'
            obtain ⟨q0, q1, q2, q3, q4, q5, q6, q7, q8, q9⟩ := (hx.out k hlt).below_box bel2
            obtain ⟨r0, r1, r2, r3, r4, r5, r6, r7, r8, r9⟩ := box_ten bel2
            have zA' : b1 < w1.heap.size := by omega
            have zB' : w.heap.size < w1.heap.size := by omega
            refine wp_region_grow (by kernel_rfl) (by kernel_rfl) ?_
            repeat (first | go_big_quiet_skip | (go_big_quiet_want; go_big_quiet_op; first | go_big_quiet_on))
            refine wpQuiet_nil ?_
            rintro _ ⟨g2, rfl⟩
            go_wp2_with (at_builtin; refine own_append bodyE (w.heap.size + 1) rfl (.tmp 41) (.tmp 46) 38 27 _ 40 rfl Tryz.underlying38 bodyInfo rfl (by decide) _ a l[k] _ rfl rfl rfl (own2.below g2.below) (bel2.trans (g2.below.mono sz2)) (Nat.le_trans sz2 g2.below.size) (by first | omega | (simp; omega)) ?_; intro v3 w3 own3 bel3 gr3 sz3)
            go_roundw
            case rel => exact ⟨k + 1, by omega, by go_num, (a ++ [l[k]], false), by rw [take_fold b _ hlt, ← HS.out]; simp [putStep, decide_eq_false (Int.not_le.2 HG.out), HK.out], rfl, own3, bel3⟩
            case measure => simp [intOf]; omega
        · by_cases hge : b.key ≤ l[k].key
          · have HG := Lib.hid hge
            go_wp2
            refine wp_region_grow (by kernel_rfl) (by kernel_rfl) ?_
            repeat (first | go_big_quiet_skip | (go_big_quiet_want; go_big_quiet_op; first | go_big_quiet_on))
            refine wpQuiet_nil ?_
            rintro _ ⟨g, rfl⟩
            go_wp2_with fail
            have own2 := hown.below g.below
            have bel2 := hbel.trans (g.below.mono hz)
            have sz2 := Nat.le_trans hz g.below.size
            generalize g.world = w1 at own2 bel2 sz2 ⊢
            clear q0 q1 q2 q3 q4 q5 q6 q7 q8 q9 r0 r1 r2 r3 r4 r5 r6 r7 r8 r9 zA' zB'
            obtain ⟨q0, q1, q2, q3, q4, q5, q6, q7, q8, q9⟩ := (hx.out k hlt).below_box bel2
            obtain ⟨r0, r1, r2, r3, r4, r5, r6, r7, r8, r9⟩ := box_ten bel2
            have zA' : b1 < w1.heap.size := by omega
            have zB' : w.heap.size < w1.heap.size := by omega
            refine wp_region_grow (by kernel_rfl) (by kernel_rfl) ?_
            repeat (first | go_big_quiet_skip | (go_big_quiet_want; go_big_quiet_op; first | go_big_quiet_on))
            refine wpQuiet_nil ?_
            rintro _ ⟨g2, rfl⟩
            go_wp2_with (at_builtin; refine own_append bodyE (w.heap.size + 1) rfl (.tmp 41) (.tmp 46) 38 27 _ 40 rfl Tryz.underlying38 bodyInfo rfl (by decide) _ a l[k] _ rfl rfl rfl (own2.below g2.below) (bel2.trans (g2.below.mono sz2)) (Nat.le_trans sz2 g2.below.size) (by first | omega | (simp; omega)) ?_; intro v3 w3 own3 bel3 gr3 sz3)
            go_roundw
            case rel => exact ⟨k + 1, by omega, by go_num, (a ++ [l[k]], true), by rw [take_fold b _ hlt, ← HS.out]; simp [putStep, decide_eq_true HG.out, HK.out], rfl, own3, bel3⟩
            case measure => simp [intOf]; omega
          · have HG := Lib.hid hge
            go_wp2
            refine wp_region_grow (by kernel_rfl) (by kernel_rfl) ?_
            repeat (first | go_big_quiet_skip | (go_big_quiet_want; go_big_quiet_op; first | go_big_quiet_on))
            refine wpQuiet_nil ?_
            rintro _ ⟨g, rfl⟩
            go_wp2_with fail
            have own2 := hown.below g.below
            have bel2 := hbel.trans (g.below.mono hz)
            have sz2 := Nat.le_trans hz g.below.size
            generalize g.world = w1 at own2 bel2 sz2 ⊢
            clear q0 q1 q2 q3 q4 q5 q6 q7 q8 q9 r0 r1 r2 r3 r4 r5 r6 r7 r8 r9 zA' zB'
            obtain ⟨q0, q1, q2, q3, q4, q5, q6, q7, q8, q9⟩ := (hx.out k hlt).below_box bel2
            obtain ⟨r0, r1, r2, r3, r4, r5, r6, r7, r8, r9⟩ := box_ten bel2
            have zA' : b1 < w1.heap.size := by omega
            have zB' : w.heap.size < w1.heap.size := by omega
            refine wp_region_grow (by kernel_rfl) (by kernel_rfl) ?_
            repeat (first | go_big_quiet_skip | (go_big_quiet_want; go_big_quiet_op; first | go_big_quiet_on))
            refine wpQuiet_nil ?_
            rintro _ ⟨g2, rfl⟩
            go_wp2_with (at_builtin; refine own_append bodyE (w.heap.size + 1) rfl (.tmp 41) (.tmp 46) 38 27 _ 40 rfl Tryz.underlying38 bodyInfo rfl (by decide) _ a l[k] _ rfl rfl rfl (own2.below g2.below) (bel2.trans (g2.below.mono sz2)) (Nat.le_trans sz2 g2.below.size) (by first | omega | (simp; omega)) ?_; intro v3 w3 own3 bel3 gr3 sz3)
            go_roundw
            case rel => exact ⟨k + 1, by omega, by go_num, (a ++ [l[k]], true), by rw [take_fold b _ hlt, ← HS.out]; simp [putStep, decide_eq_false (Int.not_le.2 HG.out), HK.out], rfl, own3, bel3⟩
            case measure => simp [intOf]; omega
    · have hkl : k = l.length := by omega
      have HN := Lib.hid hkl
      clear hkl
      obtain ⟨r0, r1, r2, r3, r4, r5, r6, r7, r8, r9⟩ := tB
      have hlen2 : a.length ≤ 1000001 := by omega
      cases d
      · go_wp2_with (at_builtin; refine own_append bodyE (w.heap.size + 1) rfl (.tmp 50) (.tmp 52) 38 27 _ 40 rfl Tryz.underlying38 bodyInfo rfl (by decide) _ a b _ rfl rfl rfl (hown) (hbel) (hz) (by first | omega | (simp; omega)) ?_; intro v1 w1 own1 bel1 gr1 sz1)
        go_ret
        exact ⟨v1, rfl, (putL_no HS.out HN.out) ▸ own1.reads (by simp; omega), bel_box bel1⟩
      · go_wp2
        go_ret
        exact ⟨_, rfl, (putL_yes HS.out HN.out) ▸ hown.reads (by omega), bel_box hbel⟩
end Go.Proofs.YtnhaiecbjipodaaGreatDoor
/- The contracts of the reference's Add, All, each, Sort and View. -/
namespace Go.Proofs.YtnhaiecbjipodaaGreatDoor
open Go.RowKit
attribute [local go_sem] Grow.cell Grow.froz Grow.lt

def addL (l : List Body) (b : Body) : List Body × Int :=
  if errOf b ≠ 0 then (l, errOf b) else if 0 ≤ findK l b.key 0 then (l, 10) else if 4096 ≤ l.length then (l, 12) else (putL l b false, 0)
theorem addL_len (l : List Body) (b : Body) : (addL l b).1.length ≤ l.length + 1 := by
  have := putL_len l b false
  unfold addL
  repeat' split
  all_goals (simp only; omega)

theorem ret_two {v : Value} {a b : Int} (h : a = b) : Ending.returned (.tuple #[v, .int .i64 a]) = .returned (.tuple #[v, .int .i64 b]) := by rw [h]
theorem add_err {l : List Body} {b : Body} (h : ¬ errOf b = 0) : addL l b = (l, errOf b) := by unfold addL; rw [if_pos h]
theorem add_dup {l : List Body} {b : Body} (h : errOf b = 0) (h1 : 0 ≤ findK l b.key 0) : addL l b = (l, 10) := by unfold addL; rw [if_neg (by simpa using h), if_pos h1]
theorem add_full {l : List Body} {b : Body} (h : errOf b = 0) (h1 : findK l b.key 0 < 0) (h2 : (4096 : Int) ≤ l.length) : addL l b = (l, 12) := by unfold addL; rw [if_neg (by simpa using h), if_neg (by omega), if_pos (by omega)]
theorem add_ok {l : List Body} {b : Body} (h : errOf b = 0) (h1 : findK l b.key 0 < 0) (h2 : (l.length : Int) < 4096) : addL l b = (putL l b false, 0) := by unfold addL; rw [if_neg (by simpa using h), if_neg (by omega), if_neg (by omega)]

set_option maxHeartbeats 2000000 in
set_option maxRecDepth 100000 in
theorem add_any (v : Value) (l : List Body) (b : Body) (w : World) (hl : Reads bodyE w v l) (hn : l.length ≤ 1000000) :
    Calls Tryz.prog 64 #[v, .agg b.cells] w fun e w' => ∃ v', e = .returned (.tuple #[v', .int .i64 (addL l b).2]) ∧ Reads bodyE w' v' (addL l b).1 ∧ Below w.heap.size w w' := by
  have HL := Lib.hid hl
  obtain ⟨A, c, b1, o1, rfl, _, _⟩ := hl.bodies
  clear hl
  show Calls _ _ #[_, .agg b.arr] w _
  by_cases he : errOf b = 0
  · have HE := Lib.hid he
    have he' : (errOf ⟨b.key, b.radius, b.ax, b.ay, b.inv, b.bounce, b.px, b.py, b.vx, b.vy⟩ == 0) = true := by simpa using he
    clear he
    go_enter Tryz.func64, Tryz.ntmps64
    go_wp2_with fail
    refine (refCheck_fl _ _ _ _ _ _ _ _ _ _ _).mono ?_
    rintro e w1 ⟨rfl, hb⟩
    obtain ⟨g1, rfl⟩ := Grow.of hb
    have l1 : w.heap.size < g1.world.heap.size := Nat.lt_of_lt_of_le (by simp) g1.le
    clear hb
    have hl1 : Reads bodyE g1.world (.slice A l.length c) l := (HL.out.alloc _).grow g1
    by_cases hf : 0 ≤ findK l b.key 0
    · have HF := Lib.hid hf
      go_wp2_with (go_at_call 70; refine (find_any _ _ _ _ hl1).mono ?_; rintro e w2 ⟨rfl, rfl⟩)
      go_ret2
      exact ⟨.slice A l.length c, ret_two (by rw [add_dup HE.out HF.out]), by rw [add_dup HE.out HF.out]; exact hl1, bel_grow (new_ok _) g1⟩
    · have hf' : findK l b.key 0 < 0 := by omega
      clear hf
      have HF := Lib.hid hf'
      by_cases hfull : (4096 : Int) ≤ l.length
      · have HU := Lib.hid hfull
        go_wp2_with (go_at_call 70; refine (find_any _ _ _ _ hl1).mono ?_; rintro e w2 ⟨rfl, rfl⟩)
        go_ret2
        exact ⟨.slice A l.length c, ret_two (by rw [add_full HE.out HF.out HU.out]), by rw [add_full HE.out HF.out HU.out]; exact hl1, bel_grow (new_ok _) g1⟩
      · have hfull' : (l.length : Int) < 4096 := by omega
        clear hfull
        have HU := Lib.hid hfull'
        go_wp2_with fail
        refine (find_any _ _ _ _ hl1).mono ?_
        rintro e w2 ⟨rfl, rfl⟩
        go_wp2_with fail
        refine (put_any _ l b _ _ hl1 hn).mono ?_
        rintro e w2 ⟨v2, rfl, hr2, hb2⟩
        have HR := Lib.hid hr2
        clear hr2
        obtain ⟨g2, rfl⟩ := Grow.of hb2
        go_wp2_with fail
        go_ret2
        exact ⟨v2, ret_two (by rw [add_ok HE.out HF.out HU.out]), by rw [add_ok HE.out HF.out HU.out]; exact HR.out, bel_grow (bel_grow (new_ok _) g1) g2⟩
  · have HE := Lib.hid he
    have he' : (errOf ⟨b.key, b.radius, b.ax, b.ay, b.inv, b.bounce, b.px, b.py, b.vx, b.vy⟩ == 0) = false := by simpa using he
    clear he
    go_enter Tryz.func64, Tryz.ntmps64
    go_wp2_with fail
    refine (refCheck_fl _ _ _ _ _ _ _ _ _ _ _).mono ?_
    rintro e w1 ⟨rfl, hb⟩
    obtain ⟨g1, rfl⟩ := Grow.of hb
    have l1 : w.heap.size < g1.world.heap.size := Nat.lt_of_lt_of_le (by simp) g1.le
    clear hb
    have hl1 : Reads bodyE g1.world (.slice A l.length c) l := (HL.out.alloc _).grow g1
    have HL1 := Lib.hid hl1
    clear hl1
    go_wp2_with fail
    go_ret2
    exact ⟨.slice A l.length c, ret_two (by rw [add_err HE.out]), by rw [add_err HE.out]; exact HL1.out, bel_grow (new_ok _) g1⟩
end Go.Proofs.YtnhaiecbjipodaaGreatDoor
/- The contracts of the reference's All, each, Sort and View. -/
namespace Go.Proofs.YtnhaiecbjipodaaGreatDoor
open Go.RowKit
attribute [local go_sem] Grow.cell Grow.froz Grow.lt

def allL (l : List Body) : List Body := l.foldl (fun s b => (addL s b).1) []
theorem all_take {l : List Body} {k : Nat} (hk : k < l.length) : allL (l.take (k + 1)) = (addL (allL (l.take k)) l[k]).1 := by
  unfold allL
  rw [List.take_succ_eq_append_getElem hk, List.foldl_append]; rfl

set_option maxHeartbeats 2000000 in
theorem all_any (v : Value) (l : List Body) (w : World) (hl : Reads bodyE w v l) (hn : l.length ≤ 1000000) :
    Calls Tryz.prog 73 #[v] w fun e w' => ∃ v', e = .returned v' ∧ Reads bodyE w' v' (allL l) ∧ Below w.heap.size w w' := by
  obtain ⟨A, c, b1, o1, rfl, hA, hx⟩ := hl.bodies
  have hA := Lib.hid hA
  have hx := Lib.hid hx
  clear hl
  go_enter Tryz.func73, Tryz.ntmps73
  go_wp2
  go_loopw [3, 4] (fun v i wr => ∃ k : Nat, k ≤ l.length ∧ i = .int .i64 k ∧ Reads bodyE wr v (allL (l.take k)) ∧ (allL (l.take k)).length ≤ k ∧ Below w.heap.size w wr) (fun _ i _ => l.length - (intOf i).toNat)
  case atStart => exact ⟨0, by omega, rfl, Reads.none _ _, by simp [allL], Below.refl _ _⟩
  case round =>
    obtain ⟨k, hk, rfl, hr, hlen, hbel⟩ := hrel
    have HR := Lib.hid hr
    have HL := Lib.hid hlen
    clear hr hlen
    by_cases hlt : k < l.length
    · obtain ⟨eA, zA⟩ := hA.out (by omega)
      have ix := fun w => idx_body (c := c) eA hlt w
      clear eA
      obtain ⟨q0, q1, q2, q3, q4, q5, q6, q7, q8, q9⟩ := (hx.out k hlt).below hbel
      go_wp2_with fail
      refine (add_any _ (allL (l.take k)) l[k] _ HR.out (by have := HL.out; omega)).mono ?_
      rintro e w1 ⟨v1, rfl, hr1, hb1⟩
      have HR1 := Lib.hid hr1
      clear hr1
      obtain ⟨g1, rfl⟩ := Grow.of hb1
      clear hb1
      go_wp2_with fail
      go_roundw
      case rel => exact ⟨k + 1, by omega, by go_num, by rw [all_take hlt]; exact HR1.out, by rw [all_take hlt]; have := addL_len (allL (l.take k)) l[k]; have := HL.out; omega, bel_grow hbel g1⟩
      case measure => simp [intOf]; omega
    · have hkl : k = l.length := by omega
      have HN := Lib.hid hkl
      clear hkl
      go_wp2
      go_ret
      exact ⟨_, rfl, by have := HR.out; rw [HN.out, List.take_length] at this; exact this, hbel⟩

/-- The error of the first body that is not valid. -/
def firstErrV : List Body → Int
  | [] => 0
  | b :: r => if errOf b = 0 then firstErrV r else errOf b
def eachV (l : List Body) : Int := if 4096 < l.length then 12 else firstErrV l
theorem firstErrV_zero {l : List Body} : firstErrV l = 0 ↔ ∀ b ∈ l, errOf b = 0 := by
  induction l with
  | nil => simp [firstErrV]
  | cons b r ih =>
    unfold firstErrV
    by_cases h : errOf b = 0
    · rw [if_pos h, ih]; simp [h]
    · rw [if_neg h]; simp [h]
theorem firstErrV_drop {l : List Body} {k : Nat} (hk : k < l.length) : firstErrV (l.drop k) = if errOf l[k] = 0 then firstErrV (l.drop (k + 1)) else errOf l[k] := by
  rw [List.drop_eq_getElem_cons hk, firstErrV]

set_option maxHeartbeats 2000000 in
set_option maxRecDepth 100000 in
theorem eachV_any (v : Value) (l : List Body) (w : World) (hl : Reads bodyE w v l) :
    Calls Tryz.prog 72 #[v] w fun e w' => e = .returned (.int .i64 (eachV l)) ∧ Below w.heap.size w w' := by
  have q := hl.1
  obtain ⟨A, c, b1, o1, rfl, hA, hx⟩ := hl.bodies
  have hA := Lib.hid hA
  have hx := Lib.hid hx
  clear hl
  by_cases hf : (4096 : Int) < l.length
  · have HF := Lib.hid hf
    go_enter Tryz.func72, Tryz.ntmps72
    go_wp2
    go_ret
    exact ⟨ret_int (by unfold eachV; rw [if_pos (by have := HF.out; omega)]), Below.refl _ _⟩
  · have hf' : (l.length : Int) ≤ 4096 := by omega
    clear hf
    have HF := Lib.hid hf'
    go_enter Tryz.func72, Tryz.ntmps72
    go_wp2
    go_loopw [3] (fun i wr => ∃ k : Nat, k ≤ l.length ∧ i = .int .i64 k ∧ firstErrV l = firstErrV (l.drop k) ∧ Below w.heap.size w wr) (fun i _ => l.length - (intOf i).toNat)
    case atStart => exact ⟨0, by omega, rfl, rfl, Below.refl _ _⟩
    case round =>
      obtain ⟨k, hk, rfl, hP, hbel⟩ := hrel
      have HP := Lib.hid hP
      clear hP
      by_cases hlt : k < l.length
      · obtain ⟨eA, zA⟩ := hA.out (by omega)
        have ix := fun w => idx_body (c := c) eA hlt w
        clear eA
        obtain ⟨q0, q1, q2, q3, q4, q5, q6, q7, q8, q9⟩ := (hx.out k hlt).below hbel
        by_cases he : errOf l[k] = 0
        · have HE := Lib.hid he
          have he' : (errOf ⟨l[k].key, l[k].radius, l[k].ax, l[k].ay, l[k].inv, l[k].bounce, l[k].px, l[k].py, l[k].vx, l[k].vy⟩ == 0) = true := by simpa using he
          clear he
          go_wp2_with fail
          refine (refCheck_fl _ _ _ _ _ _ _ _ _ _ _).mono ?_
          rintro e w1 ⟨rfl, hb⟩
          obtain ⟨g1, rfl⟩ := Grow.of hb
          clear hb
          go_wp2_with fail
          go_roundw
          case rel => exact ⟨k + 1, by omega, by go_num, by rw [HP.out, firstErrV_drop hlt, if_pos HE.out], bel_grow hbel g1⟩
          case measure => simp [intOf]; omega
        · have HE := Lib.hid he
          have he' : (errOf ⟨l[k].key, l[k].radius, l[k].ax, l[k].ay, l[k].inv, l[k].bounce, l[k].px, l[k].py, l[k].vx, l[k].vy⟩ == 0) = false := by simpa using he
          clear he
          go_wp2_with fail
          refine (refCheck_fl _ _ _ _ _ _ _ _ _ _ _).mono ?_
          rintro e w1 ⟨rfl, hb⟩
          obtain ⟨g1, rfl⟩ := Grow.of hb
          clear hb
          go_wp2_with fail
          go_ret
          exact ⟨ret_int (by unfold eachV; rw [if_neg (by have := HF.out; omega), HP.out, firstErrV_drop hlt, if_neg HE.out]), bel_grow hbel g1⟩
      · have hd : firstErrV (l.drop k) = 0 := by rw [List.drop_eq_nil_of_le (by omega)]; rfl
        have HD := Lib.hid hd
        clear hd
        go_wp2
        go_ret
        exact ⟨ret_int (by unfold eachV; rw [if_neg (by have := HF.out; omega), HP.out, HD.out]), hbel⟩

def sortL (l : List Body) : List Body × Int := if eachV l ≠ 0 then ([], eachV l) else if (allL l).length < l.length then ([], 10) else (allL l, 0)
theorem sort_err {l : List Body} (h : ¬ eachV l = 0) : sortL l = ([], eachV l) := by unfold sortL; rw [if_pos h]
theorem sort_dup {l : List Body} (h : eachV l = 0) (h1 : ((allL l).length : Int) < l.length) : sortL l = ([], 10) := by unfold sortL; rw [if_neg (by simpa using h), if_pos (by omega)]
theorem sort_ok {l : List Body} (h : eachV l = 0) (h1 : (l.length : Int) ≤ (allL l).length) : sortL l = (allL l, 0) := by unfold sortL; rw [if_neg (by simpa using h), if_neg (by omega)]

set_option maxHeartbeats 2000000 in
set_option maxRecDepth 100000 in
theorem sort_any (v : Value) (l : List Body) (w : World) (hl : Reads bodyE w v l) (hn : l.length ≤ 1000000) :
    Calls Tryz.prog 34 #[v] w fun e w' => ∃ v', e = .returned (.tuple #[v', .int .i64 (sortL l).2]) ∧ Reads bodyE w' v' (sortL l).1 ∧ Below w.heap.size w w' := by
  have HL := Lib.hid hl
  obtain ⟨A, c, b1, o1, rfl, _, _⟩ := hl.bodies
  clear hl
  by_cases he : eachV l = 0
  · have HE := Lib.hid he
    have he' : (eachV l == 0) = true := by simpa using he
    clear he
    go_enter Tryz.func34, Tryz.ntmps34
    go_wp2_with fail
    refine (eachV_any _ _ _ HL.out).mono ?_
    rintro e w1 ⟨rfl, hb⟩
    obtain ⟨g1, rfl⟩ := Grow.of hb
    clear hb
    go_wp2_with fail
    refine (all_any _ l _ (HL.out.grow g1) hn).mono ?_
    rintro e w1 ⟨v1, rfl, hr1, hb1⟩
    have HR := Lib.hid hr1
    obtain ⟨A1, c1, b2, o2, rfl, _, _⟩ := hr1.bodies
    clear hr1
    obtain ⟨g2, rfl⟩ := Grow.of hb1
    clear hb1
    by_cases hlt : ((allL l).length : Int) < l.length
    · have HLT := Lib.hid hlt
      go_wp2_with fail
      go_ret2
      exact ⟨.slice none 0 0, ret_two (by rw [sort_dup HE.out HLT.out]), by rw [sort_dup HE.out HLT.out]; exact Reads.none _ _, bel_grow (bel_grow (Below.refl _ _) g1) g2⟩
    · have hge : (l.length : Int) ≤ (allL l).length := by omega
      clear hlt
      have HGE := Lib.hid hge
      go_wp2_with fail
      go_ret2
      exact ⟨.slice A1 (allL l).length c1, ret_two (by rw [sort_ok HE.out HGE.out]), by rw [sort_ok HE.out HGE.out]; exact HR.out, bel_grow (bel_grow (Below.refl _ _) g1) g2⟩
  · have HE := Lib.hid he
    have he' : (eachV l == 0) = false := by simpa using he
    clear he
    go_enter Tryz.func34, Tryz.ntmps34
    go_wp2_with fail
    refine (eachV_any _ _ _ HL.out).mono ?_
    rintro e w1 ⟨rfl, hb⟩
    obtain ⟨g1, rfl⟩ := Grow.of hb
    clear hb
    go_wp2_with fail
    go_ret2
    exact ⟨.slice none 0 0, ret_two (by rw [sort_err HE.out]), by rw [sort_err HE.out]; exact Reads.none _ _, bel_grow (Below.refl _ _) g1⟩

def viewL (l : List Body) : List Body × Bool := if 40 < l.length then ([], false) else ((sortL l).1, (sortL l).2 == 0)
theorem view_far {l : List Body} (h : (40 : Int) < l.length) : viewL l = ([], false) := by unfold viewL; rw [if_pos (by omega)]
theorem view_near {l : List Body} (h : (l.length : Int) ≤ 40) : viewL l = ((sortL l).1, (sortL l).2 == 0) := by unfold viewL; rw [if_neg (by omega)]
theorem ret_flag {v : Value} {a b : Bool} (h : a = b) : Ending.returned (.tuple #[v, .bool a]) = .returned (.tuple #[v, .bool b]) := by rw [h]

set_option maxHeartbeats 2000000 in
set_option maxRecDepth 100000 in
theorem view_any (v : Value) (l : List Body) (w : World) (hl : Reads bodyE w v l) :
    Calls Tryz.prog 18 #[v] w fun e w' => ∃ v', e = .returned (.tuple #[v', .bool (viewL l).2]) ∧ Reads bodyE w' v' (viewL l).1 ∧ Below w.heap.size w w' := by
  have HL := Lib.hid hl
  obtain ⟨A, c, b1, o1, rfl, _, _⟩ := hl.bodies
  clear hl
  by_cases hf : (40 : Int) < l.length
  · have HF := Lib.hid hf
    go_enter Tryz.func18, Tryz.ntmps18
    go_wp2_with fail
    go_ret2
    exact ⟨.slice none 0 0, ret_flag (by rw [view_far HF.out]), by rw [view_far HF.out]; exact Reads.none _ _, Below.refl _ _⟩
  · have hf' : (l.length : Int) ≤ 40 := by omega
    clear hf
    have HF := Lib.hid hf'
    go_enter Tryz.func18, Tryz.ntmps18
    go_wp2_with fail
    refine (sort_any _ l _ HL.out (by have := HF.out; omega)).mono ?_
    rintro e w1 ⟨v1, rfl, hr1, hb1⟩
    have HR := Lib.hid hr1
    clear hr1
    obtain ⟨g2, rfl⟩ := Grow.of hb1
    clear hb1
    go_wp2_with fail
    go_ret2
    exact ⟨v1, ret_flag (by rw [view_near HF.out]), by rw [view_near HF.out]; exact HR.out, bel_grow (Below.refl _ _) g2⟩
end Go.Proofs.YtnhaiecbjipodaaGreatDoor
/- The contract of the reference's Gravity. -/
namespace Go.Proofs.YtnhaiecbjipodaaGreatDoor
open Go.RowKit
attribute [local go_sem] Grow.cell Grow.froz Grow.lt

theorem map_take {α β : Type} (f : α → β) {l : List α} {k : Nat} (hk : k < l.length) : (l.take (k + 1)).map f = (l.take k).map f ++ [f l[k]] := by
  rw [List.take_succ_eq_append_getElem hk, List.map_append]; rfl
theorem any_take {α : Type} (f : α → Bool) {l : List α} {k : Nat} (hk : k < l.length) : (l.take (k + 1)).any f = ((l.take k).any f || f l[k]) := by
  rw [List.take_succ_eq_append_getElem hk, List.any_append]; simp
def Small (b : Body) : Prop := 0 ≤ b.inv ∧ b.inv ≤ 1048576 ∧ -16777216 ≤ b.vx ∧ b.vx ≤ 16777216 ∧ -16777216 ≤ b.vy ∧ b.vy ≤ 16777216 ∧ -1073741824 ≤ b.px ∧ b.px ≤ 1073741824 ∧ -1073741824 ≤ b.py ∧ b.py ≤ 1073741824
theorem small_of {b : Body} (h : errOf b = 0) : Small b := by
  have := errOf_zero.1 h
  unfold Small; omega

set_option maxHeartbeats 4000000 in
theorem refGravity_any (v : Value) (l : List Body) (w : World) (hl : Reads bodyE w v l) (hn : l.length ≤ 1000000) (hV : ∀ b ∈ l, Small b) :
    Calls Tryz.prog 99 #[v] w fun e w' => ∃ v', e = .returned (.tuple #[v', .bool (l.any gravC)]) ∧ Reads bodyE w' v' (l.map gravB) ∧ Below w.heap.size w w' := by
  obtain ⟨A, c, b1, o1, rfl, hA, hx⟩ := hl.bodies
  have hA := Lib.hid hA
  have hx := Lib.hid hx
  have HV := Lib.hid hV
  clear hl hV
  go_enter Tryz.func99, Tryz.ntmps99
  go_wp2
  go_loopw [4, 5, 6] (fun v d i wr => ∃ k : Nat, k ≤ l.length ∧ i = .int .i64 k ∧ ∃ f : Bool, f = (l.take k).any gravC ∧ d = .bool f ∧ Own bodyE 27 wr w.heap.size v ((l.take k).map gravB) ∧ Below w.heap.size w wr) (fun _ _ i _ => l.length - (intOf i).toNat)
  case atStart => exact ⟨0, by omega, rfl, false, by simp, rfl, by simpa using Own.nil _ _ _ _, Below.refl _ _⟩
  case round =>
    obtain ⟨k, hk, rfl, f, hf, rfl, hown, hbel⟩ := hrel
    have HF := Lib.hid hf
    clear hf
    have hz := hbel.size
    by_cases hlt : k < l.length
    · obtain ⟨eA, zA⟩ := hA.out (by omega)
      have ix := fun w => idx_body (c := c) eA hlt w
      clear eA
      obtain ⟨q0, q1, q2, q3, q4, q5, q6, q7, q8, q9⟩ := (hx.out k hlt).below hbel
      have hS := HV.out l[k] (List.getElem_mem hlt)
      obtain ⟨s0, s1, s2, s3, s4, s5, s6, s7, s8, s9⟩ := hS
      by_cases hm : 0 < l[k].inv
      · have hg : gravB l[k] = { l[k] with vy := clampI (l[k].vy - 1024) 16777216 } := by
          unfold gravB; rw [if_neg (by simp; omega)]
        have hc : gravC l[k] = !(clampI (l[k].vy - 1024) 16777216 == l[k].vy - 1024) := by
          unfold gravC
          rw [show (l[k].inv == 0) = false from by simp; omega]; rfl
        have HG := Lib.hid hg
        have HC := Lib.hid hc
        clear hg hc
        obtain ⟨cb0, cb1⟩ := clampI_le (n := l[k].vy - 1024) (l := 16777216) (by omega)
        cases f
        all_goals
          go_wp2_with fail
          refine (refLimit_any _ _ _ (by omega) (by omega)).mono ?_
          rintro e w1 ⟨rfl, rfl⟩
          go_wp2_with (at_builtin; refine own_append bodyE w.heap.size rfl (.tmp 41) (.tmp 43) 38 27 _ 40 rfl Tryz.underlying38 bodyInfo rfl (by decide) _ ((l.take k).map gravB) (gravB l[k]) _ (by rw [HG.out]; rfl) rfl (by first | rfl | simp [go_sem]) (hown.alloc _) (bel_alloc hbel _) (by simp; omega) (by simp; omega) ?_; intro v1 w2 own1 bel1 gr1 sz1)
          go_roundw
          case rel => exact ⟨k + 1, by omega, by go_num, _, rfl, congrArg Value.bool (by rw [any_take gravC hlt, ← HF.out, HC.out]; rfl), by rw [map_take gravB hlt]; exact own1, bel1⟩
          case measure => simp [intOf]; omega
      · have hm0 : l[k].inv = 0 := by omega
        have hg : gravB l[k] = l[k] := by
          unfold gravB; rw [if_pos (by simp [hm0])]
        have hc : gravC l[k] = false := by simp [gravC, hm0]
        have hlt0 : l[k].inv ≤ 0 := by omega
        have HG := Lib.hid hg
        have HC := Lib.hid hc
        clear hg hc hm0 hm
        go_wp2_with (at_builtin; refine own_append bodyE w.heap.size rfl (.tmp 41) (.tmp 43) 38 27 _ 40 rfl Tryz.underlying38 bodyInfo rfl (by decide) _ ((l.take k).map gravB) (gravB l[k]) _ (by rw [HG.out]; rfl) rfl (by first | rfl | simp [go_sem]) (hown.alloc _) (bel_alloc hbel _) (by simp; omega) (by simp; omega) ?_; intro v1 w2 own1 bel1 gr1 sz1)
        go_roundw
        case rel => exact ⟨k + 1, by omega, by go_num, f, by rw [any_take gravC hlt, ← HF.out, HC.out]; simp, rfl, by rw [map_take gravB hlt]; exact own1, bel1⟩
        case measure => simp [intOf]; omega
    · have hkl : k = l.length := by omega
      have HN := Lib.hid hkl
      clear hkl
      go_wp2
      go_ret2
      exact ⟨_, ret_flag (by rw [HF.out, HN.out, List.take_length]), by have := hown.reads (by simp; omega); rw [HN.out, List.take_length] at this; exact this, hbel⟩
end Go.Proofs.YtnhaiecbjipodaaGreatDoor
/- The contract of transform over the closure of Gravity, and of Gravity itself. -/
namespace Go.Proofs.YtnhaiecbjipodaaGreatDoor
open Go.RowKit
attribute [local go_sem] Grow.cell Grow.froz Grow.lt

theorem Flag.ne {w : World} {f b o : Nat} {c : Bool} {x : Body} (h : Flag w f c) (t : TenAt w b o x) : b ≠ f := by
  rintro rfl
  have h0 := t.1
  unfold Flag at h
  simp only [World.cell?, h] at h0
  cases o with
  | zero => simp at h0
  | succ n => simp at h0
theorem TenAt.grown {w w' : World} {b o f : Nat} {x : Body} (h : TenAt w b o x) (hg : w.grownBy w' (some f)) (hne : b ≠ f) : TenAt w' b o x := by
  obtain ⟨h0, h1, h2, h3, h4, h5, h6, h7, h8, h9⟩ := h
  have n : ∀ o, some (⟨b, o, none⟩ : Addr).block ≠ some f := fun _ e => hne (by simpa using e)
  exact ⟨hg.cell h0 (n _), hg.cell h1 (n _), hg.cell h2 (n _), hg.cell h3 (n _), hg.cell h4 (n _), hg.cell h5 (n _), hg.cell h6 (n _), hg.cell h7 (n _), hg.cell h8 (n _), hg.cell h9 (n _)⟩
theorem grown_below {w w1 w2 : World} {r : Option Nat} (h : w.grownBy w1 r) (hb : Below w.heap.size w1 w2) : w.grownBy w2 r :=
  ⟨hb.os.trans h.os, hb.tape.trans h.tape, hb.output.trans h.output, Nat.le_trans h.size hb.size, fun i hi hr => (hb.block i hi).trans (h.block i hi hr)⟩
theorem Flag.below {w w' : World} {f n : Nat} {c : Bool} (h : Flag w f c) (hb : Below n w w') (hf : f < n) : Flag w' f c := by
  unfold Flag at *
  rw [hb.block f hf, h]
theorem own_ne {α : Type} {E : Enc α} {t : TypeId} {w : World} {base f : Nat} {v : Value} {l : List α} (h : Own E t w base v l) (hf : f < base) : v.ownBlock = none ∨ v.ownBlock ≠ some f := by
  cases hv : v.ownBlock with
  | none => exact .inl rfl
  | some k => exact .inr (fun e => by have := h.base_le k hv; simp at e; omega)

set_option maxHeartbeats 1000000 in
theorem transformG (v : Value) (l : List Body) (f : Nat) (c0 : Bool) (w : World) (hl : Reads bodyE w v l) (hn : l.length ≤ 1000000) (hV : ∀ b ∈ l, Small b) (hF : Flag w f c0) :
    Calls Tryz.prog 123 #[v, .func (.func 124) #[] #[.pointer (some ⟨f, 0, none⟩)]] w fun e w' =>
      ∃ v', e = .returned v' ∧ Reads bodyE w' v' (l.map gravB) ∧ w.grownBy w' (some f) ∧ Flag w' f (c0 || l.any gravC) := by
  obtain ⟨A, c, b1, o1, rfl, hA, hx⟩ := hl.bodies
  have hfl := hF.lt
  have hA := Lib.hid hA
  have hx := Lib.hid hx
  have HV := Lib.hid hV
  have HFl := Lib.hid hF
  clear hl hV hF
  go_enter Tryz.func123, Tryz.ntmps123
  go_wp2
  go_loopw [5, 10] (fun v i wr => ∃ k : Nat, k ≤ l.length ∧ i = .int .i64 k ∧ Own bodyE 27 wr w.heap.size v ((l.take k).map gravB) ∧ w.grownBy wr (some f) ∧ Flag wr f (c0 || (l.take k).any gravC)) (fun _ i _ => l.length - (intOf i).toNat)
  case atStart => exact ⟨0, by omega, rfl, by simpa using Own.nil _ _ _ _, grown_refl _ _, by simpa using HFl.out⟩
  case round =>
    obtain ⟨k, hk, rfl, hown, hgr, hflag⟩ := hrel
    have HG := Lib.hid hgr
    have hz := hgr.size
    have HFk := Lib.hid hflag
    clear hgr hflag
    by_cases hlt : k < l.length
    · obtain ⟨eA, zA⟩ := hA.out (by omega)
      have ix := fun w => idx_body (c := c) eA hlt w
      clear eA
      obtain ⟨q0, q1, q2, q3, q4, q5, q6, q7, q8, q9⟩ := (hx.out k hlt).grown HG.out (HFl.out.ne (hx.out k hlt))
      obtain ⟨s0, s1, s2, s3, s4, s5, s6, s7, s8, s9⟩ := HV.out l[k] (List.getElem_mem hlt)
      go_wp2_with fail
      refine (gravClosure _ _ _ _ _ _ _ _ _ _ _ f _ _ (by exact HFk.out.alloc _) s4 s5).mono ?_
      rintro e w1 ⟨he, hg1, hfl1⟩
      obtain ⟨y, hy⟩ : ∃ y, y = gravB l[k] := ⟨_, rfl⟩
      have he' : e = .returned (.agg #[.int .u32 y.key, .int .i32 y.radius, .int .i32 y.ax, .int .i32 y.ay, .int .i32 y.inv, .int .i32 y.bounce, .int .i32 y.px, .int .i32 y.py, .int .i32 y.vx, .int .i32 y.vy]) := by rw [hy]; exact he
      subst he'
      have HY := Lib.hid hy
      clear hy he
      have HG1 := Lib.hid hg1
      have HF1 := Lib.hid hfl1
      have hz1 := hg1.size
      simp at hz1
      clear hg1 hfl1
      go_wp2_with (at_builtin; refine own_append bodyE w.heap.size rfl (.tmp 15) (.tmp 20) 38 27 _ 40 rfl Tryz.underlying38 bodyInfo rfl (by decide) _ ((l.take k).map gravB) y _ (by rfl) rfl (by first | rfl | simp [go_sem]) ((hown.alloc _).kept HG1.out (own_ne hown hfl)) (Below.refl _ _) (by omega) (by simp; omega) ?_; intro v1 w2 own1 bel1 gr1 sz1)
      go_roundw
      case rel => exact ⟨k + 1, by omega, by go_num, by rw [map_take gravB hlt, ← HY.out]; exact own1, grown_below (World.grownBy.trans (grown_alloc HG.out _) HG1.out) bel1, by rw [any_take gravC hlt, ← Bool.or_assoc]; exact HF1.out.below bel1 hfl⟩
      case measure => simp [intOf]; omega
    · have hkl : k = l.length := by omega
      have HN := Lib.hid hkl
      clear hkl
      go_wp2
      go_ret
      exact ⟨_, rfl, by have := hown.reads (by simp; omega); rw [HN.out, List.take_length] at this; exact this, HG.out, by have := HFk.out; rw [HN.out, List.take_length] at this; exact this⟩

theorem below_of_grown {w w' : World} {o : Obj} (h : (w.alloc o).grownBy w' (some w.heap.size)) : Below w.heap.size w w' := by
  have h1 : Below w.heap.size (w.alloc o) w' := ⟨h.os, h.tape, h.output, h.size, fun i hi => h.block i (by simp; omega) (by simp; omega)⟩
  exact (new_ok o).trans h1
theorem Flag.new (w : World) (c : Bool) : Flag (w.alloc (.cells #[.bool c] 4)) w.heap.size c := heap_alloc_new w _

set_option maxHeartbeats 1000000 in
theorem gravity_any (v : Value) (l : List Body) (w : World) (hl : Reads bodyE w v l) (hn : l.length ≤ 1000000) (hV : ∀ b ∈ l, Small b) :
    Calls Tryz.prog 80 #[v] w fun e w' => ∃ v', e = .returned (.tuple #[v', .bool (l.any gravC)]) ∧ Reads bodyE w' v' (l.map gravB) ∧ Below w.heap.size w w' := by
  have HL := Lib.hid hl
  have HV := Lib.hid hV
  obtain ⟨A, c, b1, o1, rfl, _, _⟩ := hl.bodies
  clear hl hV
  go_enter Tryz.func80, Tryz.ntmps80
  go_wp2_with fail
  refine (transformG _ l w.heap.size false _ (by exact HL.out.alloc _) hn HV.out (by exact Flag.new w false)).mono ?_
  rintro e w1 ⟨v1, rfl, hr, hg, hf⟩
  have hb := below_of_grown hg
  have HR := Lib.hid hr
  have hc := hf.cell
  have hfl := hf.lt
  simp only [Bool.false_or] at hc
  clear hr hg hf
  go_wp2_with fail
  refine wp_region_grow (by kernel_rfl) (by kernel_rfl) ?_
  repeat (first | go_big_quiet_skip | (go_big_quiet_want; go_big_quiet_op; first | go_big_quiet_on))
  refine wpQuiet_nil ?_
  rintro _ ⟨g, rfl⟩
  go_wp2_with fail
  go_ret2
  exact ⟨_, rfl, HR.out.grow g, bel_grow hb g⟩
end Go.Proofs.YtnhaiecbjipodaaGreatDoor
/- The closure of Move, transform over it, and Move, at whatever shifts: sums are cut to 64 bits. -/
namespace Go.Proofs.YtnhaiecbjipodaaGreatDoor
open Go.RowKit
attribute [local go_sem] Grow.cell Grow.froz Grow.lt

def shiftE : Enc (Int × Int) := ⟨2, fun s => [.int .i64 s.1, .int .i64 s.2], fun _ => rfl, fun s u hu => by
  simp at hu
  rcases hu with rfl | rfl <;> rfl, by decide⟩
def moveX (p s v : Int) : Int := wrap64 (wrap64 (p + s) + v / 64)
def moveB (b : Body) (s : Int × Int) : Body := { b with px := clampI (moveX b.px s.1 b.vx) 1073741824, py := clampI (moveX b.py s.2 b.vy) 1073741824 }
def moveC (b : Body) (s : Int × Int) : Bool := !(clampI (moveX b.px s.1 b.vx) 1073741824 == moveX b.px s.1 b.vx) || !(clampI (moveX b.py s.2 b.vy) 1073741824 == moveX b.py s.2 b.vy)
theorem idx_shift {A : Option Addr} {b off k len c : Nat} (hA : A = some ⟨b, off, none⟩) (hk : k < len) (w : World) :
    (Instr.indexAt 155 (.slice A len c) (.int .i64 (k : Int))).run Tryz.prog w = .ok (.pointer (some ⟨b, off + k * 2, none⟩)) w := by
  subst hA
  have hk' : (k : Int) < (len : Int) := by omega
  go_simp

theorem grown_drewN {w W : World} {r : Option Nat} (h : w.grownBy W r) (n : Nat) : w.grownBy (W.drewN n) r := ⟨h.os, h.tape, h.output, h.size, h.block⟩
theorem grown_setf {w W : World} {f o : Nat} (h : w.grownBy W (some f)) (v : Value) : w.grownBy (W.setCell ⟨f, o, none⟩ v) (some f) := by
  have k := (Below.refl 0 W).setCell (p := ⟨f, o, none⟩) (Nat.zero_le _) v
  exact ⟨k.os.trans h.os, k.tape.trans h.tape, k.output.trans h.output, Nat.le_trans h.size k.size, fun i hi hr => (Below.heap_setCell W ⟨f, o, none⟩ v i (fun e => hr (by rw [e]))).trans (h.block i hi hr)⟩
theorem grown_setn {w W : World} {r : Option Nat} {b o : Nat} (h : w.grownBy W r) (hb : w.heap.size ≤ b) (v : Value) : w.grownBy (W.setCell ⟨b, o, none⟩ v) r := by
  have k := (Below.refl 0 W).setCell (p := ⟨b, o, none⟩) (Nat.zero_le _) v
  exact ⟨k.os.trans h.os, k.tape.trans h.tape, k.output.trans h.output, Nat.le_trans h.size k.size, fun i hi hr => (Below.heap_setCell W ⟨b, o, none⟩ v i (by show i ≠ b; omega)).trans (h.block i hi hr)⟩
theorem Flag.drewN {w : World} {f : Nat} {c : Bool} (h : Flag w f c) (n : Nat) : Flag (w.drewN n) f c := h
theorem Flag.far {w : World} {f b o : Nat} {c : Bool} (h : Flag w f c) (hb : f ≠ b) (v : Value) : Flag (w.setCell ⟨b, o, none⟩ v) f c := by
  unfold Flag at *
  rw [Below.heap_setCell w ⟨b, o, none⟩ v f hb, h]

set_option maxHeartbeats 4000000 in
theorem moveClosure (k r ax ay m o px py vx vy : Int) (i lb f : Nat) (S : Option Addr) (n cc sb so : Nat) (sx sy : Int) (c : Bool) (w : World) (hF : Flag w f c)
    (hlb : w.cell? ⟨lb, 0, none⟩ = some (.slice S n cc)) (hS : S = some ⟨sb, so, none⟩) (hi : i < n) (hx : w.cell? ⟨sb, so + i * 2, none⟩ = some (.int .i64 sx)) (hy : w.cell? ⟨sb, so + i * 2 + 1, none⟩ = some (.int .i64 sy))
    (u0 : -16777216 ≤ vx) (u1 : vx ≤ 16777216) (u2 : -16777216 ≤ vy) (u3 : vy ≤ 16777216) (p0 : -1073741824 ≤ px) (p1 : px ≤ 1073741824) (p2 : -1073741824 ≤ py) (p3 : py ≤ 1073741824) :
    Calls Tryz.prog 128 #[.int .i64 (i : Int), .agg #[.int .u32 k, .int .i32 r, .int .i32 ax, .int .i32 ay, .int .i32 m, .int .i32 o, .int .i32 px, .int .i32 py, .int .i32 vx, .int .i32 vy], .pointer (some ⟨lb, 0, none⟩), .pointer (some ⟨f, 0, none⟩)] w fun e w' =>
      e = .returned (.agg (moveB ⟨k, r, ax, ay, m, o, px, py, vx, vy⟩ (sx, sy)).cells) ∧ w.grownBy w' (some f) ∧ Flag w' f (c || moveC ⟨k, r, ax, ay, m, o, px, py, vx, vy⟩ (sx, sy)) := by
  have h0 := hF.lt
  have h1 : f < w.heap.size + 1 := by omega
  have h2 : f < w.heap.size + 1 + 1 := by omega
  have h3 : f < w.heap.size + 1 + 1 + 1 := by omega
  have hc := hF.cell
  have hz := hF.froz
  have l0 : lb < w.heap.size := World.block_lt_of_cell? w _ hlb
  have l1 : lb < w.heap.size + 1 := by omega
  have l2 : lb < w.heap.size + 1 + 1 := by omega
  have k0 : sb < w.heap.size := World.block_lt_of_cell? w _ hx
  have k1 : sb < w.heap.size + 1 := by omega
  have k2 : sb < w.heap.size + 1 + 1 := by omega
  have ix := fun w => idx_shift (c := cc) hS hi w
  clear hS
  obtain ⟨X, hX⟩ : ∃ X, X = moveX px sx vx := ⟨_, rfl⟩
  obtain ⟨Y, hY⟩ : ∃ Y, Y = moveX py sy vy := ⟨_, rfl⟩
  have eX : wrap64 (wrap64 (px + sx) + vx / 64) = X := hX.symm
  have eY : wrap64 (wrap64 (py + sy) + vy / 64) = Y := hY.symm
  have hB : (moveB ⟨k, r, ax, ay, m, o, px, py, vx, vy⟩ (sx, sy)).cells = #[.int .u32 k, .int .i32 r, .int .i32 ax, .int .i32 ay, .int .i32 m, .int .i32 o, .int .i32 (clampI X 1073741824), .int .i32 (clampI Y 1073741824), .int .i32 vx, .int .i32 vy] := by rw [hX, hY]; rfl
  have hC : moveC ⟨k, r, ax, ay, m, o, px, py, vx, vy⟩ (sx, sy) = (!(clampI X 1073741824 == X) || !(clampI Y 1073741824 == Y)) := by rw [hX, hY]; rfl
  rw [hB, hC]
  clear hB hC hX hY
  go_enter Tryz.func128, Tryz.ntmps128
  go_wp2_with fail
  go_quiet (fail)
  go_wp2_with fail
  go_quiet (fail)
  go_wp2_with fail
  refine (limited_any _ _ _ _ c _ (by omega) (by omega) (by simp [go_sem]; rfl) (by simp [go_sem, *]) (by simp [go_sem, *])).mono ?_
  rintro e w1 ⟨rfl, rfl⟩
  go_wp2_with fail
  refine (limited_any _ _ _ _ (c || !(clampI X 1073741824 == X)) _ (by omega) (by omega) (by simp [go_sem]; rfl) (by simp [go_sem, *]) (by simp [go_sem, *])).mono ?_
  rintro e w1 ⟨rfl, rfl⟩
  go_wp2_with fail
  refine bodyPost_ret (v := .agg #[.int .u32 k, .int .i32 r, .int .i32 ax, .int .i32 ay, .int .i32 m, .int .i32 o, .int .i32 (clampI X 1073741824), .int .i32 (clampI Y 1073741824), .int .i32 vx, .int .i32 vy]) (by simp [results, Tryz.results128, go_sem, *]) rfl ⟨rfl, ?_, ?_⟩
  · repeat (first | with_reducible exact grown_refl _ _ | with_reducible refine grown_alloc ?_ _ | with_reducible refine grown_drewN ?_ _ | with_reducible refine grown_setf ?_ _ | with_reducible refine grown_setn ?_ (by omega) _)
  · rw [← Bool.or_assoc]
    repeat (first | with_reducible refine Flag.alloc ?_ _ | with_reducible refine Flag.drewN ?_ _ | with_reducible refine Flag.far ?_ (by omega) _)
    exact Flag.set (Flag.set (Flag.drewN ((hF.alloc _).alloc _) _) _) _

/-- Two cells of a shift at an address. -/
theorem shift_at {w : World} {b o : Nat} {s : Int × Int} (h : ∀ j u, (shiftE.cells s)[j]? = some u → w.cell? ⟨b, o + j, none⟩ = some u) : w.cell? ⟨b, o, none⟩ = some (.int .i64 s.1) ∧ w.cell? ⟨b, o + 1, none⟩ = some (.int .i64 s.2) := ⟨h 0 _ rfl, h 1 _ rfl⟩
theorem Flag.neS {w : World} {f b o : Nat} {c : Bool} {n : Int} (h : Flag w f c) (t : w.cell? ⟨b, o, none⟩ = some (.int .i64 n)) : b ≠ f := by
  rintro rfl
  unfold Flag at h
  simp only [World.cell?, h] at t
  cases o with
  | zero => simp at t
  | succ n => simp at t
theorem Flag.neV {w : World} {f b o : Nat} {c : Bool} {A : Option Addr} {n m : Nat} (h : Flag w f c) (t : w.cell? ⟨b, o, none⟩ = some (.slice A n m)) : b ≠ f := by
  rintro rfl
  unfold Flag at h
  simp only [World.cell?, h] at t
  cases o with
  | zero => simp at t
  | succ n => simp at t
theorem grown_cell {w w' : World} {b o f : Nat} {u : Value} (h : w.cell? ⟨b, o, none⟩ = some u) (hg : w.grownBy w' (some f)) (hne : b ≠ f) : w'.cell? ⟨b, o, none⟩ = some u := hg.cell h (fun e => hne (by simpa using e))

/-- The bodies and their shifts, one by one. -/
def movL (l : List Body) (s : List (Int × Int)) : List Body := (l.zip s).map fun p => moveB p.1 p.2
def movC (l : List Body) (s : List (Int × Int)) : Bool := (l.zip s).any fun p => moveC p.1 p.2

theorem zip_take {l : List Body} {s : List (Int × Int)} {k : Nat} (hk : k < l.length) (hs : k < s.length) : (l.take (k + 1)).zip s = (l.take k).zip s ++ [(l[k], s[k])] := by
  have e : ∀ n, (l.take n).zip s = (l.zip s).take n := fun n => by
    apply List.ext_getElem
    · simp
      try omega
    · intro i h1 h2; simp
  rw [e, e, List.take_succ_eq_append_getElem (by simp; omega)]
  simp
theorem movL_take {l : List Body} {s : List (Int × Int)} {k : Nat} (hk : k < l.length) (hs : k < s.length) : movL (l.take (k + 1)) s = movL (l.take k) s ++ [moveB l[k] s[k]] := by
  unfold movL; rw [zip_take hk hs, List.map_append]; rfl
theorem movC_take {l : List Body} {s : List (Int × Int)} {k : Nat} (hk : k < l.length) (hs : k < s.length) : movC (l.take (k + 1)) s = (movC (l.take k) s || moveC l[k] s[k]) := by
  unfold movC; rw [zip_take hk hs, List.any_append]; simp
def Fresh (n : Nat) (v : Value) : Prop := ∀ k, v.ownBlock = some k → n ≤ k
theorem Reads.cell_alloc {w : World} {b o : Nat} {u : Value} (h : w.cell? ⟨b, o, Option.none⟩ = some u) (x : Obj) : (w.alloc x).cell? ⟨b, o, Option.none⟩ = some u :=
  (keepB (new_ok x) b (World.block_lt_of_cell? w _ h) o).trans h

set_option maxHeartbeats 4000000 in
theorem transformM (v : Value) (l : List Body) (S : Option Addr) (s : List (Int × Int)) (cc sb so lb f : Nat) (c0 : Bool) (w : World) (hl : Reads bodyE w v l) (hn : l.length ≤ 1000000) (hV : ∀ b ∈ l, Small b) (hF : Flag w f c0)
    (hs : s.length = l.length) (hlb : w.cell? ⟨lb, 0, none⟩ = some (.slice S s.length cc)) (hS : 0 < s.length → S = some ⟨sb, so, none⟩) (hx : ∀ i (hi : i < s.length), w.cell? ⟨sb, so + i * 2, none⟩ = some (.int .i64 s[i].1) ∧ w.cell? ⟨sb, so + i * 2 + 1, none⟩ = some (.int .i64 s[i].2)) :
    Calls Tryz.prog 123 #[v, .func (.func 128) #[] #[.pointer (some ⟨lb, 0, none⟩), .pointer (some ⟨f, 0, none⟩)]] w fun e w' =>
      ∃ v', e = .returned v' ∧ Reads bodyE w' v' (movL l s) ∧ w.grownBy w' (some f) ∧ Flag w' f (c0 || movC l s) ∧ Fresh w.heap.size v' := by
  obtain ⟨A, c, b1, o1, rfl, hA, hy⟩ := hl.bodies
  have hfl := hF.lt
  have hA := Lib.hid hA
  have hy := Lib.hid hy
  have HV := Lib.hid hV
  have HFl := Lib.hid hF
  have HS := Lib.hid hs
  have HLB := Lib.hid hlb
  have HSA := Lib.hid hS
  have HX := Lib.hid hx
  clear hl hV hF hs hlb hS hx
  go_enter Tryz.func123, Tryz.ntmps123
  go_wp2
  go_loopw [5, 10] (fun v i wr => ∃ k : Nat, k ≤ l.length ∧ i = .int .i64 k ∧ Own bodyE 27 wr w.heap.size v (movL (l.take k) s) ∧ w.grownBy wr (some f) ∧ Flag wr f (c0 || movC (l.take k) s)) (fun _ i _ => l.length - (intOf i).toNat)
  case atStart => exact ⟨0, by omega, rfl, by simpa [movL] using Own.nil _ _ _ _, grown_refl _ _, by simpa [movC] using HFl.out⟩
  case round =>
    obtain ⟨k, hk, rfl, hown, hgr, hflag⟩ := hrel
    have HG := Lib.hid hgr
    have hz := hgr.size
    have HFk := Lib.hid hflag
    clear hgr hflag
    by_cases hlt : k < l.length
    · have hks : k < s.length := by have := HS.out; omega
      obtain ⟨eA, zA⟩ := hA.out (by omega)
      have ix := fun w => idx_body (c := c) eA hlt w
      clear eA
      obtain ⟨q0, q1, q2, q3, q4, q5, q6, q7, q8, q9⟩ := (hy.out k hlt).grown HG.out (HFl.out.ne (hy.out k hlt))
      obtain ⟨s0, s1, s2, s3, s4, s5, s6, s7, s8, s9⟩ := HV.out l[k] (List.getElem_mem hlt)
      have c1 := Lib.hid (grown_cell HLB.out HG.out (HFl.out.neV HLB.out))
      have c2 := Lib.hid (grown_cell (HX.out k hks).1 HG.out (HFl.out.neS (HX.out k hks).1))
      have c3 := Lib.hid (grown_cell (HX.out k hks).2 HG.out (HFl.out.neS (HX.out k hks).1))
      go_wp2_with fail
      refine (moveClosure _ _ _ _ _ _ _ _ _ _ k lb f S s.length cc sb so s[k].1 s[k].2 _ _ (by exact HFk.out.alloc _) (by exact Reads.cell_alloc c1.out _) (HSA.out (by omega)) hks (by exact Reads.cell_alloc c2.out _) (by exact Reads.cell_alloc c3.out _) s2 s3 s4 s5 s6 s7 s8 s9).mono ?_
      rintro e w1 ⟨he, hg1, hfl1⟩
      obtain ⟨y, hy⟩ : ∃ y, y = moveB l[k] s[k] := ⟨_, rfl⟩
      have he' : e = .returned (.agg #[.int .u32 y.key, .int .i32 y.radius, .int .i32 y.ax, .int .i32 y.ay, .int .i32 y.inv, .int .i32 y.bounce, .int .i32 y.px, .int .i32 y.py, .int .i32 y.vx, .int .i32 y.vy]) := by rw [hy]; exact he
      subst he'
      have HY := Lib.hid hy
      clear hy he
      have HG1 := Lib.hid hg1
      have HF1 := Lib.hid hfl1
      have hz1 := hg1.size
      simp at hz1
      have hlen : (movL (l.take k) s).length ≤ k := by simp [movL]; omega
      clear hg1 hfl1
      go_wp2_with (at_builtin; refine own_append bodyE w.heap.size rfl (.tmp 15) (.tmp 20) 38 27 _ 40 rfl Tryz.underlying38 bodyInfo rfl (by decide) _ (movL (l.take k) s) y _ (by rfl) rfl (by first | rfl | simp [go_sem]) ((hown.alloc _).kept HG1.out (own_ne hown hfl)) (Below.refl _ _) (by omega) (by omega) ?_; intro v1 w2 own1 bel1 gr1 sz1)
      go_roundw
      case rel => exact ⟨k + 1, by omega, by go_num, by rw [movL_take hlt hks, ← HY.out]; exact own1, grown_below (World.grownBy.trans (grown_alloc HG.out _) HG1.out) bel1, by rw [movC_take hlt hks, ← Bool.or_assoc]; exact HF1.out.below bel1 hfl⟩
      case measure => simp [intOf]; omega
    · have hkl : k = l.length := by omega
      have HN := Lib.hid hkl
      have hlen : (movL (l.take k) s).length ≤ k := by simp [movL]; omega
      clear hkl
      go_wp2
      go_ret
      exact ⟨_, rfl, by have := hown.reads (by omega); rw [HN.out, List.take_length] at this; exact this, HG.out, by have := HFk.out; rw [HN.out, List.take_length] at this; exact this, fun k hk => hown.base_le k hk⟩

theorem Flag.new' (w : World) (o : Obj) (c : Bool) : Flag ((w.alloc o).alloc (.cells #[.bool c] 4)) (w.heap.size + 1) c := by
  have h := Flag.new (w.alloc o) c
  simpa using h
theorem below_of_grown2 {w w' : World} {o p : Obj} (h : ((w.alloc o).alloc p).grownBy w' (some (w.heap.size + 1))) : Below w.heap.size w w' := by
  have h1 : Below w.heap.size ((w.alloc o).alloc p) w' := ⟨h.os, h.tape, h.output, h.size, fun i hi => h.block i (by simp; omega) (by simp; omega)⟩
  exact (bel_alloc (new_ok o) p).trans h1

set_option maxHeartbeats 2000000 in
theorem move_any (v u : Value) (l : List Body) (s : List (Int × Int)) (w : World) (hl : Reads bodyE w v l) (hn : l.length ≤ 1000000) (hV : ∀ b ∈ l, Small b)
    (hu : Reads shiftE w u s) (hs : s.length = l.length) :
    Calls Tryz.prog 82 #[v, u] w fun e w' => ∃ v', e = .returned (.tuple #[v', .bool (movC l s)]) ∧ Reads bodyE w' v' (movL l s) ∧ Below w.heap.size w w' ∧ Fresh w.heap.size v' := by
  have HL := Lib.hid hl
  have HV := Lib.hid hV
  have HS := Lib.hid hs
  obtain ⟨A, c, b1, o1, rfl, _, _⟩ := hl.bodies
  obtain ⟨S, cc, sb, so, rfl, hS, hx⟩ := hu.form
  have HSA := Lib.hid hS
  have HX := Lib.hid hx
  clear hl hV hs hu hS hx
  go_enter Tryz.func82, Tryz.ntmps82
  go_wp2_with fail
  refine (transformM _ l S s cc sb so w.heap.size (w.heap.size + 1) false _ (by exact (HL.out.alloc _).alloc _) hn HV.out (by exact Flag.new' w _ false) HS.out (by simp) (fun h => (HSA.out h).1) (fun i hi => shift_at (fun j u hu => Reads.cell_alloc (Reads.cell_alloc (HX.out i hi j u hu) _) _))).mono ?_
  rintro e w1 ⟨v1, rfl, hr, hg, hf, hfr⟩
  have hb := below_of_grown2 hg
  have HFR := Lib.hid hfr
  clear hfr
  have HR := Lib.hid hr
  have hc := hf.cell
  have hfl := hf.lt
  simp only [Bool.false_or] at hc
  clear hr hg hf
  go_wp2_with fail
  refine wp_region_grow (by kernel_rfl) (by kernel_rfl) ?_
  repeat (first | go_big_quiet_skip | (go_big_quiet_want; go_big_quiet_op; first | go_big_quiet_on))
  refine wpQuiet_nil ?_
  rintro _ ⟨g, rfl⟩
  go_wp2_with fail
  go_ret2
  exact ⟨_, rfl, HR.out.grow g, bel_grow hb g, fun k hk => by have := HFR.out k hk; simp at this; omega⟩
end Go.Proofs.YtnhaiecbjipodaaGreatDoor
