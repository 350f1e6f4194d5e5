/- The contracts of the reference's Find, Put, Add and All: bodies in ascending order of their keys. -/
import Derived.Test.YthoapplkaidaaaaSame
namespace Go.Proofs.Ythoapplkaidaaaa
open Go.RowKit
attribute [local go_sem] Grow.cell Grow.froz Grow.lt
attribute [local go_sem high] body_eq

def findK : List Body → Int → Nat → Int
  | [], _, _ => -1
  | b :: r, key, i => if b.key = key then (i : Int) else findK r key (i + 1)
theorem findK_range : ∀ (l : List Body) (key : Int) (i : Nat), findK l key i = -1 ∨ ((i : Int) ≤ findK l key i ∧ findK l key i < (i : Int) + l.length)
  | [], _, _ => .inl rfl
  | b :: r, key, i => by
    unfold findK
    by_cases h : b.key = key
    · rw [if_pos h]; right; simp; omega
    · rw [if_neg h]
      rcases findK_range r key (i + 1) with h1 | h1
      · exact .inl h1
      · right; simp; omega
theorem findK_hit {l : List Body} {key : Int} {k : Nat} (hk : k < l.length) (h : l[k].key = key) : findK (l.drop k) key k = k := by
  rw [List.drop_eq_getElem_cons hk, findK, if_pos h]
theorem findK_miss {l : List Body} {key : Int} {k : Nat} (hk : k < l.length) (h : ¬ l[k].key = key) : findK (l.drop k) key k = findK (l.drop (k + 1)) key (k + 1) := by
  rw [List.drop_eq_getElem_cons hk, findK, if_neg h]
theorem findK_end {l : List Body} {key : Int} {k : Nat} (hk : ¬ k < l.length) : findK (l.drop k) key k = -1 := by
  rw [List.drop_eq_nil_of_le (by omega)]; rfl

set_option maxHeartbeats 1000000 in
theorem find_any (v : Value) (l : List Body) (key : Int) (w : World) (hl : Reads bodyE w v l) :
    Calls Try.prog 35 #[v, .int .u32 key] w fun e w' => e = .returned (.int .i64 (findK l key 0)) ∧ w = w' := by
  have q := hl.1
  obtain ⟨A, c, b1, o1, rfl, hA, hx⟩ := hl.bodies
  have hA := Lib.hid hA
  have hx := Lib.hid hx
  clear hl
  go_enter Try.func35, Try.ntmps35
  go_wp2
  go_loop [5] (fun i => ∃ k : Nat, k ≤ l.length ∧ i = .int .i64 k ∧ findK l key 0 = findK (l.drop k) key k) (fun i => l.length - (intOf i).toNat)
  case atStart => exact ⟨0, by omega, rfl, rfl⟩
  case round =>
    obtain ⟨k, hk, rfl, hP⟩ := hrel
    have HP := Lib.hid hP
    clear hP
    by_cases hlt : k < l.length
    · obtain ⟨eA, zA⟩ := hA.out (by omega)
      obtain ⟨q0, q1, q2, q3, q4, q5, q6, q7, q8, q9⟩ := hx.out k hlt
      by_cases he : l[k].key = key
      · have hq : (l[k].key == key) = true := by simp [he]
        have HE := Lib.hid he
        clear he
        go_wp2
        go_ret
        exact ⟨ret_int (by rw [HP.out, findK_hit hlt HE.out]), rfl⟩
      · have hq : (l[k].key == key) = false := by simp [he]
        have HE := Lib.hid he
        clear he
        go_wp2
        go_round
        case rel => exact ⟨k + 1, by omega, by go_num, by rw [HP.out, findK_miss hlt HE.out]⟩
        case measure => simp [intOf]; omega
    · go_wp2
      go_ret
      exact ⟨ret_int (by rw [HP.out, findK_end hlt]), rfl⟩

/-- What a round of Put does. -/
def putStep (b : Body) (s : List Body × Bool) (x : Body) : List Body × Bool :=
  let t := if (!s.2 && decide (b.key ≤ x.key)) = true then (s.1 ++ [b], true) else s
  if x.key = b.key then t else (t.1 ++ [x], t.2)
def putL (l : List Body) (b : Body) (gone : Bool) : List Body :=
  let s := l.foldl (putStep b) ([], gone)
  if s.2 = true then s.1 else s.1 ++ [b]
def pend (d : Bool) : Nat := bif d then 0 else 1
theorem putStep_len (b : Body) (s : List Body × Bool) (x : Body) : (putStep b s x).1.length + pend (putStep b s x).2 ≤ s.1.length + pend s.2 + 1 := by
  obtain ⟨a, d⟩ := s
  unfold putStep
  by_cases h2 : x.key = b.key
  · by_cases h1 : b.key ≤ x.key <;> cases d <;> simp [h2, pend] <;> omega
  · by_cases h1 : b.key ≤ x.key <;> cases d <;> simp [h1, h2, pend] <;> omega
theorem put_len (b : Body) (l : List Body) (s : List Body × Bool) : (l.foldl (putStep b) s).1.length + pend (l.foldl (putStep b) s).2 ≤ s.1.length + pend s.2 + l.length := by
  induction l generalizing s with
  | nil => simp
  | cons x r ih =>
    have h1 := ih (putStep b s x)
    have h2 := putStep_len b s x
    simp only [List.foldl_cons, List.length_cons]
    omega
theorem putL_len (l : List Body) (b : Body) (gone : Bool) : (putL l b gone).length ≤ l.length + 1 := by
  have h := put_len b l ([], gone)
  have hp : pend gone ≤ 1 := by cases gone <;> decide
  unfold putL
  simp only
  split
  · simp at h; omega
  · rename_i hd
    have hd' : (l.foldl (putStep b) ([], gone)).2 = false := by simpa using hd
    rw [hd'] at h
    simp [pend] at h
    simp
    cases gone <;> simp at h <;> omega
theorem take_fold {l : List Body} {k : Nat} (b : Body) (s : List Body × Bool) (hk : k < l.length) : (l.take (k + 1)).foldl (putStep b) s = putStep b ((l.take k).foldl (putStep b) s) l[k] := by
  rw [List.take_succ_eq_append_getElem hk, List.foldl_append]; rfl
end Go.Proofs.Ythoapplkaidaaaa
