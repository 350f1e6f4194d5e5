/-
  NARROWER THAN 'FOR EVERY INPUT', by the rows' own cells (each row's printed sentence says how): WholeErrors: laid · WholeFull: laid · WholeIslands: laid.
  DERIVED. THE GIVEN ROWS OF THIS SEAT. 3 by the template 'for every input the law returns true; each argument reads behind the call as it read before'; 0 by the template 'total and deterministic' (their statements: YtnhaiecbjipodaaGreatDoorTotals.lean).
  GIVEN WITH THE SEED: the statements are not yours to turn. If you find one false, say at which input.
  Laid BY PROGRAM, IN A SANDBOX (cutbox-rows.mjs): the forced cells as the released guide's own fill.sh prints them over the translation 2b773641002717fe… (all of the seat's roots in one cut). By AI agents, Wed Nov 11 2026. No macro, syntax, notation, axiom, sorry.
-/
import Derived.Test.YtnhaiecbjipodaaGreatDoorChecked
import GoSem.Claim
import GoSem.ClaimJoined
import GoSem.ClaimMapViews
import Derived.JoinedTies
import Derived.KernelRfl
namespace Go.Proofs.YtnhaiecbjipodaaGreatDoor
/- THE CELL 'sum', in the pinned program and in every row, IS THE sha256 OF THE DUMP (.gsa) THAT YtnhaiecbjipodaaGreatDoorProg.lean LOADS. Nothing in Lean hashes anything: it is a label: what it is worth is what the hold of that sum in a sandbox is worth. -/
noncomputable def Tryz.pinned : Pinned := { name := "ytnhaiecbjipodaagreatdoor", sum := "2b773641002717fe1f8173113d13530ae0d933404d586c48617d6b7dc4420e79", checked := Tryz.checked }
namespace Rows
def none {H : Type} : Left H := { results := [], args := [] }

/- WHAT THE LISTED PACKAGE-LEVEL VARIABLES READ AS WHEN THE CALL BEGINS. Each datum BY PROGRAM (the guide's laid-datum.mjs) off the statement by which the dump's own 'gosem.cut.vars' lays the variable. In a bare row this is a premise. The card (YtnhaiecbjipodaaGreatDoorCards.lean) ties it to the program's text. -/
def laid_billiard_box_none {H : Type} : DataW H := .agg [.lit (.int .i32 1), .lit (.int .i32 0), .lit (.int .i32 0), .lit (.int .i32 0)]
def laid_billiard_cell_factors {H : Type} : DataW H := .agg [.lit (.int .u32 73856093), .lit (.int .u32 19349663)]

/-- 'billiardtop.WholeErrors': WHATEVER THE INPUT: true; the input reads as it did. -/
def wholeErrorsSpec : ChangeSpec := { name := "wholeErrors", fn := fun _ => fun
  | [d1, d2] => { results := [.lit (.bool true)], args := [d1, d2] }
  | _ => none }
def wholeErrorsRow : OpenClaim := { program := "ytnhaiecbjipodaagreatdoor", sum := "2b773641002717fe1f8173113d13530ae0d933404d586c48617d6b7dc4420e79", func := "billiard/billiardtop.WholeErrors", spec := "wholeErrors", inPlace := ["math/bits.Add64"], unfollowed := true, recurses := true, named := ["billiard/cell.factors", "billiard/box.none", "math/bits.divideError", "math/bits.overflowError"], plainKeys := false, apart := false, laid := [("billiard/box.none", laid_billiard_box_none), ("billiard/cell.factors", laid_billiard_cell_factors)] }
def WholeErrorsSaid : Prop := wholeErrorsRow.holds Tryz.pinned (OpenSpec.ofChange wholeErrorsSpec)

/-- ITS FALSE NEIGHBOUR: 'it returns false'. Refute it at one input. -/
def wholeErrorsWrong : ChangeSpec := { name := "wholeErrors", fn := fun _ => fun
  | [d1, d2] => { results := [.lit (.bool false)], args := [d1, d2] }
  | _ => none }
def WholeErrorsWrongFalsely : Prop := wholeErrorsRow.holds Tryz.pinned (OpenSpec.ofChange wholeErrorsWrong)

/-- 'billiardtop.WholeFull': WHATEVER THE INPUT: true; the input reads as it did. -/
def wholeFullSpec : ChangeSpec := { name := "wholeFull", fn := fun _ => fun
  | [d1, d2] => { results := [.lit (.bool true)], args := [d1, d2] }
  | _ => none }
def wholeFullRow : OpenClaim := { program := "ytnhaiecbjipodaagreatdoor", sum := "2b773641002717fe1f8173113d13530ae0d933404d586c48617d6b7dc4420e79", func := "billiard/billiardtop.WholeFull", spec := "wholeFull", inPlace := ["math/bits.Add64"], unfollowed := true, recurses := true, named := ["billiard/cell.factors", "billiard/box.none", "math/bits.divideError", "math/bits.overflowError"], plainKeys := false, apart := false, laid := [("billiard/box.none", laid_billiard_box_none), ("billiard/cell.factors", laid_billiard_cell_factors)] }
def WholeFullSaid : Prop := wholeFullRow.holds Tryz.pinned (OpenSpec.ofChange wholeFullSpec)

/-- ITS FALSE NEIGHBOUR: 'it returns false'. Refute it at one input. -/
def wholeFullWrong : ChangeSpec := { name := "wholeFull", fn := fun _ => fun
  | [d1, d2] => { results := [.lit (.bool false)], args := [d1, d2] }
  | _ => none }
def WholeFullWrongFalsely : Prop := wholeFullRow.holds Tryz.pinned (OpenSpec.ofChange wholeFullWrong)

/-- 'billiardtop.WholeIslands': WHATEVER THE INPUT: true; the input reads as it did. -/
def wholeIslandsSpec : ChangeSpec := { name := "wholeIslands", fn := fun _ => fun
  | [d1, d2] => { results := [.lit (.bool true)], args := [d1, d2] }
  | _ => none }
def wholeIslandsRow : OpenClaim := { program := "ytnhaiecbjipodaagreatdoor", sum := "2b773641002717fe1f8173113d13530ae0d933404d586c48617d6b7dc4420e79", func := "billiard/billiardtop.WholeIslands", spec := "wholeIslands", inPlace := ["math/bits.Add64"], unfollowed := true, recurses := true, named := ["billiard/cell.factors", "billiard/box.none", "math/bits.divideError", "math/bits.overflowError"], plainKeys := false, apart := false, laid := [("billiard/box.none", laid_billiard_box_none), ("billiard/cell.factors", laid_billiard_cell_factors)] }
def WholeIslandsSaid : Prop := wholeIslandsRow.holds Tryz.pinned (OpenSpec.ofChange wholeIslandsSpec)

/-- ITS FALSE NEIGHBOUR: 'it returns false'. Refute it at one input. -/
def wholeIslandsWrong : ChangeSpec := { name := "wholeIslands", fn := fun _ => fun
  | [d1, d2] => { results := [.lit (.bool false)], args := [d1, d2] }
  | _ => none }
def WholeIslandsWrongFalsely : Prop := wholeIslandsRow.holds Tryz.pinned (OpenSpec.ofChange wholeIslandsWrong)

/- THE SECOND FORM. 'bulk': how many values and letters a reading holds, each counted each time it is reached (what is shared counts as often as it is met; a slice's spare places count too). A statement '..UptoSaid' is the law's where the arguments, and the package variables that the reading takes, are together of bulk at most 1048576: NARROWER than '..Said'. Prove '..Said' where nothing that the law and all that it calls make is longer than what came in: it says more and counts as full. Else prove '..UptoSaid'. A law counts once. -/
mutual
def uptoBulk {H : Type} : DataW H → Nat
  | .lit (.string bytes) => bytes.length + 1
  | .lit _ => 1
  | .nil => 1
  | .ptr d => uptoBulk d + 1
  | .slice elems spare => uptoBulkAll elems + uptoBulkAll spare + 1
  | .agg parts => uptoBulkAll parts + 1
  | .iface _ d => uptoBulk d + 1
  | .map entries => uptoBulkEntries entries + 1
  | .held _ => 1
def uptoBulkAll {H : Type} : List (DataW H) → Nat
  | [] => 0
  | d :: r => uptoBulk d + uptoBulkAll r
def uptoBulkEntries {H : Type} : List (Lit × DataW H) → Nat
  | [] => 0
  | x :: r => uptoBulkEntry x + uptoBulkEntries r
def uptoBulkEntry {H : Type} : Lit × DataW H → Nat
  | (.string bytes, d) => bytes.length + uptoBulk d + 1
  | (_, d) => uptoBulk d + 1
 end
def uptoSmall : (H : Type) → List (DataW H) → Bool := fun _ ds => decide (uptoBulkAll ds ≤ 1048576)
def OpenSpec.upto (s : _root_.Go.ChangeSpec) : _root_.Go.OpenSpec := { _root_.Go.OpenSpec.ofChange s with cond := some uptoSmall }

/-- 'billiardtop.WholeErrors', WHERE WHAT IT READS IS OF BULK AT MOST 1048576: true; the input reads as it did. -/
def wholeErrorsUptoRow : OpenClaim := { program := "ytnhaiecbjipodaagreatdoor", sum := "2b773641002717fe1f8173113d13530ae0d933404d586c48617d6b7dc4420e79", func := "billiard/billiardtop.WholeErrors", spec := "wholeErrors", inPlace := ["math/bits.Add64"], unfollowed := true, recurses := true, named := ["billiard/cell.factors", "billiard/box.none", "math/bits.divideError", "math/bits.overflowError"], plainKeys := false, apart := false, laid := [("billiard/box.none", laid_billiard_box_none), ("billiard/cell.factors", laid_billiard_cell_factors)], narrowed := true }
def WholeErrorsUptoSaid : Prop := wholeErrorsUptoRow.holds Tryz.pinned (OpenSpec.upto wholeErrorsSpec)

/-- 'billiardtop.WholeFull', WHERE WHAT IT READS IS OF BULK AT MOST 1048576: true; the input reads as it did. -/
def wholeFullUptoRow : OpenClaim := { program := "ytnhaiecbjipodaagreatdoor", sum := "2b773641002717fe1f8173113d13530ae0d933404d586c48617d6b7dc4420e79", func := "billiard/billiardtop.WholeFull", spec := "wholeFull", inPlace := ["math/bits.Add64"], unfollowed := true, recurses := true, named := ["billiard/cell.factors", "billiard/box.none", "math/bits.divideError", "math/bits.overflowError"], plainKeys := false, apart := false, laid := [("billiard/box.none", laid_billiard_box_none), ("billiard/cell.factors", laid_billiard_cell_factors)], narrowed := true }
def WholeFullUptoSaid : Prop := wholeFullUptoRow.holds Tryz.pinned (OpenSpec.upto wholeFullSpec)

/-- 'billiardtop.WholeIslands', WHERE WHAT IT READS IS OF BULK AT MOST 1048576: true; the input reads as it did. -/
def wholeIslandsUptoRow : OpenClaim := { program := "ytnhaiecbjipodaagreatdoor", sum := "2b773641002717fe1f8173113d13530ae0d933404d586c48617d6b7dc4420e79", func := "billiard/billiardtop.WholeIslands", spec := "wholeIslands", inPlace := ["math/bits.Add64"], unfollowed := true, recurses := true, named := ["billiard/cell.factors", "billiard/box.none", "math/bits.divideError", "math/bits.overflowError"], plainKeys := false, apart := false, laid := [("billiard/box.none", laid_billiard_box_none), ("billiard/cell.factors", laid_billiard_cell_factors)], narrowed := true }
def WholeIslandsUptoSaid : Prop := wholeIslandsUptoRow.holds Tryz.pinned (OpenSpec.upto wholeIslandsSpec)

end Rows
end Go.Proofs.YtnhaiecbjipodaaGreatDoor
