/-
  No cell of these rows narrows 'for every input' (looked for: loops, veiled, ifaces, maps, wideKeys, modest, calm, conditions, laid).
  DERIVED. THE GIVEN ROWS OF THIS SEAT. 5 by the template 'for every input the law returns true; each argument reads behind the call as it read before'; 0 by the template 'total and deterministic' (their statements: YthoapplkaidaaaaTotals.lean).
  GIVEN WITH THE SEED: the statements are not yours to turn. If you find one false, say at which input.
  Laid BY PROGRAM, IN A SANDBOX (cutbox-rows.mjs): the forced cells as the released guide's own fill.sh prints them over the translation a1c904386f402117… (all of the seat's roots in one cut). By AI agents, Wed Nov 11 2026. No macro, syntax, notation, axiom, sorry.
-/
import Derived.Test.YthoapplkaidaaaaChecked
import GoSem.Claim
import GoSem.ClaimJoined
import GoSem.ClaimMapViews
import Derived.JoinedTies
import Derived.KernelRfl
namespace Go.Proofs.Ythoapplkaidaaaa
/- THE CELL 'sum', in the pinned program and in every row, IS THE sha256 OF THE DUMP (.gsa) THAT YthoapplkaidaaaaProg.lean LOADS. Nothing in Lean hashes anything: it is a label: what it is worth is what the hold of that sum in a sandbox is worth. -/
noncomputable def Try.pinned : Pinned := { name := "ythoapplkaidaaaa", sum := "a1c904386f402117842e4677e3ff585a282724d9ee8f813f07597e1ba1df0951", checked := Try.checked }
namespace Rows
def none {H : Type} : Left H := { results := [], args := [] }

/-- 'billiardlaw19.IntegrateMatchesReference': WHATEVER THE INPUT: true; the input reads as it did. -/
def integrateMatchesReferenceSpec : ChangeSpec := { name := "integrateMatchesReference", fn := fun _ => fun
  | [d1, d2, d3] => { results := [.lit (.bool true)], args := [d1, d2, d3] }
  | _ => none }
def integrateMatchesReferenceRow : OpenClaim := { program := "ythoapplkaidaaaa", sum := "a1c904386f402117842e4677e3ff585a282724d9ee8f813f07597e1ba1df0951", func := "billiard/billiardlaw19.IntegrateMatchesReference", spec := "integrateMatchesReference", unfollowed := true, recurses := true, apart := false }
def IntegrateMatchesReferenceSaid : Prop := integrateMatchesReferenceRow.holds Try.pinned (OpenSpec.ofChange integrateMatchesReferenceSpec)

/-- ITS FALSE NEIGHBOUR: 'it returns false'. Refute it at one input. -/
def integrateMatchesReferenceWrong : ChangeSpec := { name := "integrateMatchesReference", fn := fun _ => fun
  | [d1, d2, d3] => { results := [.lit (.bool false)], args := [d1, d2, d3] }
  | _ => none }
def IntegrateMatchesReferenceWrongFalsely : Prop := integrateMatchesReferenceRow.holds Try.pinned (OpenSpec.ofChange integrateMatchesReferenceWrong)

/-- 'billiardlaw19.IntegrateLimits': WHATEVER THE INPUT: true; the input reads as it did. -/
def integrateLimitsSpec : ChangeSpec := { name := "integrateLimits", fn := fun _ => fun
  | [d1, d2] => { results := [.lit (.bool true)], args := [d1, d2] }
  | _ => none }
def integrateLimitsRow : OpenClaim := { program := "ythoapplkaidaaaa", sum := "a1c904386f402117842e4677e3ff585a282724d9ee8f813f07597e1ba1df0951", func := "billiard/billiardlaw19.IntegrateLimits", spec := "integrateLimits", unfollowed := true, recurses := true, apart := false }
def IntegrateLimitsSaid : Prop := integrateLimitsRow.holds Try.pinned (OpenSpec.ofChange integrateLimitsSpec)

/-- ITS FALSE NEIGHBOUR: 'it returns false'. Refute it at one input. -/
def integrateLimitsWrong : ChangeSpec := { name := "integrateLimits", fn := fun _ => fun
  | [d1, d2] => { results := [.lit (.bool false)], args := [d1, d2] }
  | _ => none }
def IntegrateLimitsWrongFalsely : Prop := integrateLimitsRow.holds Try.pinned (OpenSpec.ofChange integrateLimitsWrong)

/-- 'billiardlaw19.IntegrateMoves': WHATEVER THE INPUT: true; the input reads as it did. -/
def integrateMovesSpec : ChangeSpec := { name := "integrateMoves", fn := fun _ => fun
  | [d1, d2, d3] => { results := [.lit (.bool true)], args := [d1, d2, d3] }
  | _ => none }
def integrateMovesRow : OpenClaim := { program := "ythoapplkaidaaaa", sum := "a1c904386f402117842e4677e3ff585a282724d9ee8f813f07597e1ba1df0951", func := "billiard/billiardlaw19.IntegrateMoves", spec := "integrateMoves", unfollowed := true, recurses := true, apart := false }
def IntegrateMovesSaid : Prop := integrateMovesRow.holds Try.pinned (OpenSpec.ofChange integrateMovesSpec)

/-- ITS FALSE NEIGHBOUR: 'it returns false'. Refute it at one input. -/
def integrateMovesWrong : ChangeSpec := { name := "integrateMoves", fn := fun _ => fun
  | [d1, d2, d3] => { results := [.lit (.bool false)], args := [d1, d2, d3] }
  | _ => none }
def IntegrateMovesWrongFalsely : Prop := integrateMovesRow.holds Try.pinned (OpenSpec.ofChange integrateMovesWrong)

/-- 'billiardlaw19.IntegratePushes': WHATEVER THE INPUT: true; the input reads as it did. -/
def integratePushesSpec : ChangeSpec := { name := "integratePushes", fn := fun _ => fun
  | [d1, d2] => { results := [.lit (.bool true)], args := [d1, d2] }
  | _ => none }
def integratePushesRow : OpenClaim := { program := "ythoapplkaidaaaa", sum := "a1c904386f402117842e4677e3ff585a282724d9ee8f813f07597e1ba1df0951", func := "billiard/billiardlaw19.IntegratePushes", spec := "integratePushes", unfollowed := true, recurses := true, apart := false }
def IntegratePushesSaid : Prop := integratePushesRow.holds Try.pinned (OpenSpec.ofChange integratePushesSpec)

/-- ITS FALSE NEIGHBOUR: 'it returns false'. Refute it at one input. -/
def integratePushesWrong : ChangeSpec := { name := "integratePushes", fn := fun _ => fun
  | [d1, d2] => { results := [.lit (.bool false)], args := [d1, d2] }
  | _ => none }
def IntegratePushesWrongFalsely : Prop := integratePushesRow.holds Try.pinned (OpenSpec.ofChange integratePushesWrong)

/-- 'billiardlaw19.IntegrateFalls': WHATEVER THE INPUT: true; the input reads as it did. -/
def integrateFallsSpec : ChangeSpec := { name := "integrateFalls", fn := fun _ => fun
  | [d1, d2] => { results := [.lit (.bool true)], args := [d1, d2] }
  | _ => none }
def integrateFallsRow : OpenClaim := { program := "ythoapplkaidaaaa", sum := "a1c904386f402117842e4677e3ff585a282724d9ee8f813f07597e1ba1df0951", func := "billiard/billiardlaw19.IntegrateFalls", spec := "integrateFalls", unfollowed := true, recurses := true, apart := false }
def IntegrateFallsSaid : Prop := integrateFallsRow.holds Try.pinned (OpenSpec.ofChange integrateFallsSpec)

/-- ITS FALSE NEIGHBOUR: 'it returns false'. Refute it at one input. -/
def integrateFallsWrong : ChangeSpec := { name := "integrateFalls", fn := fun _ => fun
  | [d1, d2] => { results := [.lit (.bool false)], args := [d1, d2] }
  | _ => none }
def IntegrateFallsWrongFalsely : Prop := integrateFallsRow.holds Try.pinned (OpenSpec.ofChange integrateFallsWrong)

/- THE SECOND FORM. 'bulk': how many values and letters a reading holds, each counted each time it is reached (what is shared counts as often as it is met; a slice's spare places count too). A statement '..UptoSaid' is the law's where the arguments, and the package variables that the reading takes, are together of bulk at most 1048576: NARROWER than '..Said'. Prove '..Said' where nothing that the law and all that it calls make is longer than what came in: it says more and counts as full. Else prove '..UptoSaid'. A law counts once. -/
mutual
def uptoBulk {H : Type} : DataW H → Nat
  | .lit (.string bytes) => bytes.length + 1
  | .lit _ => 1
  | .nil => 1
  | .ptr d => uptoBulk d + 1
  | .slice elems spare => uptoBulkAll elems + uptoBulkAll spare + 1
  | .agg parts => uptoBulkAll parts + 1
  | .iface _ d => uptoBulk d + 1
  | .map entries => uptoBulkEntries entries + 1
  | .held _ => 1
def uptoBulkAll {H : Type} : List (DataW H) → Nat
  | [] => 0
  | d :: r => uptoBulk d + uptoBulkAll r
def uptoBulkEntries {H : Type} : List (Lit × DataW H) → Nat
  | [] => 0
  | x :: r => uptoBulkEntry x + uptoBulkEntries r
def uptoBulkEntry {H : Type} : Lit × DataW H → Nat
  | (.string bytes, d) => bytes.length + uptoBulk d + 1
  | (_, d) => uptoBulk d + 1
 end
def uptoSmall : (H : Type) → List (DataW H) → Bool := fun _ ds => decide (uptoBulkAll ds ≤ 1048576)
def OpenSpec.upto (s : _root_.Go.ChangeSpec) : _root_.Go.OpenSpec := { _root_.Go.OpenSpec.ofChange s with cond := some uptoSmall }

/-- 'billiardlaw19.IntegrateMatchesReference', WHERE WHAT IT READS IS OF BULK AT MOST 1048576: true; the input reads as it did. -/
def integrateMatchesReferenceUptoRow : OpenClaim := { program := "ythoapplkaidaaaa", sum := "a1c904386f402117842e4677e3ff585a282724d9ee8f813f07597e1ba1df0951", func := "billiard/billiardlaw19.IntegrateMatchesReference", spec := "integrateMatchesReference", unfollowed := true, recurses := true, apart := false, narrowed := true }
def IntegrateMatchesReferenceUptoSaid : Prop := integrateMatchesReferenceUptoRow.holds Try.pinned (OpenSpec.upto integrateMatchesReferenceSpec)

/-- 'billiardlaw19.IntegrateLimits', WHERE WHAT IT READS IS OF BULK AT MOST 1048576: true; the input reads as it did. -/
def integrateLimitsUptoRow : OpenClaim := { program := "ythoapplkaidaaaa", sum := "a1c904386f402117842e4677e3ff585a282724d9ee8f813f07597e1ba1df0951", func := "billiard/billiardlaw19.IntegrateLimits", spec := "integrateLimits", unfollowed := true, recurses := true, apart := false, narrowed := true }
def IntegrateLimitsUptoSaid : Prop := integrateLimitsUptoRow.holds Try.pinned (OpenSpec.upto integrateLimitsSpec)

/-- 'billiardlaw19.IntegrateMoves', WHERE WHAT IT READS IS OF BULK AT MOST 1048576: true; the input reads as it did. -/
def integrateMovesUptoRow : OpenClaim := { program := "ythoapplkaidaaaa", sum := "a1c904386f402117842e4677e3ff585a282724d9ee8f813f07597e1ba1df0951", func := "billiard/billiardlaw19.IntegrateMoves", spec := "integrateMoves", unfollowed := true, recurses := true, apart := false, narrowed := true }
def IntegrateMovesUptoSaid : Prop := integrateMovesUptoRow.holds Try.pinned (OpenSpec.upto integrateMovesSpec)

/-- 'billiardlaw19.IntegratePushes', WHERE WHAT IT READS IS OF BULK AT MOST 1048576: true; the input reads as it did. -/
def integratePushesUptoRow : OpenClaim := { program := "ythoapplkaidaaaa", sum := "a1c904386f402117842e4677e3ff585a282724d9ee8f813f07597e1ba1df0951", func := "billiard/billiardlaw19.IntegratePushes", spec := "integratePushes", unfollowed := true, recurses := true, apart := false, narrowed := true }
def IntegratePushesUptoSaid : Prop := integratePushesUptoRow.holds Try.pinned (OpenSpec.upto integratePushesSpec)

/-- 'billiardlaw19.IntegrateFalls', WHERE WHAT IT READS IS OF BULK AT MOST 1048576: true; the input reads as it did. -/
def integrateFallsUptoRow : OpenClaim := { program := "ythoapplkaidaaaa", sum := "a1c904386f402117842e4677e3ff585a282724d9ee8f813f07597e1ba1df0951", func := "billiard/billiardlaw19.IntegrateFalls", spec := "integrateFalls", unfollowed := true, recurses := true, apart := false, narrowed := true }
def IntegrateFallsUptoSaid : Prop := integrateFallsUptoRow.holds Try.pinned (OpenSpec.upto integrateFallsSpec)

end Rows
end Go.Proofs.Ythoapplkaidaaaa
