/-
  No cell of these rows narrows 'for every input' (looked for: loops, veiled, ifaces, maps, wideKeys, modest, calm, conditions, laid).
  DERIVED. THE GIVEN ROWS OF THIS SEAT. 8 by the template 'for every input the law returns true; each argument reads behind the call as it read before'; 0 by the template 'total and deterministic' (their statements: YthopimfpiimloaaTotals.lean).
  GIVEN WITH THE SEED: the statements are not yours to turn. If you find one false, say at which input.
  Laid BY PROGRAM, IN A SANDBOX (cutbox-rows.mjs): the forced cells as the released guide's own fill.sh prints them over the translation 6eec5552edcbc6c8… (all of the seat's roots in one cut). By AI agents, Wed Nov 11 2026. No macro, syntax, notation, axiom, sorry.
-/
import Derived.Test.YthopimfpiimloaaChecked
import GoSem.Claim
import GoSem.ClaimJoined
import GoSem.ClaimMapViews
import Derived.JoinedTies
import Derived.KernelRfl
namespace Go.Proofs.Ythopimfpiimloaa
/- THE CELL 'sum', in the pinned program and in every row, IS THE sha256 OF THE DUMP (.gsa) THAT YthopimfpiimloaaProg.lean LOADS. Nothing in Lean hashes anything: it is a label: what it is worth is what the hold of that sum in a sandbox is worth. -/
noncomputable def Try.pinned : Pinned := { name := "ythopimfpiimloaa", sum := "6eec5552edcbc6c87ece6a4a804fecbb2deba9bbc3c211ebb82c1bd6d94ca278", checked := Try.checked }
namespace Rows
def none {H : Type} : Left H := { results := [], args := [] }

/-- 'waymasterlaw04.DqlNews': WHATEVER THE INPUT: true; the input reads as it did. -/
def dqlNewsSpec : ChangeSpec := { name := "dqlNews", fn := fun _ => fun
  | [d1, d2, d3, d4] => { results := [.lit (.bool true)], args := [d1, d2, d3, d4] }
  | _ => none }
def dqlNewsRow : OpenClaim := { program := "ythopimfpiimloaa", sum := "6eec5552edcbc6c87ece6a4a804fecbb2deba9bbc3c211ebb82c1bd6d94ca278", func := "waymaster/waymasterlaw04.DqlNews", spec := "dqlNews", unfollowed := true, recurses := true, apart := false }
def DqlNewsSaid : Prop := dqlNewsRow.holds Try.pinned (OpenSpec.ofChange dqlNewsSpec)

/-- ITS FALSE NEIGHBOUR: 'it returns false'. Refute it at one input. -/
def dqlNewsWrong : ChangeSpec := { name := "dqlNews", fn := fun _ => fun
  | [d1, d2, d3, d4] => { results := [.lit (.bool false)], args := [d1, d2, d3, d4] }
  | _ => none }
def DqlNewsWrongFalsely : Prop := dqlNewsRow.holds Try.pinned (OpenSpec.ofChange dqlNewsWrong)

/-- 'waymasterlaw04.DqlStates': WHATEVER THE INPUT: true; the input reads as it did. -/
def dqlStatesSpec : ChangeSpec := { name := "dqlStates", fn := fun _ => fun
  | [d] => { results := [.lit (.bool true)], args := [d] }
  | _ => none }
def dqlStatesRow : OpenClaim := { program := "ythopimfpiimloaa", sum := "6eec5552edcbc6c87ece6a4a804fecbb2deba9bbc3c211ebb82c1bd6d94ca278", func := "waymaster/waymasterlaw04.DqlStates", spec := "dqlStates", unfollowed := true, recurses := true, apart := false }
def DqlStatesSaid : Prop := dqlStatesRow.holds Try.pinned (OpenSpec.ofChange dqlStatesSpec)

/-- ITS FALSE NEIGHBOUR: 'it returns false'. Refute it at one input. -/
def dqlStatesWrong : ChangeSpec := { name := "dqlStates", fn := fun _ => fun
  | [d] => { results := [.lit (.bool false)], args := [d] }
  | _ => none }
def DqlStatesWrongFalsely : Prop := dqlStatesRow.holds Try.pinned (OpenSpec.ofChange dqlStatesWrong)

/-- 'waymasterlaw04.DqlRuns': WHATEVER THE INPUT: true; the input reads as it did. -/
def dqlRunsSpec : ChangeSpec := { name := "dqlRuns", fn := fun _ => fun
  | [d1, d2, d3, d4] => { results := [.lit (.bool true)], args := [d1, d2, d3, d4] }
  | _ => none }
def dqlRunsRow : OpenClaim := { program := "ythopimfpiimloaa", sum := "6eec5552edcbc6c87ece6a4a804fecbb2deba9bbc3c211ebb82c1bd6d94ca278", func := "waymaster/waymasterlaw04.DqlRuns", spec := "dqlRuns", unfollowed := true, recurses := true, apart := false }
def DqlRunsSaid : Prop := dqlRunsRow.holds Try.pinned (OpenSpec.ofChange dqlRunsSpec)

/-- ITS FALSE NEIGHBOUR: 'it returns false'. Refute it at one input. -/
def dqlRunsWrong : ChangeSpec := { name := "dqlRuns", fn := fun _ => fun
  | [d1, d2, d3, d4] => { results := [.lit (.bool false)], args := [d1, d2, d3, d4] }
  | _ => none }
def DqlRunsWrongFalsely : Prop := dqlRunsRow.holds Try.pinned (OpenSpec.ofChange dqlRunsWrong)

/-- 'waymasterlaw04.DqlBounds': WHATEVER THE INPUT: true; the input reads as it did. -/
def dqlBoundsSpec : ChangeSpec := { name := "dqlBounds", fn := fun _ => fun
  | [d1, d2, d3, d4] => { results := [.lit (.bool true)], args := [d1, d2, d3, d4] }
  | _ => none }
def dqlBoundsRow : OpenClaim := { program := "ythopimfpiimloaa", sum := "6eec5552edcbc6c87ece6a4a804fecbb2deba9bbc3c211ebb82c1bd6d94ca278", func := "waymaster/waymasterlaw04.DqlBounds", spec := "dqlBounds", unfollowed := true, recurses := true, apart := false }
def DqlBoundsSaid : Prop := dqlBoundsRow.holds Try.pinned (OpenSpec.ofChange dqlBoundsSpec)

/-- ITS FALSE NEIGHBOUR: 'it returns false'. Refute it at one input. -/
def dqlBoundsWrong : ChangeSpec := { name := "dqlBounds", fn := fun _ => fun
  | [d1, d2, d3, d4] => { results := [.lit (.bool false)], args := [d1, d2, d3, d4] }
  | _ => none }
def DqlBoundsWrongFalsely : Prop := dqlBoundsRow.holds Try.pinned (OpenSpec.ofChange dqlBoundsWrong)

/-- 'waymasterlaw04.DqlShifts': WHATEVER THE INPUT: true; the input reads as it did. -/
def dqlShiftsSpec : ChangeSpec := { name := "dqlShifts", fn := fun _ => fun
  | [d1, d2, d3, d4] => { results := [.lit (.bool true)], args := [d1, d2, d3, d4] }
  | _ => none }
def dqlShiftsRow : OpenClaim := { program := "ythopimfpiimloaa", sum := "6eec5552edcbc6c87ece6a4a804fecbb2deba9bbc3c211ebb82c1bd6d94ca278", func := "waymaster/waymasterlaw04.DqlShifts", spec := "dqlShifts", unfollowed := true, recurses := true, apart := false }
def DqlShiftsSaid : Prop := dqlShiftsRow.holds Try.pinned (OpenSpec.ofChange dqlShiftsSpec)

/-- ITS FALSE NEIGHBOUR: 'it returns false'. Refute it at one input. -/
def dqlShiftsWrong : ChangeSpec := { name := "dqlShifts", fn := fun _ => fun
  | [d1, d2, d3, d4] => { results := [.lit (.bool false)], args := [d1, d2, d3, d4] }
  | _ => none }
def DqlShiftsWrongFalsely : Prop := dqlShiftsRow.holds Try.pinned (OpenSpec.ofChange dqlShiftsWrong)

/-- 'waymasterlaw04.DqlStarves': WHATEVER THE INPUT: true; the input reads as it did. -/
def dqlStarvesSpec : ChangeSpec := { name := "dqlStarves", fn := fun _ => fun
  | [d1, d2, d3, d4] => { results := [.lit (.bool true)], args := [d1, d2, d3, d4] }
  | _ => none }
def dqlStarvesRow : OpenClaim := { program := "ythopimfpiimloaa", sum := "6eec5552edcbc6c87ece6a4a804fecbb2deba9bbc3c211ebb82c1bd6d94ca278", func := "waymaster/waymasterlaw04.DqlStarves", spec := "dqlStarves", unfollowed := true, recurses := true, apart := false }
def DqlStarvesSaid : Prop := dqlStarvesRow.holds Try.pinned (OpenSpec.ofChange dqlStarvesSpec)

/-- ITS FALSE NEIGHBOUR: 'it returns false'. Refute it at one input. -/
def dqlStarvesWrong : ChangeSpec := { name := "dqlStarves", fn := fun _ => fun
  | [d1, d2, d3, d4] => { results := [.lit (.bool false)], args := [d1, d2, d3, d4] }
  | _ => none }
def DqlStarvesWrongFalsely : Prop := dqlStarvesRow.holds Try.pinned (OpenSpec.ofChange dqlStarvesWrong)

/-- 'waymasterlaw04.DqlChanges': WHATEVER THE INPUT: true; the input reads as it did. -/
def dqlChangesSpec : ChangeSpec := { name := "dqlChanges", fn := fun _ => fun
  | [d1, d2, d3] => { results := [.lit (.bool true)], args := [d1, d2, d3] }
  | _ => none }
def dqlChangesRow : OpenClaim := { program := "ythopimfpiimloaa", sum := "6eec5552edcbc6c87ece6a4a804fecbb2deba9bbc3c211ebb82c1bd6d94ca278", func := "waymaster/waymasterlaw04.DqlChanges", spec := "dqlChanges", unfollowed := true, recurses := true, apart := false }
def DqlChangesSaid : Prop := dqlChangesRow.holds Try.pinned (OpenSpec.ofChange dqlChangesSpec)

/-- ITS FALSE NEIGHBOUR: 'it returns false'. Refute it at one input. -/
def dqlChangesWrong : ChangeSpec := { name := "dqlChanges", fn := fun _ => fun
  | [d1, d2, d3] => { results := [.lit (.bool false)], args := [d1, d2, d3] }
  | _ => none }
def DqlChangesWrongFalsely : Prop := dqlChangesRow.holds Try.pinned (OpenSpec.ofChange dqlChangesWrong)

/-- 'waymasterlaw04.DqlStays': WHATEVER THE INPUT: true; the input reads as it did. -/
def dqlStaysSpec : ChangeSpec := { name := "dqlStays", fn := fun _ => fun
  | [d1, d2, d3] => { results := [.lit (.bool true)], args := [d1, d2, d3] }
  | _ => none }
def dqlStaysRow : OpenClaim := { program := "ythopimfpiimloaa", sum := "6eec5552edcbc6c87ece6a4a804fecbb2deba9bbc3c211ebb82c1bd6d94ca278", func := "waymaster/waymasterlaw04.DqlStays", spec := "dqlStays", unfollowed := true, recurses := true, apart := false }
def DqlStaysSaid : Prop := dqlStaysRow.holds Try.pinned (OpenSpec.ofChange dqlStaysSpec)

/-- ITS FALSE NEIGHBOUR: 'it returns false'. Refute it at one input. -/
def dqlStaysWrong : ChangeSpec := { name := "dqlStays", fn := fun _ => fun
  | [d1, d2, d3] => { results := [.lit (.bool false)], args := [d1, d2, d3] }
  | _ => none }
def DqlStaysWrongFalsely : Prop := dqlStaysRow.holds Try.pinned (OpenSpec.ofChange dqlStaysWrong)

/- THE SECOND FORM. 'bulk': how many values and letters a reading holds, each counted each time it is reached (what is shared counts as often as it is met; a slice's spare places count too). A statement '..UptoSaid' is the law's where the arguments, and the package variables that the reading takes, are together of bulk at most 1048576: NARROWER than '..Said'. Prove '..Said' where nothing that the law and all that it calls make is longer than what came in: it says more and counts as full. Else prove '..UptoSaid'. A law counts once. -/
mutual
def uptoBulk {H : Type} : DataW H → Nat
  | .lit (.string bytes) => bytes.length + 1
  | .lit _ => 1
  | .nil => 1
  | .ptr d => uptoBulk d + 1
  | .slice elems spare => uptoBulkAll elems + uptoBulkAll spare + 1
  | .agg parts => uptoBulkAll parts + 1
  | .iface _ d => uptoBulk d + 1
  | .map entries => uptoBulkEntries entries + 1
  | .held _ => 1
def uptoBulkAll {H : Type} : List (DataW H) → Nat
  | [] => 0
  | d :: r => uptoBulk d + uptoBulkAll r
def uptoBulkEntries {H : Type} : List (Lit × DataW H) → Nat
  | [] => 0
  | x :: r => uptoBulkEntry x + uptoBulkEntries r
def uptoBulkEntry {H : Type} : Lit × DataW H → Nat
  | (.string bytes, d) => bytes.length + uptoBulk d + 1
  | (_, d) => uptoBulk d + 1
 end
def uptoSmall : (H : Type) → List (DataW H) → Bool := fun _ ds => decide (uptoBulkAll ds ≤ 1048576)
def OpenSpec.upto (s : _root_.Go.ChangeSpec) : _root_.Go.OpenSpec := { _root_.Go.OpenSpec.ofChange s with cond := some uptoSmall }

/-- 'waymasterlaw04.DqlNews', WHERE WHAT IT READS IS OF BULK AT MOST 1048576: true; the input reads as it did. -/
def dqlNewsUptoRow : OpenClaim := { program := "ythopimfpiimloaa", sum := "6eec5552edcbc6c87ece6a4a804fecbb2deba9bbc3c211ebb82c1bd6d94ca278", func := "waymaster/waymasterlaw04.DqlNews", spec := "dqlNews", unfollowed := true, recurses := true, apart := false, narrowed := true }
def DqlNewsUptoSaid : Prop := dqlNewsUptoRow.holds Try.pinned (OpenSpec.upto dqlNewsSpec)

/-- 'waymasterlaw04.DqlStates', WHERE WHAT IT READS IS OF BULK AT MOST 1048576: true; the input reads as it did. -/
def dqlStatesUptoRow : OpenClaim := { program := "ythopimfpiimloaa", sum := "6eec5552edcbc6c87ece6a4a804fecbb2deba9bbc3c211ebb82c1bd6d94ca278", func := "waymaster/waymasterlaw04.DqlStates", spec := "dqlStates", unfollowed := true, recurses := true, apart := false, narrowed := true }
def DqlStatesUptoSaid : Prop := dqlStatesUptoRow.holds Try.pinned (OpenSpec.upto dqlStatesSpec)

/-- 'waymasterlaw04.DqlRuns', WHERE WHAT IT READS IS OF BULK AT MOST 1048576: true; the input reads as it did. -/
def dqlRunsUptoRow : OpenClaim := { program := "ythopimfpiimloaa", sum := "6eec5552edcbc6c87ece6a4a804fecbb2deba9bbc3c211ebb82c1bd6d94ca278", func := "waymaster/waymasterlaw04.DqlRuns", spec := "dqlRuns", unfollowed := true, recurses := true, apart := false, narrowed := true }
def DqlRunsUptoSaid : Prop := dqlRunsUptoRow.holds Try.pinned (OpenSpec.upto dqlRunsSpec)

/-- 'waymasterlaw04.DqlBounds', WHERE WHAT IT READS IS OF BULK AT MOST 1048576: true; the input reads as it did. -/
def dqlBoundsUptoRow : OpenClaim := { program := "ythopimfpiimloaa", sum := "6eec5552edcbc6c87ece6a4a804fecbb2deba9bbc3c211ebb82c1bd6d94ca278", func := "waymaster/waymasterlaw04.DqlBounds", spec := "dqlBounds", unfollowed := true, recurses := true, apart := false, narrowed := true }
def DqlBoundsUptoSaid : Prop := dqlBoundsUptoRow.holds Try.pinned (OpenSpec.upto dqlBoundsSpec)

/-- 'waymasterlaw04.DqlShifts', WHERE WHAT IT READS IS OF BULK AT MOST 1048576: true; the input reads as it did. -/
def dqlShiftsUptoRow : OpenClaim := { program := "ythopimfpiimloaa", sum := "6eec5552edcbc6c87ece6a4a804fecbb2deba9bbc3c211ebb82c1bd6d94ca278", func := "waymaster/waymasterlaw04.DqlShifts", spec := "dqlShifts", unfollowed := true, recurses := true, apart := false, narrowed := true }
def DqlShiftsUptoSaid : Prop := dqlShiftsUptoRow.holds Try.pinned (OpenSpec.upto dqlShiftsSpec)

/-- 'waymasterlaw04.DqlStarves', WHERE WHAT IT READS IS OF BULK AT MOST 1048576: true; the input reads as it did. -/
def dqlStarvesUptoRow : OpenClaim := { program := "ythopimfpiimloaa", sum := "6eec5552edcbc6c87ece6a4a804fecbb2deba9bbc3c211ebb82c1bd6d94ca278", func := "waymaster/waymasterlaw04.DqlStarves", spec := "dqlStarves", unfollowed := true, recurses := true, apart := false, narrowed := true }
def DqlStarvesUptoSaid : Prop := dqlStarvesUptoRow.holds Try.pinned (OpenSpec.upto dqlStarvesSpec)

/-- 'waymasterlaw04.DqlChanges', WHERE WHAT IT READS IS OF BULK AT MOST 1048576: true; the input reads as it did. -/
def dqlChangesUptoRow : OpenClaim := { program := "ythopimfpiimloaa", sum := "6eec5552edcbc6c87ece6a4a804fecbb2deba9bbc3c211ebb82c1bd6d94ca278", func := "waymaster/waymasterlaw04.DqlChanges", spec := "dqlChanges", unfollowed := true, recurses := true, apart := false, narrowed := true }
def DqlChangesUptoSaid : Prop := dqlChangesUptoRow.holds Try.pinned (OpenSpec.upto dqlChangesSpec)

/-- 'waymasterlaw04.DqlStays', WHERE WHAT IT READS IS OF BULK AT MOST 1048576: true; the input reads as it did. -/
def dqlStaysUptoRow : OpenClaim := { program := "ythopimfpiimloaa", sum := "6eec5552edcbc6c87ece6a4a804fecbb2deba9bbc3c211ebb82c1bd6d94ca278", func := "waymaster/waymasterlaw04.DqlStays", spec := "dqlStays", unfollowed := true, recurses := true, apart := false, narrowed := true }
def DqlStaysUptoSaid : Prop := dqlStaysUptoRow.holds Try.pinned (OpenSpec.upto dqlStaysSpec)

end Rows
end Go.Proofs.Ythopimfpiimloaa
