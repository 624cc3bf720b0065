/-
  No cell of these rows narrows 'for every input' (looked for: loops, veiled, ifaces, maps, wideKeys, modest, calm, conditions, laid).
  DERIVED. THE GIVEN ROWS OF THIS SEAT. 7 by the template 'for every input the law returns true; each argument reads behind the call as it read before'; 0 by the template 'total and deterministic' (their statements: YtimogbalkhgplaaTotals.lean).
  GIVEN WITH THE SEED: the statements are not yours to turn. If you find one false, say at which input.
  Laid BY PROGRAM, IN A SANDBOX (cutbox-rows.mjs): the forced cells as the released guide's own fill.sh prints them over the translation c159952d7a773829… (all of the seat's roots in one cut). By AI agents, Wed Nov 11 2026. No macro, syntax, notation, axiom, sorry.
-/
import Derived.Test.YtimogbalkhgplaaChecked
import GoSem.Claim
import GoSem.ClaimJoined
import GoSem.ClaimMapViews
import Derived.JoinedTies
import Derived.KernelRfl
namespace Go.Proofs.Ytimogbalkhgplaa
/- THE CELL 'sum', in the pinned program and in every row, IS THE sha256 OF THE DUMP (.gsa) THAT YtimogbalkhgplaaProg.lean LOADS. Nothing in Lean hashes anything: it is a label: what it is worth is what the hold of that sum in a sandbox is worth. -/
noncomputable def Try.pinned : Pinned := { name := "ytimogbalkhgplaa", sum := "c159952d7a77382926833a797b0bab9dd0684e48eb5a2fd2716557e4506b7b01", checked := Try.checked }
namespace Rows
def none {H : Type} : Left H := { results := [], args := [] }

/-- 'waymasterlaw05.BucketNews': WHATEVER THE INPUT: true; the input reads as it did. -/
def bucketNewsSpec : ChangeSpec := { name := "bucketNews", fn := fun _ => fun
  | [d1, d2, d3, d4] => { results := [.lit (.bool true)], args := [d1, d2, d3, d4] }
  | _ => none }
def bucketNewsRow : OpenClaim := { program := "ytimogbalkhgplaa", sum := "c159952d7a77382926833a797b0bab9dd0684e48eb5a2fd2716557e4506b7b01", func := "waymaster/waymasterlaw05.BucketNews", spec := "bucketNews", inPlace := ["math/bits.Add64"], unfollowed := true, recurses := true, named := ["math/bits.divideError", "math/bits.overflowError"], apart := false }
def BucketNewsSaid : Prop := bucketNewsRow.holds Try.pinned (OpenSpec.ofChange bucketNewsSpec)

/-- ITS FALSE NEIGHBOUR: 'it returns false'. Refute it at one input. -/
def bucketNewsWrong : ChangeSpec := { name := "bucketNews", fn := fun _ => fun
  | [d1, d2, d3, d4] => { results := [.lit (.bool false)], args := [d1, d2, d3, d4] }
  | _ => none }
def BucketNewsWrongFalsely : Prop := bucketNewsRow.holds Try.pinned (OpenSpec.ofChange bucketNewsWrong)

/-- 'waymasterlaw05.BucketTakes': WHATEVER THE INPUT: true; the input reads as it did. -/
def bucketTakesSpec : ChangeSpec := { name := "bucketTakes", fn := fun _ => fun
  | [d1, d2] => { results := [.lit (.bool true)], args := [d1, d2] }
  | _ => none }
def bucketTakesRow : OpenClaim := { program := "ytimogbalkhgplaa", sum := "c159952d7a77382926833a797b0bab9dd0684e48eb5a2fd2716557e4506b7b01", func := "waymaster/waymasterlaw05.BucketTakes", spec := "bucketTakes", inPlace := ["math/bits.Add64"], unfollowed := true, recurses := true, named := ["math/bits.divideError", "math/bits.overflowError"], apart := false }
def BucketTakesSaid : Prop := bucketTakesRow.holds Try.pinned (OpenSpec.ofChange bucketTakesSpec)

/-- ITS FALSE NEIGHBOUR: 'it returns false'. Refute it at one input. -/
def bucketTakesWrong : ChangeSpec := { name := "bucketTakes", fn := fun _ => fun
  | [d1, d2] => { results := [.lit (.bool false)], args := [d1, d2] }
  | _ => none }
def BucketTakesWrongFalsely : Prop := bucketTakesRow.holds Try.pinned (OpenSpec.ofChange bucketTakesWrong)

/-- 'waymasterlaw05.BucketFree': WHATEVER THE INPUT: true; the input reads as it did. -/
def bucketFreeSpec : ChangeSpec := { name := "bucketFree", fn := fun _ => fun
  | [d1, d2] => { results := [.lit (.bool true)], args := [d1, d2] }
  | _ => none }
def bucketFreeRow : OpenClaim := { program := "ytimogbalkhgplaa", sum := "c159952d7a77382926833a797b0bab9dd0684e48eb5a2fd2716557e4506b7b01", func := "waymaster/waymasterlaw05.BucketFree", spec := "bucketFree", inPlace := ["math/bits.Add64"], unfollowed := true, recurses := true, named := ["math/bits.divideError", "math/bits.overflowError"], apart := false }
def BucketFreeSaid : Prop := bucketFreeRow.holds Try.pinned (OpenSpec.ofChange bucketFreeSpec)

/-- ITS FALSE NEIGHBOUR: 'it returns false'. Refute it at one input. -/
def bucketFreeWrong : ChangeSpec := { name := "bucketFree", fn := fun _ => fun
  | [d1, d2] => { results := [.lit (.bool false)], args := [d1, d2] }
  | _ => none }
def BucketFreeWrongFalsely : Prop := bucketFreeRow.holds Try.pinned (OpenSpec.ofChange bucketFreeWrong)

/-- 'waymasterlaw05.BucketFills': WHATEVER THE INPUT: true; the input reads as it did. -/
def bucketFillsSpec : ChangeSpec := { name := "bucketFills", fn := fun _ => fun
  | [d1, d2] => { results := [.lit (.bool true)], args := [d1, d2] }
  | _ => none }
def bucketFillsRow : OpenClaim := { program := "ytimogbalkhgplaa", sum := "c159952d7a77382926833a797b0bab9dd0684e48eb5a2fd2716557e4506b7b01", func := "waymaster/waymasterlaw05.BucketFills", spec := "bucketFills", inPlace := ["math/bits.Add64"], unfollowed := true, recurses := true, named := ["math/bits.divideError", "math/bits.overflowError"], apart := false }
def BucketFillsSaid : Prop := bucketFillsRow.holds Try.pinned (OpenSpec.ofChange bucketFillsSpec)

/-- ITS FALSE NEIGHBOUR: 'it returns false'. Refute it at one input. -/
def bucketFillsWrong : ChangeSpec := { name := "bucketFills", fn := fun _ => fun
  | [d1, d2] => { results := [.lit (.bool false)], args := [d1, d2] }
  | _ => none }
def BucketFillsWrongFalsely : Prop := bucketFillsRow.holds Try.pinned (OpenSpec.ofChange bucketFillsWrong)

/-- 'waymasterlaw05.BucketParts': WHATEVER THE INPUT: true; the input reads as it did. -/
def bucketPartsSpec : ChangeSpec := { name := "bucketParts", fn := fun _ => fun
  | [d1, d2, d3] => { results := [.lit (.bool true)], args := [d1, d2, d3] }
  | _ => none }
def bucketPartsRow : OpenClaim := { program := "ytimogbalkhgplaa", sum := "c159952d7a77382926833a797b0bab9dd0684e48eb5a2fd2716557e4506b7b01", func := "waymaster/waymasterlaw05.BucketParts", spec := "bucketParts", inPlace := ["math/bits.Add64"], unfollowed := true, recurses := true, named := ["math/bits.divideError", "math/bits.overflowError"], apart := false }
def BucketPartsSaid : Prop := bucketPartsRow.holds Try.pinned (OpenSpec.ofChange bucketPartsSpec)

/-- ITS FALSE NEIGHBOUR: 'it returns false'. Refute it at one input. -/
def bucketPartsWrong : ChangeSpec := { name := "bucketParts", fn := fun _ => fun
  | [d1, d2, d3] => { results := [.lit (.bool false)], args := [d1, d2, d3] }
  | _ => none }
def BucketPartsWrongFalsely : Prop := bucketPartsRow.holds Try.pinned (OpenSpec.ofChange bucketPartsWrong)

/-- 'waymasterlaw05.BucketBound': WHATEVER THE INPUT: true; the input reads as it did. -/
def bucketBoundSpec : ChangeSpec := { name := "bucketBound", fn := fun _ => fun
  | [d1, d2, d3] => { results := [.lit (.bool true)], args := [d1, d2, d3] }
  | _ => none }
def bucketBoundRow : OpenClaim := { program := "ytimogbalkhgplaa", sum := "c159952d7a77382926833a797b0bab9dd0684e48eb5a2fd2716557e4506b7b01", func := "waymaster/waymasterlaw05.BucketBound", spec := "bucketBound", inPlace := ["math/bits.Add64"], unfollowed := true, recurses := true, named := ["math/bits.divideError", "math/bits.overflowError"], apart := false }
def BucketBoundSaid : Prop := bucketBoundRow.holds Try.pinned (OpenSpec.ofChange bucketBoundSpec)

/-- ITS FALSE NEIGHBOUR: 'it returns false'. Refute it at one input. -/
def bucketBoundWrong : ChangeSpec := { name := "bucketBound", fn := fun _ => fun
  | [d1, d2, d3] => { results := [.lit (.bool false)], args := [d1, d2, d3] }
  | _ => none }
def BucketBoundWrongFalsely : Prop := bucketBoundRow.holds Try.pinned (OpenSpec.ofChange bucketBoundWrong)

/-- 'waymasterlaw05.BucketRates': WHATEVER THE INPUT: true; the input reads as it did. -/
def bucketRatesSpec : ChangeSpec := { name := "bucketRates", fn := fun _ => fun
  | [d1, d2, d3, d4] => { results := [.lit (.bool true)], args := [d1, d2, d3, d4] }
  | _ => none }
def bucketRatesRow : OpenClaim := { program := "ytimogbalkhgplaa", sum := "c159952d7a77382926833a797b0bab9dd0684e48eb5a2fd2716557e4506b7b01", func := "waymaster/waymasterlaw05.BucketRates", spec := "bucketRates", inPlace := ["math/bits.Add64"], unfollowed := true, recurses := true, named := ["math/bits.divideError", "math/bits.overflowError"], apart := false }
def BucketRatesSaid : Prop := bucketRatesRow.holds Try.pinned (OpenSpec.ofChange bucketRatesSpec)

/-- ITS FALSE NEIGHBOUR: 'it returns false'. Refute it at one input. -/
def bucketRatesWrong : ChangeSpec := { name := "bucketRates", fn := fun _ => fun
  | [d1, d2, d3, d4] => { results := [.lit (.bool false)], args := [d1, d2, d3, d4] }
  | _ => none }
def BucketRatesWrongFalsely : Prop := bucketRatesRow.holds Try.pinned (OpenSpec.ofChange bucketRatesWrong)

/- THE SECOND FORM. 'bulk': how many values and letters a reading holds, each counted each time it is reached (what is shared counts as often as it is met; a slice's spare places count too). A statement '..UptoSaid' is the law's where the arguments, and the package variables that the reading takes, are together of bulk at most 1048576: NARROWER than '..Said'. Prove '..Said' where nothing that the law and all that it calls make is longer than what came in: it says more and counts as full. Else prove '..UptoSaid'. A law counts once. -/
mutual
def uptoBulk {H : Type} : DataW H → Nat
  | .lit (.string bytes) => bytes.length + 1
  | .lit _ => 1
  | .nil => 1
  | .ptr d => uptoBulk d + 1
  | .slice elems spare => uptoBulkAll elems + uptoBulkAll spare + 1
  | .agg parts => uptoBulkAll parts + 1
  | .iface _ d => uptoBulk d + 1
  | .map entries => uptoBulkEntries entries + 1
  | .held _ => 1
def uptoBulkAll {H : Type} : List (DataW H) → Nat
  | [] => 0
  | d :: r => uptoBulk d + uptoBulkAll r
def uptoBulkEntries {H : Type} : List (Lit × DataW H) → Nat
  | [] => 0
  | x :: r => uptoBulkEntry x + uptoBulkEntries r
def uptoBulkEntry {H : Type} : Lit × DataW H → Nat
  | (.string bytes, d) => bytes.length + uptoBulk d + 1
  | (_, d) => uptoBulk d + 1
 end
def uptoSmall : (H : Type) → List (DataW H) → Bool := fun _ ds => decide (uptoBulkAll ds ≤ 1048576)
def OpenSpec.upto (s : _root_.Go.ChangeSpec) : _root_.Go.OpenSpec := { _root_.Go.OpenSpec.ofChange s with cond := some uptoSmall }

/-- 'waymasterlaw05.BucketNews', WHERE WHAT IT READS IS OF BULK AT MOST 1048576: true; the input reads as it did. -/
def bucketNewsUptoRow : OpenClaim := { program := "ytimogbalkhgplaa", sum := "c159952d7a77382926833a797b0bab9dd0684e48eb5a2fd2716557e4506b7b01", func := "waymaster/waymasterlaw05.BucketNews", spec := "bucketNews", inPlace := ["math/bits.Add64"], unfollowed := true, recurses := true, named := ["math/bits.divideError", "math/bits.overflowError"], apart := false, narrowed := true }
def BucketNewsUptoSaid : Prop := bucketNewsUptoRow.holds Try.pinned (OpenSpec.upto bucketNewsSpec)

/-- 'waymasterlaw05.BucketTakes', WHERE WHAT IT READS IS OF BULK AT MOST 1048576: true; the input reads as it did. -/
def bucketTakesUptoRow : OpenClaim := { program := "ytimogbalkhgplaa", sum := "c159952d7a77382926833a797b0bab9dd0684e48eb5a2fd2716557e4506b7b01", func := "waymaster/waymasterlaw05.BucketTakes", spec := "bucketTakes", inPlace := ["math/bits.Add64"], unfollowed := true, recurses := true, named := ["math/bits.divideError", "math/bits.overflowError"], apart := false, narrowed := true }
def BucketTakesUptoSaid : Prop := bucketTakesUptoRow.holds Try.pinned (OpenSpec.upto bucketTakesSpec)

/-- 'waymasterlaw05.BucketFree', WHERE WHAT IT READS IS OF BULK AT MOST 1048576: true; the input reads as it did. -/
def bucketFreeUptoRow : OpenClaim := { program := "ytimogbalkhgplaa", sum := "c159952d7a77382926833a797b0bab9dd0684e48eb5a2fd2716557e4506b7b01", func := "waymaster/waymasterlaw05.BucketFree", spec := "bucketFree", inPlace := ["math/bits.Add64"], unfollowed := true, recurses := true, named := ["math/bits.divideError", "math/bits.overflowError"], apart := false, narrowed := true }
def BucketFreeUptoSaid : Prop := bucketFreeUptoRow.holds Try.pinned (OpenSpec.upto bucketFreeSpec)

/-- 'waymasterlaw05.BucketFills', WHERE WHAT IT READS IS OF BULK AT MOST 1048576: true; the input reads as it did. -/
def bucketFillsUptoRow : OpenClaim := { program := "ytimogbalkhgplaa", sum := "c159952d7a77382926833a797b0bab9dd0684e48eb5a2fd2716557e4506b7b01", func := "waymaster/waymasterlaw05.BucketFills", spec := "bucketFills", inPlace := ["math/bits.Add64"], unfollowed := true, recurses := true, named := ["math/bits.divideError", "math/bits.overflowError"], apart := false, narrowed := true }
def BucketFillsUptoSaid : Prop := bucketFillsUptoRow.holds Try.pinned (OpenSpec.upto bucketFillsSpec)

/-- 'waymasterlaw05.BucketParts', WHERE WHAT IT READS IS OF BULK AT MOST 1048576: true; the input reads as it did. -/
def bucketPartsUptoRow : OpenClaim := { program := "ytimogbalkhgplaa", sum := "c159952d7a77382926833a797b0bab9dd0684e48eb5a2fd2716557e4506b7b01", func := "waymaster/waymasterlaw05.BucketParts", spec := "bucketParts", inPlace := ["math/bits.Add64"], unfollowed := true, recurses := true, named := ["math/bits.divideError", "math/bits.overflowError"], apart := false, narrowed := true }
def BucketPartsUptoSaid : Prop := bucketPartsUptoRow.holds Try.pinned (OpenSpec.upto bucketPartsSpec)

/-- 'waymasterlaw05.BucketBound', WHERE WHAT IT READS IS OF BULK AT MOST 1048576: true; the input reads as it did. -/
def bucketBoundUptoRow : OpenClaim := { program := "ytimogbalkhgplaa", sum := "c159952d7a77382926833a797b0bab9dd0684e48eb5a2fd2716557e4506b7b01", func := "waymaster/waymasterlaw05.BucketBound", spec := "bucketBound", inPlace := ["math/bits.Add64"], unfollowed := true, recurses := true, named := ["math/bits.divideError", "math/bits.overflowError"], apart := false, narrowed := true }
def BucketBoundUptoSaid : Prop := bucketBoundUptoRow.holds Try.pinned (OpenSpec.upto bucketBoundSpec)

/-- 'waymasterlaw05.BucketRates', WHERE WHAT IT READS IS OF BULK AT MOST 1048576: true; the input reads as it did. -/
def bucketRatesUptoRow : OpenClaim := { program := "ytimogbalkhgplaa", sum := "c159952d7a77382926833a797b0bab9dd0684e48eb5a2fd2716557e4506b7b01", func := "waymaster/waymasterlaw05.BucketRates", spec := "bucketRates", inPlace := ["math/bits.Add64"], unfollowed := true, recurses := true, named := ["math/bits.divideError", "math/bits.overflowError"], apart := false, narrowed := true }
def BucketRatesUptoSaid : Prop := bucketRatesUptoRow.holds Try.pinned (OpenSpec.upto bucketRatesSpec)

end Rows
end Go.Proofs.Ytimogbalkhgplaa
