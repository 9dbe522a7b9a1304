/-
  No cell of these rows narrows 'for every input' (looked for: loops, veiled, ifaces, maps, wideKeys, modest, calm, conditions, laid).
  DERIVED. THE GIVEN ROWS OF THIS SEAT. 6 by the template 'for every input the law returns true; each argument reads behind the call as it read before'; 0 by the template 'total and deterministic' (their statements: YtfmmiafdlfdfoaaTotals.lean).
  GIVEN WITH THE SEED: the statements are not yours to turn. If you find one false, say at which input.
  Laid BY PROGRAM, IN A SANDBOX (cutbox-rows.mjs): the forced cells as the released guide's own fill.sh prints them over the translation 2762d3f5769b8c15… (all of the seat's roots in one cut). By AI agents, Wed Nov 11 2026. No macro, syntax, notation, axiom, sorry.
-/
import Derived.Test.YtfmmiafdlfdfoaaChecked
import GoSem.Claim
import GoSem.ClaimJoined
import GoSem.ClaimMapViews
import Derived.JoinedTies
import Derived.KernelRfl
namespace Go.Proofs.Ytfmmiafdlfdfoaa
/- THE CELL 'sum', in the pinned program and in every row, IS THE sha256 OF THE DUMP (.gsa) THAT YtfmmiafdlfdfoaaProg.lean LOADS. Nothing in Lean hashes anything: it is a label: what it is worth is what the hold of that sum in a sandbox is worth. -/
noncomputable def Try.pinned : Pinned := { name := "ytfmmiafdlfdfoaa", sum := "2762d3f5769b8c153979f15588d541641397cfab496a1bd2ca6d83a441c36481", checked := Try.checked }
namespace Rows
def none {H : Type} : Left H := { results := [], args := [] }

/-- 'overlaylaw18.ContractChecks': WHATEVER THE INPUT: true; the input reads as it did. -/
def contractChecksSpec : ChangeSpec := { name := "contractChecks", fn := fun _ => fun
  | [d1, d2, d3] => { results := [.lit (.bool true)], args := [d1, d2, d3] }
  | _ => none }
def contractChecksRow : OpenClaim := { program := "ytfmmiafdlfdfoaa", sum := "2762d3f5769b8c153979f15588d541641397cfab496a1bd2ca6d83a441c36481", func := "overlay/overlaylaw18.ContractChecks", spec := "contractChecks", inPlace := ["slices.overlaps[overlay/api.Duty]"], unfollowed := true, recurses := true, apart := false }
def ContractChecksSaid : Prop := contractChecksRow.holds Try.pinned (OpenSpec.ofChange contractChecksSpec)

/-- ITS FALSE NEIGHBOUR: 'it returns false'. Refute it at one input. -/
def contractChecksWrong : ChangeSpec := { name := "contractChecks", fn := fun _ => fun
  | [d1, d2, d3] => { results := [.lit (.bool false)], args := [d1, d2, d3] }
  | _ => none }
def ContractChecksWrongFalsely : Prop := contractChecksRow.holds Try.pinned (OpenSpec.ofChange contractChecksWrong)

/-- 'overlaylaw18.ContractMeans': WHATEVER THE INPUT: true; the input reads as it did. -/
def contractMeansSpec : ChangeSpec := { name := "contractMeans", fn := fun _ => fun
  | [d1, d2] => { results := [.lit (.bool true)], args := [d1, d2] }
  | _ => none }
def contractMeansRow : OpenClaim := { program := "ytfmmiafdlfdfoaa", sum := "2762d3f5769b8c153979f15588d541641397cfab496a1bd2ca6d83a441c36481", func := "overlay/overlaylaw18.ContractMeans", spec := "contractMeans", inPlace := ["slices.overlaps[overlay/api.Duty]"], unfollowed := true, recurses := true, apart := false }
def ContractMeansSaid : Prop := contractMeansRow.holds Try.pinned (OpenSpec.ofChange contractMeansSpec)

/-- ITS FALSE NEIGHBOUR: 'it returns false'. Refute it at one input. -/
def contractMeansWrong : ChangeSpec := { name := "contractMeans", fn := fun _ => fun
  | [d1, d2] => { results := [.lit (.bool false)], args := [d1, d2] }
  | _ => none }
def ContractMeansWrongFalsely : Prop := contractMeansRow.holds Try.pinned (OpenSpec.ofChange contractMeansWrong)

/-- 'overlaylaw18.ContractPrefix': WHATEVER THE INPUT: true; the input reads as it did. -/
def contractPrefixSpec : ChangeSpec := { name := "contractPrefix", fn := fun _ => fun
  | [d1, d2, d3] => { results := [.lit (.bool true)], args := [d1, d2, d3] }
  | _ => none }
def contractPrefixRow : OpenClaim := { program := "ytfmmiafdlfdfoaa", sum := "2762d3f5769b8c153979f15588d541641397cfab496a1bd2ca6d83a441c36481", func := "overlay/overlaylaw18.ContractPrefix", spec := "contractPrefix", inPlace := ["slices.overlaps[overlay/api.Duty]"], unfollowed := true, recurses := true, apart := false }
def ContractPrefixSaid : Prop := contractPrefixRow.holds Try.pinned (OpenSpec.ofChange contractPrefixSpec)

/-- ITS FALSE NEIGHBOUR: 'it returns false'. Refute it at one input. -/
def contractPrefixWrong : ChangeSpec := { name := "contractPrefix", fn := fun _ => fun
  | [d1, d2, d3] => { results := [.lit (.bool false)], args := [d1, d2, d3] }
  | _ => none }
def ContractPrefixWrongFalsely : Prop := contractPrefixRow.holds Try.pinned (OpenSpec.ofChange contractPrefixWrong)

/-- 'overlaylaw18.ContractRelays': WHATEVER THE INPUT: true; the input reads as it did. -/
def contractRelaysSpec : ChangeSpec := { name := "contractRelays", fn := fun _ => fun
  | [d1, d2] => { results := [.lit (.bool true)], args := [d1, d2] }
  | _ => none }
def contractRelaysRow : OpenClaim := { program := "ytfmmiafdlfdfoaa", sum := "2762d3f5769b8c153979f15588d541641397cfab496a1bd2ca6d83a441c36481", func := "overlay/overlaylaw18.ContractRelays", spec := "contractRelays", inPlace := ["slices.overlaps[overlay/api.Duty]"], unfollowed := true, recurses := true, apart := false }
def ContractRelaysSaid : Prop := contractRelaysRow.holds Try.pinned (OpenSpec.ofChange contractRelaysSpec)

/-- ITS FALSE NEIGHBOUR: 'it returns false'. Refute it at one input. -/
def contractRelaysWrong : ChangeSpec := { name := "contractRelays", fn := fun _ => fun
  | [d1, d2] => { results := [.lit (.bool false)], args := [d1, d2] }
  | _ => none }
def ContractRelaysWrongFalsely : Prop := contractRelaysRow.holds Try.pinned (OpenSpec.ofChange contractRelaysWrong)

/-- 'overlaylaw18.ContractLimits': WHATEVER THE INPUT: true; the input reads as it did. -/
def contractLimitsSpec : ChangeSpec := { name := "contractLimits", fn := fun _ => fun
  | [d] => { results := [.lit (.bool true)], args := [d] }
  | _ => none }
def contractLimitsRow : OpenClaim := { program := "ytfmmiafdlfdfoaa", sum := "2762d3f5769b8c153979f15588d541641397cfab496a1bd2ca6d83a441c36481", func := "overlay/overlaylaw18.ContractLimits", spec := "contractLimits", inPlace := ["slices.overlaps[overlay/api.Duty]"], unfollowed := true, recurses := true, apart := false }
def ContractLimitsSaid : Prop := contractLimitsRow.holds Try.pinned (OpenSpec.ofChange contractLimitsSpec)

/-- ITS FALSE NEIGHBOUR: 'it returns false'. Refute it at one input. -/
def contractLimitsWrong : ChangeSpec := { name := "contractLimits", fn := fun _ => fun
  | [d] => { results := [.lit (.bool false)], args := [d] }
  | _ => none }
def ContractLimitsWrongFalsely : Prop := contractLimitsRow.holds Try.pinned (OpenSpec.ofChange contractLimitsWrong)

/-- 'overlaylaw18.ContractApart': WHATEVER THE INPUT: true; the input reads as it did. -/
def contractApartSpec : ChangeSpec := { name := "contractApart", fn := fun _ => fun
  | [d1, d2] => { results := [.lit (.bool true)], args := [d1, d2] }
  | _ => none }
def contractApartRow : OpenClaim := { program := "ytfmmiafdlfdfoaa", sum := "2762d3f5769b8c153979f15588d541641397cfab496a1bd2ca6d83a441c36481", func := "overlay/overlaylaw18.ContractApart", spec := "contractApart", inPlace := ["slices.overlaps[overlay/api.Duty]"], unfollowed := true, recurses := true, apart := false }
def ContractApartSaid : Prop := contractApartRow.holds Try.pinned (OpenSpec.ofChange contractApartSpec)

/-- ITS FALSE NEIGHBOUR: 'it returns false'. Refute it at one input. -/
def contractApartWrong : ChangeSpec := { name := "contractApart", fn := fun _ => fun
  | [d1, d2] => { results := [.lit (.bool false)], args := [d1, d2] }
  | _ => none }
def ContractApartWrongFalsely : Prop := contractApartRow.holds Try.pinned (OpenSpec.ofChange contractApartWrong)

/- THE SECOND FORM. 'bulk': how many values and letters a reading holds, each counted each time it is reached (what is shared counts as often as it is met; a slice's spare places count too). A statement '..UptoSaid' is the law's where the arguments, and the package variables that the reading takes, are together of bulk at most 1048576: NARROWER than '..Said'. Prove '..Said' where nothing that the law and all that it calls make is longer than what came in: it says more and counts as full. Else prove '..UptoSaid'. A law counts once. -/
mutual
def uptoBulk {H : Type} : DataW H → Nat
  | .lit (.string bytes) => bytes.length + 1
  | .lit _ => 1
  | .nil => 1
  | .ptr d => uptoBulk d + 1
  | .slice elems spare => uptoBulkAll elems + uptoBulkAll spare + 1
  | .agg parts => uptoBulkAll parts + 1
  | .iface _ d => uptoBulk d + 1
  | .map entries => uptoBulkEntries entries + 1
  | .held _ => 1
def uptoBulkAll {H : Type} : List (DataW H) → Nat
  | [] => 0
  | d :: r => uptoBulk d + uptoBulkAll r
def uptoBulkEntries {H : Type} : List (Lit × DataW H) → Nat
  | [] => 0
  | x :: r => uptoBulkEntry x + uptoBulkEntries r
def uptoBulkEntry {H : Type} : Lit × DataW H → Nat
  | (.string bytes, d) => bytes.length + uptoBulk d + 1
  | (_, d) => uptoBulk d + 1
 end
def uptoSmall : (H : Type) → List (DataW H) → Bool := fun _ ds => decide (uptoBulkAll ds ≤ 1048576)
def OpenSpec.upto (s : _root_.Go.ChangeSpec) : _root_.Go.OpenSpec := { _root_.Go.OpenSpec.ofChange s with cond := some uptoSmall }

/-- 'overlaylaw18.ContractChecks', WHERE WHAT IT READS IS OF BULK AT MOST 1048576: true; the input reads as it did. -/
def contractChecksUptoRow : OpenClaim := { program := "ytfmmiafdlfdfoaa", sum := "2762d3f5769b8c153979f15588d541641397cfab496a1bd2ca6d83a441c36481", func := "overlay/overlaylaw18.ContractChecks", spec := "contractChecks", inPlace := ["slices.overlaps[overlay/api.Duty]"], unfollowed := true, recurses := true, apart := false, narrowed := true }
def ContractChecksUptoSaid : Prop := contractChecksUptoRow.holds Try.pinned (OpenSpec.upto contractChecksSpec)

/-- 'overlaylaw18.ContractMeans', WHERE WHAT IT READS IS OF BULK AT MOST 1048576: true; the input reads as it did. -/
def contractMeansUptoRow : OpenClaim := { program := "ytfmmiafdlfdfoaa", sum := "2762d3f5769b8c153979f15588d541641397cfab496a1bd2ca6d83a441c36481", func := "overlay/overlaylaw18.ContractMeans", spec := "contractMeans", inPlace := ["slices.overlaps[overlay/api.Duty]"], unfollowed := true, recurses := true, apart := false, narrowed := true }
def ContractMeansUptoSaid : Prop := contractMeansUptoRow.holds Try.pinned (OpenSpec.upto contractMeansSpec)

/-- 'overlaylaw18.ContractPrefix', WHERE WHAT IT READS IS OF BULK AT MOST 1048576: true; the input reads as it did. -/
def contractPrefixUptoRow : OpenClaim := { program := "ytfmmiafdlfdfoaa", sum := "2762d3f5769b8c153979f15588d541641397cfab496a1bd2ca6d83a441c36481", func := "overlay/overlaylaw18.ContractPrefix", spec := "contractPrefix", inPlace := ["slices.overlaps[overlay/api.Duty]"], unfollowed := true, recurses := true, apart := false, narrowed := true }
def ContractPrefixUptoSaid : Prop := contractPrefixUptoRow.holds Try.pinned (OpenSpec.upto contractPrefixSpec)

/-- 'overlaylaw18.ContractRelays', WHERE WHAT IT READS IS OF BULK AT MOST 1048576: true; the input reads as it did. -/
def contractRelaysUptoRow : OpenClaim := { program := "ytfmmiafdlfdfoaa", sum := "2762d3f5769b8c153979f15588d541641397cfab496a1bd2ca6d83a441c36481", func := "overlay/overlaylaw18.ContractRelays", spec := "contractRelays", inPlace := ["slices.overlaps[overlay/api.Duty]"], unfollowed := true, recurses := true, apart := false, narrowed := true }
def ContractRelaysUptoSaid : Prop := contractRelaysUptoRow.holds Try.pinned (OpenSpec.upto contractRelaysSpec)

/-- 'overlaylaw18.ContractLimits', WHERE WHAT IT READS IS OF BULK AT MOST 1048576: true; the input reads as it did. -/
def contractLimitsUptoRow : OpenClaim := { program := "ytfmmiafdlfdfoaa", sum := "2762d3f5769b8c153979f15588d541641397cfab496a1bd2ca6d83a441c36481", func := "overlay/overlaylaw18.ContractLimits", spec := "contractLimits", inPlace := ["slices.overlaps[overlay/api.Duty]"], unfollowed := true, recurses := true, apart := false, narrowed := true }
def ContractLimitsUptoSaid : Prop := contractLimitsUptoRow.holds Try.pinned (OpenSpec.upto contractLimitsSpec)

/-- 'overlaylaw18.ContractApart', WHERE WHAT IT READS IS OF BULK AT MOST 1048576: true; the input reads as it did. -/
def contractApartUptoRow : OpenClaim := { program := "ytfmmiafdlfdfoaa", sum := "2762d3f5769b8c153979f15588d541641397cfab496a1bd2ca6d83a441c36481", func := "overlay/overlaylaw18.ContractApart", spec := "contractApart", inPlace := ["slices.overlaps[overlay/api.Duty]"], unfollowed := true, recurses := true, apart := false, narrowed := true }
def ContractApartUptoSaid : Prop := contractApartUptoRow.holds Try.pinned (OpenSpec.upto contractApartSpec)

end Rows
end Go.Proofs.Ytfmmiafdlfdfoaa
