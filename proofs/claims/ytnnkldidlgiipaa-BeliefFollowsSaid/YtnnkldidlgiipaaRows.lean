/-
  No cell of these rows narrows 'for every input' (looked for: loops, veiled, ifaces, maps, wideKeys, modest, calm, conditions, laid).
  DERIVED. THE GIVEN ROWS OF THIS SEAT. 4 by the template 'for every input the law returns true; each argument reads behind the call as it read before'; 0 by the template 'total and deterministic' (their statements: YtnnkldidlgiipaaTotals.lean).
  GIVEN WITH THE SEED: the statements are not yours to turn. If you find one false, say at which input.
  Laid BY PROGRAM, IN A SANDBOX (cutbox-rows.mjs): the forced cells as the released guide's own fill.sh prints them over the translation 046bd0ef334b38f0… (all of the seat's roots in one cut). By AI agents, Wed Nov 11 2026. No macro, syntax, notation, axiom, sorry.
-/
import Derived.Test.YtnnkldidlgiipaaChecked
import GoSem.Claim
import GoSem.ClaimJoined
import GoSem.ClaimMapViews
import Derived.JoinedTies
import Derived.KernelRfl
namespace Go.Proofs.Ytnnkldidlgiipaa
/- THE CELL 'sum', in the pinned program and in every row, IS THE sha256 OF THE DUMP (.gsa) THAT YtnnkldidlgiipaaProg.lean LOADS. Nothing in Lean hashes anything: it is a label: what it is worth is what the hold of that sum in a sandbox is worth. -/
noncomputable def Try.pinned : Pinned := { name := "ytnnkldidlgiipaa", sum := "046bd0ef334b38f0f8b9a8ee5d3ffb81d3f3dd81f495776829c2066ace4ecdf1", checked := Try.checked }
namespace Rows
def none {H : Type} : Left H := { results := [], args := [] }

/-- 'overlaylaw19.BeliefStill': WHATEVER THE INPUT: true; the input reads as it did. -/
def beliefStillSpec : ChangeSpec := { name := "beliefStill", fn := fun _ => fun
  | [d1, d2] => { results := [.lit (.bool true)], args := [d1, d2] }
  | _ => none }
def beliefStillRow : OpenClaim := { program := "ytnnkldidlgiipaa", sum := "046bd0ef334b38f0f8b9a8ee5d3ffb81d3f3dd81f495776829c2066ace4ecdf1", func := "overlay/overlaylaw19.BeliefStill", spec := "beliefStill", inPlace := ["slices.overlaps[overlay/api.Duty]"], unfollowed := true, recurses := true, apart := false }
def BeliefStillSaid : Prop := beliefStillRow.holds Try.pinned (OpenSpec.ofChange beliefStillSpec)

/-- ITS FALSE NEIGHBOUR: 'it returns false'. Refute it at one input. -/
def beliefStillWrong : ChangeSpec := { name := "beliefStill", fn := fun _ => fun
  | [d1, d2] => { results := [.lit (.bool false)], args := [d1, d2] }
  | _ => none }
def BeliefStillWrongFalsely : Prop := beliefStillRow.holds Try.pinned (OpenSpec.ofChange beliefStillWrong)

/-- 'overlaylaw19.BeliefPlaces': WHATEVER THE INPUT: true; the input reads as it did. -/
def beliefPlacesSpec : ChangeSpec := { name := "beliefPlaces", fn := fun _ => fun
  | [d1, d2] => { results := [.lit (.bool true)], args := [d1, d2] }
  | _ => none }
def beliefPlacesRow : OpenClaim := { program := "ytnnkldidlgiipaa", sum := "046bd0ef334b38f0f8b9a8ee5d3ffb81d3f3dd81f495776829c2066ace4ecdf1", func := "overlay/overlaylaw19.BeliefPlaces", spec := "beliefPlaces", inPlace := ["slices.overlaps[overlay/api.Duty]"], unfollowed := true, recurses := true, apart := false }
def BeliefPlacesSaid : Prop := beliefPlacesRow.holds Try.pinned (OpenSpec.ofChange beliefPlacesSpec)

/-- ITS FALSE NEIGHBOUR: 'it returns false'. Refute it at one input. -/
def beliefPlacesWrong : ChangeSpec := { name := "beliefPlaces", fn := fun _ => fun
  | [d1, d2] => { results := [.lit (.bool false)], args := [d1, d2] }
  | _ => none }
def BeliefPlacesWrongFalsely : Prop := beliefPlacesRow.holds Try.pinned (OpenSpec.ofChange beliefPlacesWrong)

/-- 'overlaylaw19.BeliefSteps': WHATEVER THE INPUT: true; the input reads as it did. -/
def beliefStepsSpec : ChangeSpec := { name := "beliefSteps", fn := fun _ => fun
  | [d1, d2, d3] => { results := [.lit (.bool true)], args := [d1, d2, d3] }
  | _ => none }
def beliefStepsRow : OpenClaim := { program := "ytnnkldidlgiipaa", sum := "046bd0ef334b38f0f8b9a8ee5d3ffb81d3f3dd81f495776829c2066ace4ecdf1", func := "overlay/overlaylaw19.BeliefSteps", spec := "beliefSteps", inPlace := ["slices.overlaps[overlay/api.Duty]"], unfollowed := true, recurses := true, apart := false }
def BeliefStepsSaid : Prop := beliefStepsRow.holds Try.pinned (OpenSpec.ofChange beliefStepsSpec)

/-- ITS FALSE NEIGHBOUR: 'it returns false'. Refute it at one input. -/
def beliefStepsWrong : ChangeSpec := { name := "beliefSteps", fn := fun _ => fun
  | [d1, d2, d3] => { results := [.lit (.bool false)], args := [d1, d2, d3] }
  | _ => none }
def BeliefStepsWrongFalsely : Prop := beliefStepsRow.holds Try.pinned (OpenSpec.ofChange beliefStepsWrong)

/-- 'overlaylaw19.BeliefFollows': WHATEVER THE INPUT: true; the input reads as it did. -/
def beliefFollowsSpec : ChangeSpec := { name := "beliefFollows", fn := fun _ => fun
  | [d1, d2] => { results := [.lit (.bool true)], args := [d1, d2] }
  | _ => none }
def beliefFollowsRow : OpenClaim := { program := "ytnnkldidlgiipaa", sum := "046bd0ef334b38f0f8b9a8ee5d3ffb81d3f3dd81f495776829c2066ace4ecdf1", func := "overlay/overlaylaw19.BeliefFollows", spec := "beliefFollows", inPlace := ["slices.overlaps[overlay/api.Duty]"], unfollowed := true, recurses := true, apart := false }
def BeliefFollowsSaid : Prop := beliefFollowsRow.holds Try.pinned (OpenSpec.ofChange beliefFollowsSpec)

/-- ITS FALSE NEIGHBOUR: 'it returns false'. Refute it at one input. -/
def beliefFollowsWrong : ChangeSpec := { name := "beliefFollows", fn := fun _ => fun
  | [d1, d2] => { results := [.lit (.bool false)], args := [d1, d2] }
  | _ => none }
def BeliefFollowsWrongFalsely : Prop := beliefFollowsRow.holds Try.pinned (OpenSpec.ofChange beliefFollowsWrong)

/- THE SECOND FORM. 'bulk': how many values and letters a reading holds, each counted each time it is reached (what is shared counts as often as it is met; a slice's spare places count too). A statement '..UptoSaid' is the law's where the arguments, and the package variables that the reading takes, are together of bulk at most 1048576: NARROWER than '..Said'. Prove '..Said' where nothing that the law and all that it calls make is longer than what came in: it says more and counts as full. Else prove '..UptoSaid'. A law counts once. -/
mutual
def uptoBulk {H : Type} : DataW H → Nat
  | .lit (.string bytes) => bytes.length + 1
  | .lit _ => 1
  | .nil => 1
  | .ptr d => uptoBulk d + 1
  | .slice elems spare => uptoBulkAll elems + uptoBulkAll spare + 1
  | .agg parts => uptoBulkAll parts + 1
  | .iface _ d => uptoBulk d + 1
  | .map entries => uptoBulkEntries entries + 1
  | .held _ => 1
def uptoBulkAll {H : Type} : List (DataW H) → Nat
  | [] => 0
  | d :: r => uptoBulk d + uptoBulkAll r
def uptoBulkEntries {H : Type} : List (Lit × DataW H) → Nat
  | [] => 0
  | x :: r => uptoBulkEntry x + uptoBulkEntries r
def uptoBulkEntry {H : Type} : Lit × DataW H → Nat
  | (.string bytes, d) => bytes.length + uptoBulk d + 1
  | (_, d) => uptoBulk d + 1
 end
def uptoSmall : (H : Type) → List (DataW H) → Bool := fun _ ds => decide (uptoBulkAll ds ≤ 1048576)
def OpenSpec.upto (s : _root_.Go.ChangeSpec) : _root_.Go.OpenSpec := { _root_.Go.OpenSpec.ofChange s with cond := some uptoSmall }

/-- 'overlaylaw19.BeliefStill', WHERE WHAT IT READS IS OF BULK AT MOST 1048576: true; the input reads as it did. -/
def beliefStillUptoRow : OpenClaim := { program := "ytnnkldidlgiipaa", sum := "046bd0ef334b38f0f8b9a8ee5d3ffb81d3f3dd81f495776829c2066ace4ecdf1", func := "overlay/overlaylaw19.BeliefStill", spec := "beliefStill", inPlace := ["slices.overlaps[overlay/api.Duty]"], unfollowed := true, recurses := true, apart := false, narrowed := true }
def BeliefStillUptoSaid : Prop := beliefStillUptoRow.holds Try.pinned (OpenSpec.upto beliefStillSpec)

/-- 'overlaylaw19.BeliefPlaces', WHERE WHAT IT READS IS OF BULK AT MOST 1048576: true; the input reads as it did. -/
def beliefPlacesUptoRow : OpenClaim := { program := "ytnnkldidlgiipaa", sum := "046bd0ef334b38f0f8b9a8ee5d3ffb81d3f3dd81f495776829c2066ace4ecdf1", func := "overlay/overlaylaw19.BeliefPlaces", spec := "beliefPlaces", inPlace := ["slices.overlaps[overlay/api.Duty]"], unfollowed := true, recurses := true, apart := false, narrowed := true }
def BeliefPlacesUptoSaid : Prop := beliefPlacesUptoRow.holds Try.pinned (OpenSpec.upto beliefPlacesSpec)

/-- 'overlaylaw19.BeliefSteps', WHERE WHAT IT READS IS OF BULK AT MOST 1048576: true; the input reads as it did. -/
def beliefStepsUptoRow : OpenClaim := { program := "ytnnkldidlgiipaa", sum := "046bd0ef334b38f0f8b9a8ee5d3ffb81d3f3dd81f495776829c2066ace4ecdf1", func := "overlay/overlaylaw19.BeliefSteps", spec := "beliefSteps", inPlace := ["slices.overlaps[overlay/api.Duty]"], unfollowed := true, recurses := true, apart := false, narrowed := true }
def BeliefStepsUptoSaid : Prop := beliefStepsUptoRow.holds Try.pinned (OpenSpec.upto beliefStepsSpec)

/-- 'overlaylaw19.BeliefFollows', WHERE WHAT IT READS IS OF BULK AT MOST 1048576: true; the input reads as it did. -/
def beliefFollowsUptoRow : OpenClaim := { program := "ytnnkldidlgiipaa", sum := "046bd0ef334b38f0f8b9a8ee5d3ffb81d3f3dd81f495776829c2066ace4ecdf1", func := "overlay/overlaylaw19.BeliefFollows", spec := "beliefFollows", inPlace := ["slices.overlaps[overlay/api.Duty]"], unfollowed := true, recurses := true, apart := false, narrowed := true }
def BeliefFollowsUptoSaid : Prop := beliefFollowsUptoRow.holds Try.pinned (OpenSpec.upto beliefFollowsSpec)

end Rows
end Go.Proofs.Ytnnkldidlgiipaa
