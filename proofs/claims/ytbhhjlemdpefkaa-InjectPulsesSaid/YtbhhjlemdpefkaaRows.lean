/-
  No cell of these rows narrows 'for every input' (looked for: loops, veiled, ifaces, maps, wideKeys, modest, calm, conditions, laid).
  DERIVED. THE GIVEN ROWS OF THIS SEAT. 4 by the template 'for every input the law returns true; each argument reads behind the call as it read before'; 0 by the template 'total and deterministic' (their statements: YtbhhjlemdpefkaaTotals.lean).
  GIVEN WITH THE SEED: the statements are not yours to turn. If you find one false, say at which input.
  Laid BY PROGRAM, IN A SANDBOX (cutbox-rows.mjs): the forced cells as the released guide's own fill.sh prints them over the translation 13f429857ec63f1c… (all of the seat's roots in one cut). By AI agents, Wed Nov 11 2026. No macro, syntax, notation, axiom, sorry.
-/
import Derived.Test.YtbhhjlemdpefkaaChecked
import GoSem.Claim
import GoSem.ClaimJoined
import GoSem.ClaimMapViews
import Derived.JoinedTies
import Derived.KernelRfl
namespace Go.Proofs.Ytbhhjlemdpefkaa
/- THE CELL 'sum', in the pinned program and in every row, IS THE sha256 OF THE DUMP (.gsa) THAT YtbhhjlemdpefkaaProg.lean LOADS. Nothing in Lean hashes anything: it is a label: what it is worth is what the hold of that sum in a sandbox is worth. -/
noncomputable def Try.pinned : Pinned := { name := "ytbhhjlemdpefkaa", sum := "13f429857ec63f1cabea63ec7bbb5844e53fe1258616d8a5b43c085f30ff01ac", checked := Try.checked }
namespace Rows
def none {H : Type} : Left H := { results := [], args := [] }

/-- 'overlaylaw20.InjectCoils': WHATEVER THE INPUT: true; the input reads as it did. -/
def injectCoilsSpec : ChangeSpec := { name := "injectCoils", fn := fun _ => fun
  | [d1, d2, d3] => { results := [.lit (.bool true)], args := [d1, d2, d3] }
  | _ => none }
def injectCoilsRow : OpenClaim := { program := "ytbhhjlemdpefkaa", sum := "13f429857ec63f1cabea63ec7bbb5844e53fe1258616d8a5b43c085f30ff01ac", func := "overlay/overlaylaw20.InjectCoils", spec := "injectCoils", apart := false }
def InjectCoilsSaid : Prop := injectCoilsRow.holds Try.pinned (OpenSpec.ofChange injectCoilsSpec)

/-- ITS FALSE NEIGHBOUR: 'it returns false'. Refute it at one input. -/
def injectCoilsWrong : ChangeSpec := { name := "injectCoils", fn := fun _ => fun
  | [d1, d2, d3] => { results := [.lit (.bool false)], args := [d1, d2, d3] }
  | _ => none }
def InjectCoilsWrongFalsely : Prop := injectCoilsRow.holds Try.pinned (OpenSpec.ofChange injectCoilsWrong)

/-- 'overlaylaw20.InjectLocks': WHATEVER THE INPUT: true; the input reads as it did. -/
def injectLocksSpec : ChangeSpec := { name := "injectLocks", fn := fun _ => fun
  | [d1, d2, d3] => { results := [.lit (.bool true)], args := [d1, d2, d3] }
  | _ => none }
def injectLocksRow : OpenClaim := { program := "ytbhhjlemdpefkaa", sum := "13f429857ec63f1cabea63ec7bbb5844e53fe1258616d8a5b43c085f30ff01ac", func := "overlay/overlaylaw20.InjectLocks", spec := "injectLocks", apart := false }
def InjectLocksSaid : Prop := injectLocksRow.holds Try.pinned (OpenSpec.ofChange injectLocksSpec)

/-- ITS FALSE NEIGHBOUR: 'it returns false'. Refute it at one input. -/
def injectLocksWrong : ChangeSpec := { name := "injectLocks", fn := fun _ => fun
  | [d1, d2, d3] => { results := [.lit (.bool false)], args := [d1, d2, d3] }
  | _ => none }
def InjectLocksWrongFalsely : Prop := injectLocksRow.holds Try.pinned (OpenSpec.ofChange injectLocksWrong)

/-- 'overlaylaw20.InjectOut': WHATEVER THE INPUT: true; the input reads as it did. -/
def injectOutSpec : ChangeSpec := { name := "injectOut", fn := fun _ => fun
  | [d1, d2] => { results := [.lit (.bool true)], args := [d1, d2] }
  | _ => none }
def injectOutRow : OpenClaim := { program := "ytbhhjlemdpefkaa", sum := "13f429857ec63f1cabea63ec7bbb5844e53fe1258616d8a5b43c085f30ff01ac", func := "overlay/overlaylaw20.InjectOut", spec := "injectOut", apart := false }
def InjectOutSaid : Prop := injectOutRow.holds Try.pinned (OpenSpec.ofChange injectOutSpec)

/-- ITS FALSE NEIGHBOUR: 'it returns false'. Refute it at one input. -/
def injectOutWrong : ChangeSpec := { name := "injectOut", fn := fun _ => fun
  | [d1, d2] => { results := [.lit (.bool false)], args := [d1, d2] }
  | _ => none }
def InjectOutWrongFalsely : Prop := injectOutRow.holds Try.pinned (OpenSpec.ofChange injectOutWrong)

/-- 'overlaylaw20.InjectPulses': WHATEVER THE INPUT: true; the input reads as it did. -/
def injectPulsesSpec : ChangeSpec := { name := "injectPulses", fn := fun _ => fun
  | [d1, d2] => { results := [.lit (.bool true)], args := [d1, d2] }
  | _ => none }
def injectPulsesRow : OpenClaim := { program := "ytbhhjlemdpefkaa", sum := "13f429857ec63f1cabea63ec7bbb5844e53fe1258616d8a5b43c085f30ff01ac", func := "overlay/overlaylaw20.InjectPulses", spec := "injectPulses", inPlace := ["slices.overlaps[overlay/api.Duty]"], unfollowed := true, recurses := true, apart := false }
def InjectPulsesSaid : Prop := injectPulsesRow.holds Try.pinned (OpenSpec.ofChange injectPulsesSpec)

/-- ITS FALSE NEIGHBOUR: 'it returns false'. Refute it at one input. -/
def injectPulsesWrong : ChangeSpec := { name := "injectPulses", fn := fun _ => fun
  | [d1, d2] => { results := [.lit (.bool false)], args := [d1, d2] }
  | _ => none }
def InjectPulsesWrongFalsely : Prop := injectPulsesRow.holds Try.pinned (OpenSpec.ofChange injectPulsesWrong)

/- THE SECOND FORM. 'bulk': how many values and letters a reading holds, each counted each time it is reached (what is shared counts as often as it is met; a slice's spare places count too). A statement '..UptoSaid' is the law's where the arguments, and the package variables that the reading takes, are together of bulk at most 1048576: NARROWER than '..Said'. Prove '..Said' where nothing that the law and all that it calls make is longer than what came in: it says more and counts as full. Else prove '..UptoSaid'. A law counts once. -/
mutual
def uptoBulk {H : Type} : DataW H → Nat
  | .lit (.string bytes) => bytes.length + 1
  | .lit _ => 1
  | .nil => 1
  | .ptr d => uptoBulk d + 1
  | .slice elems spare => uptoBulkAll elems + uptoBulkAll spare + 1
  | .agg parts => uptoBulkAll parts + 1
  | .iface _ d => uptoBulk d + 1
  | .map entries => uptoBulkEntries entries + 1
  | .held _ => 1
def uptoBulkAll {H : Type} : List (DataW H) → Nat
  | [] => 0
  | d :: r => uptoBulk d + uptoBulkAll r
def uptoBulkEntries {H : Type} : List (Lit × DataW H) → Nat
  | [] => 0
  | x :: r => uptoBulkEntry x + uptoBulkEntries r
def uptoBulkEntry {H : Type} : Lit × DataW H → Nat
  | (.string bytes, d) => bytes.length + uptoBulk d + 1
  | (_, d) => uptoBulk d + 1
 end
def uptoSmall : (H : Type) → List (DataW H) → Bool := fun _ ds => decide (uptoBulkAll ds ≤ 1048576)
def OpenSpec.upto (s : _root_.Go.ChangeSpec) : _root_.Go.OpenSpec := { _root_.Go.OpenSpec.ofChange s with cond := some uptoSmall }

/-- 'overlaylaw20.InjectCoils', WHERE WHAT IT READS IS OF BULK AT MOST 1048576: true; the input reads as it did. -/
def injectCoilsUptoRow : OpenClaim := { program := "ytbhhjlemdpefkaa", sum := "13f429857ec63f1cabea63ec7bbb5844e53fe1258616d8a5b43c085f30ff01ac", func := "overlay/overlaylaw20.InjectCoils", spec := "injectCoils", apart := false, narrowed := true }
def InjectCoilsUptoSaid : Prop := injectCoilsUptoRow.holds Try.pinned (OpenSpec.upto injectCoilsSpec)

/-- 'overlaylaw20.InjectLocks', WHERE WHAT IT READS IS OF BULK AT MOST 1048576: true; the input reads as it did. -/
def injectLocksUptoRow : OpenClaim := { program := "ytbhhjlemdpefkaa", sum := "13f429857ec63f1cabea63ec7bbb5844e53fe1258616d8a5b43c085f30ff01ac", func := "overlay/overlaylaw20.InjectLocks", spec := "injectLocks", apart := false, narrowed := true }
def InjectLocksUptoSaid : Prop := injectLocksUptoRow.holds Try.pinned (OpenSpec.upto injectLocksSpec)

/-- 'overlaylaw20.InjectOut', WHERE WHAT IT READS IS OF BULK AT MOST 1048576: true; the input reads as it did. -/
def injectOutUptoRow : OpenClaim := { program := "ytbhhjlemdpefkaa", sum := "13f429857ec63f1cabea63ec7bbb5844e53fe1258616d8a5b43c085f30ff01ac", func := "overlay/overlaylaw20.InjectOut", spec := "injectOut", apart := false, narrowed := true }
def InjectOutUptoSaid : Prop := injectOutUptoRow.holds Try.pinned (OpenSpec.upto injectOutSpec)

/-- 'overlaylaw20.InjectPulses', WHERE WHAT IT READS IS OF BULK AT MOST 1048576: true; the input reads as it did. -/
def injectPulsesUptoRow : OpenClaim := { program := "ytbhhjlemdpefkaa", sum := "13f429857ec63f1cabea63ec7bbb5844e53fe1258616d8a5b43c085f30ff01ac", func := "overlay/overlaylaw20.InjectPulses", spec := "injectPulses", inPlace := ["slices.overlaps[overlay/api.Duty]"], unfollowed := true, recurses := true, apart := false, narrowed := true }
def InjectPulsesUptoSaid : Prop := injectPulsesUptoRow.holds Try.pinned (OpenSpec.upto injectPulsesSpec)

end Rows
end Go.Proofs.Ytbhhjlemdpefkaa
