/-
  No cell of these rows narrows 'for every input' (looked for: loops, veiled, ifaces, maps, wideKeys, modest, calm, conditions, laid).
  DERIVED. THE GIVEN ROWS OF THIS SEAT. 4 by the template 'for every input the law returns true; each argument reads behind the call as it read before'; 0 by the template 'total and deterministic' (their statements: YtgoojlfpngmdlaaTotals.lean).
  GIVEN WITH THE SEED: the statements are not yours to turn. If you find one false, say at which input.
  Laid BY PROGRAM, IN A SANDBOX (cutbox-rows.mjs): the forced cells as the released guide's own fill.sh prints them over the translation fd0aa4ac848070e7… (all of the seat's roots in one cut). By AI agents, Wed Nov 11 2026. No macro, syntax, notation, axiom, sorry.
-/
import Derived.Test.YtgoojlfpngmdlaaChecked
import GoSem.Claim
import GoSem.ClaimJoined
import GoSem.ClaimMapViews
import Derived.JoinedTies
import Derived.KernelRfl
namespace Go.Proofs.Ytgoojlfpngmdlaa
/- THE CELL 'sum', in the pinned program and in every row, IS THE sha256 OF THE DUMP (.gsa) THAT YtgoojlfpngmdlaaProg.lean LOADS. Nothing in Lean hashes anything: it is a label: what it is worth is what the hold of that sum in a sandbox is worth. -/
noncomputable def Try.pinned : Pinned := { name := "ytgoojlfpngmdlaa", sum := "fd0aa4ac848070e748d0aa9f7e58a95bb26c01f6b18efe871eaec996f636bdbb", checked := Try.checked }
namespace Rows
def none {H : Type} : Left H := { results := [], args := [] }

/-- 'overlaylaw25.PhaseEdges': WHATEVER THE INPUT: true; the input reads as it did. -/
def phaseEdgesSpec : ChangeSpec := { name := "phaseEdges", fn := fun _ => fun
  | [d1, d2] => { results := [.lit (.bool true)], args := [d1, d2] }
  | _ => none }
def phaseEdgesRow : OpenClaim := { program := "ytgoojlfpngmdlaa", sum := "fd0aa4ac848070e748d0aa9f7e58a95bb26c01f6b18efe871eaec996f636bdbb", func := "overlay/overlaylaw25.PhaseEdges", spec := "phaseEdges", apart := false }
def PhaseEdgesSaid : Prop := phaseEdgesRow.holds Try.pinned (OpenSpec.ofChange phaseEdgesSpec)

/-- ITS FALSE NEIGHBOUR: 'it returns false'. Refute it at one input. -/
def phaseEdgesWrong : ChangeSpec := { name := "phaseEdges", fn := fun _ => fun
  | [d1, d2] => { results := [.lit (.bool false)], args := [d1, d2] }
  | _ => none }
def PhaseEdgesWrongFalsely : Prop := phaseEdgesRow.holds Try.pinned (OpenSpec.ofChange phaseEdgesWrong)

/-- 'overlaylaw25.PhaseWalks': WHATEVER THE INPUT: true; the input reads as it did. -/
def phaseWalksSpec : ChangeSpec := { name := "phaseWalks", fn := fun _ => fun
  | [d1, d2, d3] => { results := [.lit (.bool true)], args := [d1, d2, d3] }
  | _ => none }
def phaseWalksRow : OpenClaim := { program := "ytgoojlfpngmdlaa", sum := "fd0aa4ac848070e748d0aa9f7e58a95bb26c01f6b18efe871eaec996f636bdbb", func := "overlay/overlaylaw25.PhaseWalks", spec := "phaseWalks", apart := false }
def PhaseWalksSaid : Prop := phaseWalksRow.holds Try.pinned (OpenSpec.ofChange phaseWalksSpec)

/-- ITS FALSE NEIGHBOUR: 'it returns false'. Refute it at one input. -/
def phaseWalksWrong : ChangeSpec := { name := "phaseWalks", fn := fun _ => fun
  | [d1, d2, d3] => { results := [.lit (.bool false)], args := [d1, d2, d3] }
  | _ => none }
def PhaseWalksWrongFalsely : Prop := phaseWalksRow.holds Try.pinned (OpenSpec.ofChange phaseWalksWrong)

/-- 'overlaylaw25.PhaseOrders': WHATEVER THE INPUT: true; the input reads as it did. -/
def phaseOrdersSpec : ChangeSpec := { name := "phaseOrders", fn := fun _ => fun
  | [d1, d2, d3] => { results := [.lit (.bool true)], args := [d1, d2, d3] }
  | _ => none }
def phaseOrdersRow : OpenClaim := { program := "ytgoojlfpngmdlaa", sum := "fd0aa4ac848070e748d0aa9f7e58a95bb26c01f6b18efe871eaec996f636bdbb", func := "overlay/overlaylaw25.PhaseOrders", spec := "phaseOrders", apart := false }
def PhaseOrdersSaid : Prop := phaseOrdersRow.holds Try.pinned (OpenSpec.ofChange phaseOrdersSpec)

/-- ITS FALSE NEIGHBOUR: 'it returns false'. Refute it at one input. -/
def phaseOrdersWrong : ChangeSpec := { name := "phaseOrders", fn := fun _ => fun
  | [d1, d2, d3] => { results := [.lit (.bool false)], args := [d1, d2, d3] }
  | _ => none }
def PhaseOrdersWrongFalsely : Prop := phaseOrdersRow.holds Try.pinned (OpenSpec.ofChange phaseOrdersWrong)

/-- 'overlaylaw25.PhaseRound': WHATEVER THE INPUT: true; the input reads as it did. -/
def phaseRoundSpec : ChangeSpec := { name := "phaseRound", fn := fun _ => fun
  | [d1, d2] => { results := [.lit (.bool true)], args := [d1, d2] }
  | _ => none }
def phaseRoundRow : OpenClaim := { program := "ytgoojlfpngmdlaa", sum := "fd0aa4ac848070e748d0aa9f7e58a95bb26c01f6b18efe871eaec996f636bdbb", func := "overlay/overlaylaw25.PhaseRound", spec := "phaseRound", apart := false }
def PhaseRoundSaid : Prop := phaseRoundRow.holds Try.pinned (OpenSpec.ofChange phaseRoundSpec)

/-- ITS FALSE NEIGHBOUR: 'it returns false'. Refute it at one input. -/
def phaseRoundWrong : ChangeSpec := { name := "phaseRound", fn := fun _ => fun
  | [d1, d2] => { results := [.lit (.bool false)], args := [d1, d2] }
  | _ => none }
def PhaseRoundWrongFalsely : Prop := phaseRoundRow.holds Try.pinned (OpenSpec.ofChange phaseRoundWrong)

/- THE SECOND FORM. 'bulk': how many values and letters a reading holds, each counted each time it is reached (what is shared counts as often as it is met; a slice's spare places count too). A statement '..UptoSaid' is the law's where the arguments, and the package variables that the reading takes, are together of bulk at most 1048576: NARROWER than '..Said'. Prove '..Said' where nothing that the law and all that it calls make is longer than what came in: it says more and counts as full. Else prove '..UptoSaid'. A law counts once. -/
mutual
def uptoBulk {H : Type} : DataW H → Nat
  | .lit (.string bytes) => bytes.length + 1
  | .lit _ => 1
  | .nil => 1
  | .ptr d => uptoBulk d + 1
  | .slice elems spare => uptoBulkAll elems + uptoBulkAll spare + 1
  | .agg parts => uptoBulkAll parts + 1
  | .iface _ d => uptoBulk d + 1
  | .map entries => uptoBulkEntries entries + 1
  | .held _ => 1
def uptoBulkAll {H : Type} : List (DataW H) → Nat
  | [] => 0
  | d :: r => uptoBulk d + uptoBulkAll r
def uptoBulkEntries {H : Type} : List (Lit × DataW H) → Nat
  | [] => 0
  | x :: r => uptoBulkEntry x + uptoBulkEntries r
def uptoBulkEntry {H : Type} : Lit × DataW H → Nat
  | (.string bytes, d) => bytes.length + uptoBulk d + 1
  | (_, d) => uptoBulk d + 1
 end
def uptoSmall : (H : Type) → List (DataW H) → Bool := fun _ ds => decide (uptoBulkAll ds ≤ 1048576)
def OpenSpec.upto (s : _root_.Go.ChangeSpec) : _root_.Go.OpenSpec := { _root_.Go.OpenSpec.ofChange s with cond := some uptoSmall }

/-- 'overlaylaw25.PhaseEdges', WHERE WHAT IT READS IS OF BULK AT MOST 1048576: true; the input reads as it did. -/
def phaseEdgesUptoRow : OpenClaim := { program := "ytgoojlfpngmdlaa", sum := "fd0aa4ac848070e748d0aa9f7e58a95bb26c01f6b18efe871eaec996f636bdbb", func := "overlay/overlaylaw25.PhaseEdges", spec := "phaseEdges", apart := false, narrowed := true }
def PhaseEdgesUptoSaid : Prop := phaseEdgesUptoRow.holds Try.pinned (OpenSpec.upto phaseEdgesSpec)

/-- 'overlaylaw25.PhaseWalks', WHERE WHAT IT READS IS OF BULK AT MOST 1048576: true; the input reads as it did. -/
def phaseWalksUptoRow : OpenClaim := { program := "ytgoojlfpngmdlaa", sum := "fd0aa4ac848070e748d0aa9f7e58a95bb26c01f6b18efe871eaec996f636bdbb", func := "overlay/overlaylaw25.PhaseWalks", spec := "phaseWalks", apart := false, narrowed := true }
def PhaseWalksUptoSaid : Prop := phaseWalksUptoRow.holds Try.pinned (OpenSpec.upto phaseWalksSpec)

/-- 'overlaylaw25.PhaseOrders', WHERE WHAT IT READS IS OF BULK AT MOST 1048576: true; the input reads as it did. -/
def phaseOrdersUptoRow : OpenClaim := { program := "ytgoojlfpngmdlaa", sum := "fd0aa4ac848070e748d0aa9f7e58a95bb26c01f6b18efe871eaec996f636bdbb", func := "overlay/overlaylaw25.PhaseOrders", spec := "phaseOrders", apart := false, narrowed := true }
def PhaseOrdersUptoSaid : Prop := phaseOrdersUptoRow.holds Try.pinned (OpenSpec.upto phaseOrdersSpec)

/-- 'overlaylaw25.PhaseRound', WHERE WHAT IT READS IS OF BULK AT MOST 1048576: true; the input reads as it did. -/
def phaseRoundUptoRow : OpenClaim := { program := "ytgoojlfpngmdlaa", sum := "fd0aa4ac848070e748d0aa9f7e58a95bb26c01f6b18efe871eaec996f636bdbb", func := "overlay/overlaylaw25.PhaseRound", spec := "phaseRound", apart := false, narrowed := true }
def PhaseRoundUptoSaid : Prop := phaseRoundUptoRow.holds Try.pinned (OpenSpec.upto phaseRoundSpec)

end Rows
end Go.Proofs.Ytgoojlfpngmdlaa
