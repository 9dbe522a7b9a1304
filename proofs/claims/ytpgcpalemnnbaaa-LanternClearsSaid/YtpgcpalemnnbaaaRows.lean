/-
  No cell of these rows narrows 'for every input' (looked for: loops, veiled, ifaces, maps, wideKeys, modest, calm, conditions, laid).
  DERIVED. THE GIVEN ROWS OF THIS SEAT. 5 by the template 'for every input the law returns true; each argument reads behind the call as it read before'; 0 by the template 'total and deterministic' (their statements: YtpgcpalemnnbaaaTotals.lean).
  GIVEN WITH THE SEED: the statements are not yours to turn. If you find one false, say at which input.
  Laid BY PROGRAM, IN A SANDBOX (cutbox-rows.mjs): the forced cells as the released guide's own fill.sh prints them over the translation 4a3507eddf1c630d… (all of the seat's roots in one cut). By AI agents, Wed Nov 11 2026. No macro, syntax, notation, axiom, sorry.
-/
import Derived.Test.YtpgcpalemnnbaaaChecked
import GoSem.Claim
import GoSem.ClaimJoined
import GoSem.ClaimMapViews
import Derived.JoinedTies
import Derived.KernelRfl
namespace Go.Proofs.Ytpgcpalemnnbaaa
/- THE CELL 'sum', in the pinned program and in every row, IS THE sha256 OF THE DUMP (.gsa) THAT YtpgcpalemnnbaaaProg.lean LOADS. Nothing in Lean hashes anything: it is a label: what it is worth is what the hold of that sum in a sandbox is worth. -/
noncomputable def Try.pinned : Pinned := { name := "ytpgcpalemnnbaaa", sum := "4a3507eddf1c630dc7ecfe7dff3595b422de3802c1bc0fd154c4ecdbfef5ee18", checked := Try.checked }
namespace Rows
def none {H : Type} : Left H := { results := [], args := [] }

/-- 'overlaylaw23.LanternLights': WHATEVER THE INPUT: true; the input reads as it did. -/
def lanternLightsSpec : ChangeSpec := { name := "lanternLights", fn := fun _ => fun
  | [d1, d2, d3] => { results := [.lit (.bool true)], args := [d1, d2, d3] }
  | _ => none }
def lanternLightsRow : OpenClaim := { program := "ytpgcpalemnnbaaa", sum := "4a3507eddf1c630dc7ecfe7dff3595b422de3802c1bc0fd154c4ecdbfef5ee18", func := "overlay/overlaylaw23.LanternLights", spec := "lanternLights", apart := false }
def LanternLightsSaid : Prop := lanternLightsRow.holds Try.pinned (OpenSpec.ofChange lanternLightsSpec)

/-- ITS FALSE NEIGHBOUR: 'it returns false'. Refute it at one input. -/
def lanternLightsWrong : ChangeSpec := { name := "lanternLights", fn := fun _ => fun
  | [d1, d2, d3] => { results := [.lit (.bool false)], args := [d1, d2, d3] }
  | _ => none }
def LanternLightsWrongFalsely : Prop := lanternLightsRow.holds Try.pinned (OpenSpec.ofChange lanternLightsWrong)

/-- 'overlaylaw23.LanternOne': WHATEVER THE INPUT: true; the input reads as it did. -/
def lanternOneSpec : ChangeSpec := { name := "lanternOne", fn := fun _ => fun
  | [d1, d2] => { results := [.lit (.bool true)], args := [d1, d2] }
  | _ => none }
def lanternOneRow : OpenClaim := { program := "ytpgcpalemnnbaaa", sum := "4a3507eddf1c630dc7ecfe7dff3595b422de3802c1bc0fd154c4ecdbfef5ee18", func := "overlay/overlaylaw23.LanternOne", spec := "lanternOne", apart := false }
def LanternOneSaid : Prop := lanternOneRow.holds Try.pinned (OpenSpec.ofChange lanternOneSpec)

/-- ITS FALSE NEIGHBOUR: 'it returns false'. Refute it at one input. -/
def lanternOneWrong : ChangeSpec := { name := "lanternOne", fn := fun _ => fun
  | [d1, d2] => { results := [.lit (.bool false)], args := [d1, d2] }
  | _ => none }
def LanternOneWrongFalsely : Prop := lanternOneRow.holds Try.pinned (OpenSpec.ofChange lanternOneWrong)

/-- 'overlaylaw23.LanternGongs': WHATEVER THE INPUT: true; the input reads as it did. -/
def lanternGongsSpec : ChangeSpec := { name := "lanternGongs", fn := fun _ => fun
  | [d1, d2] => { results := [.lit (.bool true)], args := [d1, d2] }
  | _ => none }
def lanternGongsRow : OpenClaim := { program := "ytpgcpalemnnbaaa", sum := "4a3507eddf1c630dc7ecfe7dff3595b422de3802c1bc0fd154c4ecdbfef5ee18", func := "overlay/overlaylaw23.LanternGongs", spec := "lanternGongs", apart := false }
def LanternGongsSaid : Prop := lanternGongsRow.holds Try.pinned (OpenSpec.ofChange lanternGongsSpec)

/-- ITS FALSE NEIGHBOUR: 'it returns false'. Refute it at one input. -/
def lanternGongsWrong : ChangeSpec := { name := "lanternGongs", fn := fun _ => fun
  | [d1, d2] => { results := [.lit (.bool false)], args := [d1, d2] }
  | _ => none }
def LanternGongsWrongFalsely : Prop := lanternGongsRow.holds Try.pinned (OpenSpec.ofChange lanternGongsWrong)

/-- 'overlaylaw23.LanternServes': WHATEVER THE INPUT: true; the input reads as it did. -/
def lanternServesSpec : ChangeSpec := { name := "lanternServes", fn := fun _ => fun
  | [d1, d2, d3] => { results := [.lit (.bool true)], args := [d1, d2, d3] }
  | _ => none }
def lanternServesRow : OpenClaim := { program := "ytpgcpalemnnbaaa", sum := "4a3507eddf1c630dc7ecfe7dff3595b422de3802c1bc0fd154c4ecdbfef5ee18", func := "overlay/overlaylaw23.LanternServes", spec := "lanternServes", apart := false }
def LanternServesSaid : Prop := lanternServesRow.holds Try.pinned (OpenSpec.ofChange lanternServesSpec)

/-- ITS FALSE NEIGHBOUR: 'it returns false'. Refute it at one input. -/
def lanternServesWrong : ChangeSpec := { name := "lanternServes", fn := fun _ => fun
  | [d1, d2, d3] => { results := [.lit (.bool false)], args := [d1, d2, d3] }
  | _ => none }
def LanternServesWrongFalsely : Prop := lanternServesRow.holds Try.pinned (OpenSpec.ofChange lanternServesWrong)

/-- 'overlaylaw23.LanternClears': WHATEVER THE INPUT: true; the input reads as it did. -/
def lanternClearsSpec : ChangeSpec := { name := "lanternClears", fn := fun _ => fun
  | [d1, d2, d3] => { results := [.lit (.bool true)], args := [d1, d2, d3] }
  | _ => none }
def lanternClearsRow : OpenClaim := { program := "ytpgcpalemnnbaaa", sum := "4a3507eddf1c630dc7ecfe7dff3595b422de3802c1bc0fd154c4ecdbfef5ee18", func := "overlay/overlaylaw23.LanternClears", spec := "lanternClears", apart := false }
def LanternClearsSaid : Prop := lanternClearsRow.holds Try.pinned (OpenSpec.ofChange lanternClearsSpec)

/-- ITS FALSE NEIGHBOUR: 'it returns false'. Refute it at one input. -/
def lanternClearsWrong : ChangeSpec := { name := "lanternClears", fn := fun _ => fun
  | [d1, d2, d3] => { results := [.lit (.bool false)], args := [d1, d2, d3] }
  | _ => none }
def LanternClearsWrongFalsely : Prop := lanternClearsRow.holds Try.pinned (OpenSpec.ofChange lanternClearsWrong)

/- THE SECOND FORM. 'bulk': how many values and letters a reading holds, each counted each time it is reached (what is shared counts as often as it is met; a slice's spare places count too). A statement '..UptoSaid' is the law's where the arguments, and the package variables that the reading takes, are together of bulk at most 1048576: NARROWER than '..Said'. Prove '..Said' where nothing that the law and all that it calls make is longer than what came in: it says more and counts as full. Else prove '..UptoSaid'. A law counts once. -/
mutual
def uptoBulk {H : Type} : DataW H → Nat
  | .lit (.string bytes) => bytes.length + 1
  | .lit _ => 1
  | .nil => 1
  | .ptr d => uptoBulk d + 1
  | .slice elems spare => uptoBulkAll elems + uptoBulkAll spare + 1
  | .agg parts => uptoBulkAll parts + 1
  | .iface _ d => uptoBulk d + 1
  | .map entries => uptoBulkEntries entries + 1
  | .held _ => 1
def uptoBulkAll {H : Type} : List (DataW H) → Nat
  | [] => 0
  | d :: r => uptoBulk d + uptoBulkAll r
def uptoBulkEntries {H : Type} : List (Lit × DataW H) → Nat
  | [] => 0
  | x :: r => uptoBulkEntry x + uptoBulkEntries r
def uptoBulkEntry {H : Type} : Lit × DataW H → Nat
  | (.string bytes, d) => bytes.length + uptoBulk d + 1
  | (_, d) => uptoBulk d + 1
 end
def uptoSmall : (H : Type) → List (DataW H) → Bool := fun _ ds => decide (uptoBulkAll ds ≤ 1048576)
def OpenSpec.upto (s : _root_.Go.ChangeSpec) : _root_.Go.OpenSpec := { _root_.Go.OpenSpec.ofChange s with cond := some uptoSmall }

/-- 'overlaylaw23.LanternLights', WHERE WHAT IT READS IS OF BULK AT MOST 1048576: true; the input reads as it did. -/
def lanternLightsUptoRow : OpenClaim := { program := "ytpgcpalemnnbaaa", sum := "4a3507eddf1c630dc7ecfe7dff3595b422de3802c1bc0fd154c4ecdbfef5ee18", func := "overlay/overlaylaw23.LanternLights", spec := "lanternLights", apart := false, narrowed := true }
def LanternLightsUptoSaid : Prop := lanternLightsUptoRow.holds Try.pinned (OpenSpec.upto lanternLightsSpec)

/-- 'overlaylaw23.LanternOne', WHERE WHAT IT READS IS OF BULK AT MOST 1048576: true; the input reads as it did. -/
def lanternOneUptoRow : OpenClaim := { program := "ytpgcpalemnnbaaa", sum := "4a3507eddf1c630dc7ecfe7dff3595b422de3802c1bc0fd154c4ecdbfef5ee18", func := "overlay/overlaylaw23.LanternOne", spec := "lanternOne", apart := false, narrowed := true }
def LanternOneUptoSaid : Prop := lanternOneUptoRow.holds Try.pinned (OpenSpec.upto lanternOneSpec)

/-- 'overlaylaw23.LanternGongs', WHERE WHAT IT READS IS OF BULK AT MOST 1048576: true; the input reads as it did. -/
def lanternGongsUptoRow : OpenClaim := { program := "ytpgcpalemnnbaaa", sum := "4a3507eddf1c630dc7ecfe7dff3595b422de3802c1bc0fd154c4ecdbfef5ee18", func := "overlay/overlaylaw23.LanternGongs", spec := "lanternGongs", apart := false, narrowed := true }
def LanternGongsUptoSaid : Prop := lanternGongsUptoRow.holds Try.pinned (OpenSpec.upto lanternGongsSpec)

/-- 'overlaylaw23.LanternServes', WHERE WHAT IT READS IS OF BULK AT MOST 1048576: true; the input reads as it did. -/
def lanternServesUptoRow : OpenClaim := { program := "ytpgcpalemnnbaaa", sum := "4a3507eddf1c630dc7ecfe7dff3595b422de3802c1bc0fd154c4ecdbfef5ee18", func := "overlay/overlaylaw23.LanternServes", spec := "lanternServes", apart := false, narrowed := true }
def LanternServesUptoSaid : Prop := lanternServesUptoRow.holds Try.pinned (OpenSpec.upto lanternServesSpec)

/-- 'overlaylaw23.LanternClears', WHERE WHAT IT READS IS OF BULK AT MOST 1048576: true; the input reads as it did. -/
def lanternClearsUptoRow : OpenClaim := { program := "ytpgcpalemnnbaaa", sum := "4a3507eddf1c630dc7ecfe7dff3595b422de3802c1bc0fd154c4ecdbfef5ee18", func := "overlay/overlaylaw23.LanternClears", spec := "lanternClears", apart := false, narrowed := true }
def LanternClearsUptoSaid : Prop := lanternClearsUptoRow.holds Try.pinned (OpenSpec.upto lanternClearsSpec)

end Rows
end Go.Proofs.Ytpgcpalemnnbaaa
