/- The walk over belief.Observe. Conditions: cars and duties that can be read. -/
import Derived.Test.YtfmmiafdlfdfoaaAgedC
import Derived.Test.YtfmmiafdlfdfoaaIndic
import Derived.Test.YtfmmiafdlfdfoaaMade
import Derived.Test.YtfmmiafdlfdfoaaGrowRest
namespace Go.Proofs.Ytfmmiafdlfdfoaa
open Go.RowKit
theorem agedT_stable (lo : Nat) (L : List Duty) (late : Bool) (v : Value) : Grow.Stable (agedT lo L late v) := by
  intro w w' hw hb
  obtain ⟨q, cap, hv, hr, hl⟩ := hw
  exact ⟨q, cap, hv, hr.next hb, hl⟩
theorem agedT_lo {lo lo' : Nat} {L : List Duty} {late : Bool} {v : Value} {w : World} (h : agedT lo L late v w) (hl : lo' ≤ lo) : agedT lo' L late v w := by
  obtain ⟨q, cap, hv, hT, hlo⟩ := h
  exact ⟨q, cap, hv, hT, fun A hA => Nat.le_trans hl (hlo A hA)⟩
theorem agedT_form {lo : Nat} {L : List Duty} {late : Bool} {v : Value} {w : World} (h : agedT lo L late v w) : ∃ q cap, v = .tuple #[.slice q L.length cap, .bool late] := by
  obtain ⟨q, cap, hv, _⟩ := h
  exact ⟨q, cap, hv⟩
theorem agedT_out {lo cap : Nat} {L : List Duty} {late : Bool} {q : Option Addr} {w : World} (h : agedT lo L late (.tuple #[.slice q L.length cap, .bool late]) w) : RdD w q L ∧ ∀ A, q = some A → lo ≤ A.block := by
  obtain ⟨q', cap', hv, hr, hl⟩ := h
  obtain ⟨rfl, rfl⟩ : q = q' ∧ cap = cap' := by simpa using hv
  exact ⟨hr, hl⟩
end Go.Proofs.Ytfmmiafdlfdfoaa
