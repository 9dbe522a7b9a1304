/- Plans of one or two relations, for regions that draw their order. Conditions: none. · The walk over lantern.Light. Conditions: cars, views and sets of calls that can be read. -/
import Derived.Test.YtgoojlfpngmdlaaZGrow
import Derived.Test.YtgoojlfpngmdlaaZLightV
import Derived.Test.YtgoojlfpngmdlaaZSample
import Derived.Test.YtgoojlfpngmdlaaZBld18
namespace Go.Proofs.Ytgoojlfpngmdlaa
open Go.RowKit
def rPlan (k : Nat) (r : Value → World → Prop) : Grow.Plan := fun i => if i = k then some (fun _ v w => r v w) else none
theorem rPlan_stable (k : Nat) (r : Value → World → Prop) (hr : ∀ v, Grow.Stable (r v)) : (rPlan k r).stable := by
  intro i r' h _ v w w' hw hb
  unfold rPlan at h
  split at h
  · cases h; exact hr v w w' hw hb
  · cases h
def rPlan2 (k : Nat) (r : Value → World → Prop) (k' : Nat) (r' : Value → World → Prop) : Grow.Plan := fun i => if i = k then some (fun _ v w => r v w) else if i = k' then some (fun _ v w => r' v w) else none
theorem rPlan2_stable (k : Nat) (r : Value → World → Prop) (k' : Nat) (r' : Value → World → Prop) (hr : ∀ v, Grow.Stable (r v)) (hr' : ∀ v, Grow.Stable (r' v)) : (rPlan2 k r k' r').stable := by
  intro i r0 h _ v w w' hw hb
  unfold rPlan2 at h
  split at h
  · cases h; exact hr v w w' hw hb
  · split at h
    · cases h; exact hr' v w w' hw hb
    · cases h
end Go.Proofs.Ytgoojlfpngmdlaa
namespace Go.Proofs.Ytgoojlfpngmdlaa
open Go.RowKit
def ptrS (g : Nat) : Value := .pointer (some ⟨g, 0, none⟩)
theorem ptrS_inj (x y : Nat) (h : ptrS x = ptrS y) : x = y := by unfold ptrS at h; simpa using h
end Go.Proofs.Ytgoojlfpngmdlaa
