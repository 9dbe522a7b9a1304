/- A law for a region that draws its order: one walk in the text's order serves for its first n operations; what is left is the region with these done, in whatever order. Conditions: those of the theorem at the end. -/
import Derived.Test.YtfmmiafdlfdfoaaGrowPair
import Derived.RegionTactic
namespace Go.Proofs.Ytfmmiafdlfdfoaa.Grow
open Go Go.RowKit
def lexRestB (md : Region.Mode) (ops : Array Oper) (n m : Nat) : Bool :=
  Region.noSelect ops && decide (n + m = ops.size) && decide (0 < m) && Region.sinkB md ops n && chain2B md ops n && (Region.ready md ops (doneF n m)).all (fun j => decide (n ≤ j)) && lexHeadF md ops (doneF n m) n 0 (Array.replicate ops.size false)
theorem wp_region_rest {P : Program} {id : Nat} {Q : Exit → Act → World → Prop} {a : Act} {w : World} {l : List Oper} (n m : Nat) (pl : Plan) (hp : pl.stable) (hm : P.follows .mixedOrders = true) (hB : lexRestB .any l.toArray n m = true)
    (h0 : ∀ ops, Hid (ops = l.toArray) → lexR P ops .any w.drew pl (fun a' T' => ∀ w', Cl w.drew w' → Holds T' w' → wpAny P .any l.toArray Q m (doneF n m) a' w') 0 (l.take n) a (fun _ _ => True)) : (Code.region id l.toArray true).wp P Q a w := by
  have h := h0 _ rfl
  simp only [lexRestB, Bool.and_eq_true, decide_eq_true_eq] at hB
  obtain ⟨⟨⟨⟨⟨⟨hsel, hn⟩, hm0⟩, hs⟩, hch⟩, hfinB⟩, hlex⟩ := hB
  have hn4 : n + m = l.length := by simpa using hn
  have hn' : n < l.length := by omega
  have htl : (l.take n).length = n := by simp; omega
  have hfin : ∀ j ∈ Region.ready .any l.toArray (doneF n m), n ≤ j := fun j hj => by
    have := List.all_eq_true.1 hfinB j hj
    simpa using this
  have H := anyR_lexF (md := .any) hp hsel hfin (fun i listed hi inv hun j hj => by
      rcases Nat.lt_or_ge j n with h | h
      · exact h
      · exact absurd hj (tail_waits2 hs hch (by simpa using hn') inv _ i rfl hi hun j h)) (l.take n) 0 _ a _ (fun j hj => by
    have hj' : j < n := by rw [htl] at hj; exact hj
    simp [hj']) (by simpa using htl) (inv0 l n) (by rw [htl]; exact hlex) (fun _ _ _ _ _ => trivial) ⟨w.drew, Below.refl _ _, fun _ => trivial⟩ h
  refine wp_region_any hm ?_
  have := wpAny_of_anyR hp (Q := Q) (g := m) (fun listed a' T' w' hC _ hT hL => by
    rw [hL.1]
    exact hL.2 w' hC hT) _ _ _ _ w.drew (Below.refl _ _) (fun _ _ _ _ _ => trivial) (fun _ => trivial) H
  rw [htl, show n + m = l.toArray.size by simpa using hn] at this
  exact this
end Go.Proofs.Ytfmmiafdlfdfoaa.Grow
