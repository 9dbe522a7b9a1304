/- The walk over belief.Quiet. Conditions: cars and duties that can be read. -/
import Derived.Test.YtfmmiafdlfdfoaaObsC
namespace Go.Proofs.Ytfmmiafdlfdfoaa
open Go.RowKit
def quOf (b : BldV) (car : Int) : Int := (b.cars[car.toNat]?.map CarV.qu).getD 0
def quietB (b : BldV) (car : Int) (s : BelV) : Bool := stateB b car s && decide (s.du.length = 0) && decide (s.door = 2) && decide (quOf b car ≤ s.still)
theorem RdC.reg2 {w : World} {q : Option Addr} {l : List CarV} (h : RdC w q l) {i : Nat} {c : CarV} (hi : l[i]? = some c) : ∃ A, q = some A ∧ A.block < w.heap.size ∧ ∀ W, Grow.Cl w.drew W → W.cell? ⟨(A.add (i * 9)).block, (A.add (i * 9)).off + 2, none⟩ = some (.int .i64 c.qu) := by
  obtain ⟨A, hq, hA, hc⟩ := h i c hi
  exact ⟨A, hq, hA, fun W hW => cell_later (Grow.Cl.base hW) (by rw [← addr_one]; exact hc 2 _ rfl)⟩
theorem car_qu (b : BldV) (car : Int) (h : inR 0 ((b.cars.length : Int) - 1) car = true) : ∃ c, 0 ≤ car ∧ car < (b.cars.length : Int) ∧ b.cars[car.toNat]? = some c ∧ quOf b car = c.qu := by
  obtain ⟨h0, h1⟩ := (inR_iff _ _ _).1 h
  have hn : car.toNat < b.cars.length := by omega
  exact ⟨b.cars[car.toNat], h0, by omega, List.getElem?_eq_getElem hn, by simp [quOf, hn]⟩
end Go.Proofs.Ytfmmiafdlfdfoaa
