/- The walks over inject.Coils and overlayref20.Coils. Conditions: cars and duties that can be read; slack times that are no more than the greatest number less one. -/
import Derived.Test.YtfmmiafdlfdfoaaStateHead
import Derived.Test.YtfmmiafdlfdfoaaStateRef
import Derived.Test.YtfmmiafdlfdfoaaSafe
import Derived.Test.YtfmmiafdlfdfoaaValid18
namespace Go.Proofs.Ytfmmiafdlfdfoaa
open Go.RowKit
def puOf (b : BldV) (car : Int) : Int := (b.cars[car.toNat]?.map CarV.pu).getD 0
def coilC (pu : Int) (l : List Duty) : CS := l.foldl (fun c d => if d.2.2 < pu then union c (one d.1 d.2.1) else c) (0#32, 0#32)
theorem coilC_snoc (pu : Int) (l : List Duty) (i : Nat) (d : Duty) (h : l[i]? = some d) : coilC pu (l.take (i + 1)) = if d.2.2 < pu then union (coilC pu (l.take i)) (one d.1 d.2.1) else coilC pu (l.take i) := by
  rw [List.take_add_one, h]
  simp [coilC]
def wiredOn (b : BldV) (car p : Int) (s : BelV) : Bool := wiredB p && stateB b car s
def coilV (b : BldV) (car p : Int) (s : BelV) : CS := if wiredOn b car p s then coilC (puOf b car) s.du else (0#32, 0#32)
theorem stateB_car (b : BldV) (car : Int) (s : BelV) (h : stateB b car s = true) : inR 0 ((b.cars.length : Int) - 1) car = true := by
  simp only [stateB, headB, Bool.and_eq_true] at h
  exact h.1.1.1.1.1.1.2
theorem car_pu (b : BldV) (car : Int) (h : inR 0 ((b.cars.length : Int) - 1) car = true) : ∃ c, 0 ≤ car ∧ car < (b.cars.length : Int) ∧ b.cars[car.toNat]? = some c ∧ puOf b car = c.pu := by
  obtain ⟨h0, h1⟩ := (inR_iff _ _ _).1 h
  have hn : car.toNat < b.cars.length := by omega
  exact ⟨b.cars[car.toNat], h0, by omega, List.getElem?_eq_getElem hn, by simp [puOf, hn]⟩
theorem RdC.reg1 {w : World} {q : Option Addr} {l : List CarV} (h : RdC w q l) {i : Nat} {c : CarV} (hi : l[i]? = some c) : ∃ A, q = some A ∧ A.block < w.heap.size ∧ ∀ W, Grow.Cl w.drew W → W.cell? ⟨(A.add (i * 9)).block, (A.add (i * 9)).off + 1, none⟩ = some (.int .i64 c.pu) := by
  obtain ⟨A, hq, hA, hc⟩ := h i c hi
  exact ⟨A, hq, hA, fun W hW => cell_later (Grow.Cl.base hW) (by rw [← addr_one]; exact hc 1 _ rfl)⟩
abbrev kC (c : CS) (o : Bool) : List Value := [.int .u32 (c.1.toNat : Int), .int .u32 (c.2.toNat : Int), .bool o]
end Go.Proofs.Ytfmmiafdlfdfoaa
