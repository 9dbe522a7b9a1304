/- The walk over overlayref19.IsState. Conditions: cars and duties that can be read; slack times that are no more than the greatest number less one. -/
import Derived.Test.YtfmmiafdlfdfoaaState
import Derived.IntWalk
namespace Go.Proofs.Ytfmmiafdlfdfoaa
open Go.RowKit
theorem cmpD_lin (e d : Duty) (h1 : 1 ≤ e.2.1) (h2 : e.2.1 ≤ 2) (h3 : 1 ≤ d.2.1) (h4 : d.2.1 ≤ 2) : decide (4 * d.1 + d.2.1 ≤ 4 * e.1 + e.2.1) = decide (0 ≤ cmpD e d) := by
  obtain ⟨a, b, c⟩ := e
  obtain ⟨x, y, z⟩ := d
  simp only at h1 h2 h3 h4 ⊢
  have : (0 ≤ cmpD (a, b, c) (x, y, z)) = (4 * x + y ≤ 4 * a + b) := by
    unfold cmpD orL cmpI
    apply propext
    by_cases p1 : a < x
    · simp [p1]; omega
    · by_cases p2 : x < a
      · simp [p1, p2]; omega
      · by_cases p3 : b < y
        · simp [p1, p2, p3]; omega
        · by_cases p4 : y < b
          · simp [p1, p2, p3, p4]; omega
          · simp [p1, p2, p3, p4]; omega
  simp only [this]
theorem callB_range (b : BldV) (f d : Int) (h : callB b f d = true) : 0 ≤ f ∧ f ≤ 31 ∧ 1 ≤ d ∧ d ≤ 2 := by
  simp only [callB, isCallB, Bool.and_eq_true, Bool.or_eq_true, decide_eq_true_eq, inR] at h
  have hf := valid_fl b h.1
  omega
end Go.Proofs.Ytfmmiafdlfdfoaa
