/- Small words for laws that keep a belief in a variable; the made building, as data. Conditions: none. -/
import Derived.Test.YtfmmiafdlfdfoaaQuiet
namespace Go.Proofs.Ytfmmiafdlfdfoaa
open Go.RowKit
theorem cvB18v (n t g cap : Nat) : (Value.agg (bldP (fl18 n) (1 + (t : Int) % 7) (.slice (some ⟨g, 0, none⟩) (k18 n) cap)).toArray) = cvB (b18 n t) (some ⟨g, 0, none⟩) cap := by
  show _ = Value.agg #[.int .i64 (fl18 n), .int .i64 1, .int .i64 4000, .int .i64 (1 + (t : Int) % 7), .float .f64 4591870180066957722, .float .f64 4605380978949069210, .float .f64 4607632778762754458, .slice (some ⟨g, 0, none⟩) (cars18 n t).length cap]
  rw [cars18_len]
/-- The made building, as data. -/
theorem b18_val2 (n t : Nat) (w : World) (hn : n < 256) (ht : t < 256) :
    Calls Try.prog 10 #[.int .u8 n, .int .u8 t] w fun e w' => ∃ g cap, e = .returned (cvB (b18 n t) (some ⟨g, 0, none⟩) cap) ∧ w.heap.size < g ∧ g < w'.heap.size ∧ w'.ownsRow (w.heap.size + 1) 40 9 (.slice (some ⟨g, 0, none⟩) (b18 n t).cars.length cap) (b18 n t).cars.length (carCells (b18 n t).cars) ∧ RdC w' (some ⟨g, 0, none⟩) (b18 n t).cars ∧ Below w.heap.size w w' := by
  refine (b18_any n t w hn ht).mono ?_
  rintro e w' ⟨g, cap, rfl, hown, hb⟩
  refine ⟨g, cap, by rw [cvB18v], ?_, ?_, ?_, rdC_of_owns hown (cars18_len n t), hb⟩
  · exact row_ge hown (Nat.le_refl _) (k := g) rfl
  · rcases hown.2 with ⟨hv, _⟩ | ⟨g', cap', cur, hv, _, hh, _⟩
    · simp at hv
    · simp at hv; rw [hv.1]; exact (Array.getElem?_eq_some_iff.1 hh).1
  · show w'.ownsRow _ _ 9 (.slice (some ⟨g, 0, none⟩) (cars18 n t).length cap) (cars18 n t).length (carCells (cars18 n t))
    rw [cars18_len]; exact hown
theorem drewB2 (w : World) : Below w.heap.size w w.drew := ⟨rfl, rfl, rfl, Nat.le_refl _, fun _ _ => rfl⟩
theorem below_al2 {B : Nat} {w W : World} (h : Below B w W) (hB : B ≤ w.heap.size) (o : Obj) : Below B w (W.alloc o) := h.trans ((below1' W o).mono (Nat.le_trans hB h.size))
theorem base_frozen2 {W w1 : World} (hb : Below W.heap.size W w1) : ∀ b o, b < W.heap.size → w1.frozen? ⟨b, o, none⟩ = W.frozen? ⟨b, o, none⟩ := fun b o h => by
  simp only [World.frozen?, hb.block b h]
end Go.Proofs.Ytfmmiafdlfdfoaa
