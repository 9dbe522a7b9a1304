/- The walk over the made building of chapter 18. Conditions: two bytes. -/
import Derived.Test.YtgoojlfpngmdlaaZBld15
namespace Go.Proofs.Ytgoojlfpngmdlaa
open Go.RowKit
attribute [local go_sem] run_store_float
theorem row_base {w : World} {base B : Nat} {e : TypeId} {size : Nat} {v : Value} {n : Nat} {xs : List Value} (h : w.ownsRow base e size v n xs) (hB : B ≤ base) : w.ownsRow B e size v n xs := by
  obtain ⟨h1, h2⟩ := h
  refine ⟨h1, ?_⟩
  rcases h2 with h2 | ⟨g, cap, cur, hv, hg, r⟩
  · exact .inl h2
  · exact .inr ⟨g, cap, cur, hv, Nat.le_trans hB hg, r⟩
def c18 (t : Nat) (fl : Int) (i : Nat) : CarV := ⟨1 + (t : Int) % 16, 2, 6, 5, 1 + (t : Int) % 3, 1 + (t : Int) / 3 % 3, 1 + (t : Int) / 9 % 3, 1 + (t : Int) / 9 % 3 + (t : Int) / 27 % 5, ((i : Int) + t) % fl⟩
def part18 (t : Nat) (fl : Int) (k i : Nat) : List CarV := (List.range k).map fun j => if j < i then c18 t fl j else c15 t fl j
theorem part18_at (t : Nat) (fl : Int) (k i : Nat) (h : i < k) : (part18 t fl k i)[i]? = some (c15 t fl i) := by simp [part18, h]
theorem part18_set (t : Nat) (fl : Int) (k i : Nat) : (part18 t fl k i).set i (c18 t fl i) = part18 t fl k (i + 1) := by
  apply List.ext_getElem?
  intro j
  by_cases hj : j < k
  · by_cases e : i = j
    · subst e; simp [part18, hj]
    · have : (j < i + 1) = (j < i) := propext ⟨fun h => by omega, fun h => by omega⟩
      rw [List.getElem?_set_ne e]
      simp [part18, hj, this]
  · rw [List.getElem?_eq_none (by simp [part18]; omega), List.getElem?_eq_none (by simp [part18]; omega)]
/-- The made building: floors, cars. -/
def fl18 (n : Nat) : Int := 2 + (n : Int) % 5
def k18 (n : Nat) : Nat := 1 + n / 5 % 3
def cars18 (n t : Nat) : List CarV := (List.range (k18 n)).map (c18 t (fl18 n))
def b18 (n t : Nat) : BldV := ⟨fl18 n, 1, 4000, 1 + (t : Int) % 7, 4591870180066957722, 4605380978949069210, 4607632778762754458, cars18 n t⟩
end Go.Proofs.Ytgoojlfpngmdlaa
