/- The walks over the made buildings of chapters 15 and 18. Conditions: two bytes. · The walk over the made building of chapter 18. Conditions: two bytes. -/
import Derived.Test.YtgoojlfpngmdlaaZSample
namespace Go.Proofs.Ytgoojlfpngmdlaa
open Go.RowKit
attribute [local go_sem] run_store_float

theorem row_upd {w : World} {base g n cap size : Nat} {e : TypeId} {xs : List Value} (h : w.ownsRow base e size (.slice (some ⟨g, 0, none⟩) n cap) n xs) (k : Nat) (u : Value) :
    (w.setCell ⟨g, k, none⟩ u).ownsRow base e size (.slice (some ⟨g, 0, none⟩) n cap) n (xs.set k u) := by
  obtain ⟨h1, h2⟩ := h
  refine ⟨by simpa using h1, ?_⟩
  rcases h2 with ⟨h2, _⟩ | ⟨g', cap', cur, hv, hg, hh, hn, hm, hs, ht⟩
  · simp at h2
  · simp at hv
    obtain ⟨rfl, rfl⟩ := hv
    obtain ⟨hlt, hkk⟩ := Array.getElem?_eq_some_iff.1 hh
    refine .inr ⟨g, cap, cur.setIfInBounds k u, rfl, hg, ?_, hn, hm, by simpa using hs, ?_⟩
    · show (w.heap.modify g _)[g]? = _
      rw [Array.getElem?_eq_getElem (by rw [Array.size_modify]; exact hlt), Array.getElem_modify_self, hkk]
      simp
    · rw [Array.toList_setIfInBounds, ← ht, List.take_set]
theorem carCells_len (l : List CarV) : (carCells l).length = l.length * 9 := by
  induction l with
  | nil => rfl
  | cons c l ih => simp only [carCells, List.flatMap_cons, List.length_append] at *; rw [ih]; simp [CarV.cells]; omega
theorem carCells_at (l : List CarV) (i : Nat) (c : CarV) (h : l[i]? = some c) (j : Nat) (u : Value) (hu : c.cells[j]? = some u) : (carCells l)[i * 9 + j]? = some u := by
  induction l generalizing i with
  | nil => simp at h
  | cons q l ih =>
    have hj : j < 9 := (List.getElem?_eq_some_iff.1 hu).1
    show (q.cells ++ carCells l)[i * 9 + j]? = some u
    cases i with
    | zero =>
      simp at h; subst h
      rw [List.getElem?_append_left (by simp [CarV.cells]; omega)]
      simpa using hu
    | succ i =>
      rw [List.getElem?_append_right (by simp [CarV.cells]; omega)]
      have : (i + 1) * 9 + j - q.cells.length = i * 9 + j := by simp [CarV.cells]; omega
      rw [this]
      exact ih i (by simpa using h)
theorem carCells_set (l : List CarV) (i j : Nat) (c c' : CarV) (u : Value) (hj : j < 9) (hi : l[i]? = some c) (h : c'.cells = c.cells.set j u) : carCells (l.set i c') = (carCells l).set (i * 9 + j) u := by
  induction l generalizing i with
  | nil => simp at hi
  | cons q l ih =>
    cases i with
    | zero =>
      simp at hi; subst hi
      show c'.cells ++ carCells l = (q.cells ++ carCells l).set (0 * 9 + j) u
      rw [List.set_append_left _ _ (by simp [CarV.cells]; omega), h, Nat.zero_mul, Nat.zero_add]
    | succ i =>
      show q.cells ++ carCells (l.set i c') = (q.cells ++ carCells l).set ((i + 1) * 9 + j) u
      rw [List.set_append_right _ _ (by simp [CarV.cells]; omega), ih i (by simpa using hi)]
      congr 2
      simp [CarV.cells]; omega
def c15 (t : Nat) (fl : Int) (i : Nat) : CarV := ⟨100, 2, 6, 5, 1 + (t : Int) % 3, 1 + (t : Int) / 3 % 3, 1 + (t : Int) / 9 % 3, 1 + (t : Int) / 9 % 3 + (t : Int) / 27 % 5, ((i : Int) + t) % fl⟩
def part15 (t : Nat) (fl : Int) (k i : Nat) : List CarV := (List.range k).map fun j => if j < i then c15 t fl j else carS j fl
theorem part15_at (t : Nat) (fl : Int) (k i : Nat) (h : i < k) : (part15 t fl k i)[i]? = some (carS i fl) := by simp [part15, h]
theorem part15_set (t : Nat) (fl : Int) (k i : Nat) : (part15 t fl k i).set i (c15 t fl i) = part15 t fl k (i + 1) := by
  apply List.ext_getElem?
  intro j
  by_cases hj : j < k
  · by_cases e : i = j
    · subst e; simp [part15, hj]
    · have : (j < i + 1) = (j < i) := propext ⟨fun h => by omega, fun h => by omega⟩
      rw [List.getElem?_set_ne e]
      simp [part15, hj, this]
  · rw [List.getElem?_eq_none (by simp [part15]; omega), List.getElem?_eq_none (by simp [part15]; omega)]
abbrev bldP (fl pk : Int) (v : Value) : List Value := [.int .i64 fl, .int .i64 1, .int .i64 4000, .int .i64 pk, .float .f64 4591870180066957722, .float .f64 4605380978949069210, .float .f64 4607632778762754458, v]
theorem Blk.other {W : World} {b g i : Nat} {xs : List Value} (h : Blk W b xs) (hne : b ≠ g) (u : Value) : Blk (W.setCell ⟨g, i, none⟩ u) b xs := by
  obtain ⟨t, h⟩ := h
  exact ⟨t, (Below.heap_setCell _ _ _ _ hne).trans h⟩
theorem row_fr {w : World} {base g n cap size : Nat} {e : TypeId} {xs : List Value} (h : w.ownsRow base e size (.slice (some ⟨g, 0, none⟩) n cap) n xs) (j : Nat) : w.frozen? ⟨g, j, none⟩ = false := by
  rcases h.2 with ⟨h2, _⟩ | ⟨g', cap', cur, hv, hg, hh, _⟩
  · simp at h2
  · simp at hv
    obtain ⟨rfl, rfl⟩ := hv
    simp [World.frozen?, hh]
theorem set_step (l : List CarV) (i : Nat) (c c' : CarV) (j : Nat) (u : Value) (hi : i < l.length) (hj : j < 9) (h : c'.cells = c.cells.set j u) : carCells (l.set i c') = (carCells (l.set i c)).set (i * 9 + j) u := by
  have := carCells_set (l.set i c) i j c c' u hj (by simp [hi]) h
  rwa [List.set_set] at this
end Go.Proofs.Ytgoojlfpngmdlaa
namespace Go.Proofs.Ytgoojlfpngmdlaa
open Go.RowKit
attribute [local go_sem] run_store_float
theorem row_base {w : World} {base B : Nat} {e : TypeId} {size : Nat} {v : Value} {n : Nat} {xs : List Value} (h : w.ownsRow base e size v n xs) (hB : B ≤ base) : w.ownsRow B e size v n xs := by
  obtain ⟨h1, h2⟩ := h
  refine ⟨h1, ?_⟩
  rcases h2 with h2 | ⟨g, cap, cur, hv, hg, r⟩
  · exact .inl h2
  · exact .inr ⟨g, cap, cur, hv, Nat.le_trans hB hg, r⟩
def c18 (t : Nat) (fl : Int) (i : Nat) : CarV := ⟨1 + (t : Int) % 16, 2, 6, 5, 1 + (t : Int) % 3, 1 + (t : Int) / 3 % 3, 1 + (t : Int) / 9 % 3, 1 + (t : Int) / 9 % 3 + (t : Int) / 27 % 5, ((i : Int) + t) % fl⟩
def part18 (t : Nat) (fl : Int) (k i : Nat) : List CarV := (List.range k).map fun j => if j < i then c18 t fl j else c15 t fl j
theorem part18_at (t : Nat) (fl : Int) (k i : Nat) (h : i < k) : (part18 t fl k i)[i]? = some (c15 t fl i) := by simp [part18, h]
theorem part18_set (t : Nat) (fl : Int) (k i : Nat) : (part18 t fl k i).set i (c18 t fl i) = part18 t fl k (i + 1) := by
  apply List.ext_getElem?
  intro j
  by_cases hj : j < k
  · by_cases e : i = j
    · subst e; simp [part18, hj]
    · have : (j < i + 1) = (j < i) := propext ⟨fun h => by omega, fun h => by omega⟩
      rw [List.getElem?_set_ne e]
      simp [part18, hj, this]
  · rw [List.getElem?_eq_none (by simp [part18]; omega), List.getElem?_eq_none (by simp [part18]; omega)]
/-- The made building: floors, cars. -/
def fl18 (n : Nat) : Int := 2 + (n : Int) % 5
def k18 (n : Nat) : Nat := 1 + n / 5 % 3
def cars18 (n t : Nat) : List CarV := (List.range (k18 n)).map (c18 t (fl18 n))
def b18 (n t : Nat) : BldV := ⟨fl18 n, 1, 4000, 1 + (t : Int) % 7, 4591870180066957722, 4605380978949069210, 4607632778762754458, cars18 n t⟩
end Go.Proofs.Ytgoojlfpngmdlaa
