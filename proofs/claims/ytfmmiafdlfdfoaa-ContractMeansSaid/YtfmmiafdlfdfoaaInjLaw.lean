/- The plain law of insertion: a duty laid into its place of a row in order. Conditions: those of each theorem. -/
import Derived.Test.YtfmmiafdlfdfoaaBsf
namespace Go.Proofs.Ytfmmiafdlfdfoaa
open Go.RowKit
def insK (l : List Duty) (d : Duty) : List Duty := if l.any (fun e => key e == key d) then l else l.filter (fun e => key e < key d) ++ d :: l.filter (fun e => key d < key e)
def insF (l : List Duty) (ps : List (Int × Int)) : List Duty := ps.foldl (fun l p => insK l (p.1, p.2, 0)) l
theorem insF_snoc (l : List Duty) (ps : List (Int × Int)) (k : Nat) (p : Int × Int) (h : ps[k]? = some p) : insF l (ps.take (k + 1)) = insK (insF l (ps.take k)) (p.1, p.2, 0) := by
  rw [List.take_add_one, h]
  simp [insF]
theorem insK_found (l : List Duty) (d e : Duty) (i : Nat) (h : l[i]? = some e) (hk : key e = key d) : insK l d = l := by
  unfold insK
  rw [if_pos (List.any_eq_true.2 ⟨e, List.mem_of_getElem? h, by simpa using hk⟩)]
theorem insK_new (l : List Duty) (d : Duty) (i : Nat) (hs : l.Pairwise (fun e d => key e < key d)) (h1 : ∀ (t : Nat) e, l[t]? = some e → t < i → key e < key d) (h2 : ∀ (t : Nat) e, l[t]? = some e → i ≤ t → key d ≤ key e) (hf : ¬ ∃ e, l[i]? = some e ∧ key e = key d) : insK l d = l.take i ++ d :: l.drop i := by
  have h3 : ∀ (t : Nat) e, l[t]? = some e → i ≤ t → key d < key e := by
    intro t e he ht
    have h := h2 t e he ht
    rcases Int.lt_or_eq_of_le h with h | h
    · exact h
    · exfalso
      obtain ⟨x, hx⟩ : ∃ x, l[i]? = some x := ⟨_, List.getElem?_eq_getElem (by have := (List.getElem?_eq_some_iff.1 he).1; omega)⟩
      have hx2 := h2 i x hx (Nat.le_refl _)
      by_cases hti : i < t
      · have := sorted_lt hs hx he hti; omega
      · obtain rfl : t = i := by omega
        exact hf ⟨e, he, h.symm⟩
  have hn : l.any (fun e => key e == key d) = false := by
    rw [List.any_eq_false]
    intro e he
    obtain ⟨t, ht⟩ := List.getElem?_of_mem he
    by_cases h : t < i
    · have := h1 t e ht h; simp; omega
    · have := h3 t e ht (by omega); simp; omega
  unfold insK
  rw [hn, if_neg (by simp)]
  have ha : ∀ e ∈ l.take i, key e < key d := fun e he => by
    obtain ⟨t, ht⟩ := List.getElem?_of_mem he
    rw [List.getElem?_take] at ht
    split at ht
    · rename_i h; exact h1 t e ht h
    · cases ht
  have hb : ∀ e ∈ l.drop i, key d < key e := fun e he => by
    obtain ⟨t, ht⟩ := List.getElem?_of_mem he
    rw [List.getElem?_drop] at ht
    exact h3 (i + t) e ht (by omega)
  have e1 : l.filter (fun e => decide (key e < key d)) = l.take i := by
    conv => lhs; rw [← List.take_append_drop i l]
    rw [List.filter_append, List.filter_eq_self.2 (fun e he => by simpa using ha e he), List.filter_eq_nil_iff.2 (fun e he => by have := hb e he; simp; omega), List.append_nil]
  have e2 : l.filter (fun e => decide (key d < key e)) = l.drop i := by
    conv => lhs; rw [← List.take_append_drop i l]
    have a1 : (l.take i).filter (fun e => decide (key d < key e)) = [] := List.filter_eq_nil_iff.2 (fun e he => by have := ha e he; simp; omega)
    have a2 : (l.drop i).filter (fun e => decide (key d < key e)) = l.drop i := List.filter_eq_self.2 (fun e he => by simpa using hb e he)
    rw [List.filter_append, a1, a2, List.nil_append]
  rw [e1, e2]
theorem insK_mem (l : List Duty) (d x : Duty) : x ∈ insK l d → x ∈ l ∨ x = d := by
  unfold insK
  split
  · exact fun h => .inl h
  · intro h
    rcases List.mem_append.1 h with h | h
    · exact .inl (List.mem_filter.1 h).1
    · rcases List.mem_cons.1 h with h | h
      · exact .inr h
      · exact .inl (List.mem_filter.1 h).1
theorem insK_pair (l : List Duty) (d : Duty) (hs : l.Pairwise (fun e d => key e < key d)) : (insK l d).Pairwise (fun e d => key e < key d) := by
  unfold insK
  split
  · exact hs
  · refine List.pairwise_append.2 ⟨hs.filter _, List.pairwise_cons.2 ⟨fun x hx => by simpa using (List.mem_filter.1 hx).2, hs.filter _⟩, fun a ha b hb => ?_⟩
    have h1 : key a < key d := by simpa using (List.mem_filter.1 ha).2
    rcases List.mem_cons.1 hb with rfl | hb
    · exact h1
    · have h2 : key d < key b := by simpa using (List.mem_filter.1 hb).2
      omega
theorem insK_len (l : List Duty) (d : Duty) : (insK l d).length ≤ l.length + 1 := by
  by_cases h : l.any (fun e => key e == key d) = true
  · unfold insK; rw [if_pos h]; omega
  · unfold insK
    rw [if_neg h]
    have : ∀ l : List Duty, (l.filter (fun e => key e < key d)).length + (l.filter (fun e => key d < key e)).length ≤ l.length := by
      intro l
      induction l with
      | nil => simp
      | cons a l ih =>
        simp only [List.filter_cons]
        by_cases h1 : key a < key d
        · have h2 : ¬ key d < key a := by omega
          simp [h1, h2] at ih ⊢; omega
        · by_cases h2 : key d < key a
          · simp [h1, h2] at ih ⊢; omega
          · simp [h1, h2] at ih ⊢; omega
    have := this l
    simp only [List.length_append, List.length_cons]
    omega
theorem insF_ok (l : List Duty) (ps : List (Int × Int)) (hs : l.Pairwise (fun e d => key e < key d)) (hk : ∀ e ∈ l, 1 ≤ e.2.1 ∧ e.2.1 ≤ 2) (hp : ∀ p ∈ ps, 1 ≤ p.2 ∧ p.2 ≤ 2) : ∀ k, (insF l (ps.take k)).Pairwise (fun e d => key e < key d) ∧ (∀ e ∈ insF l (ps.take k), 1 ≤ e.2.1 ∧ e.2.1 ≤ 2) ∧ (insF l (ps.take k)).length ≤ l.length + k := by
  intro k
  induction k with
  | zero => exact ⟨hs, hk, Nat.le_refl _⟩
  | succ k ih =>
    cases h : ps[k]? with
    | none => rw [List.take_add_one, h]; simp only [Option.toList_none, List.append_nil]; exact ⟨ih.1, ih.2.1, by omega⟩
    | some p =>
      rw [insF_snoc l ps k p h]
      refine ⟨insK_pair _ _ ih.1, fun e he => ?_, ?_⟩
      · rcases insK_mem _ _ _ he with h1 | rfl
        · exact ih.2.1 e h1
        · exact hp p (List.mem_of_getElem? h)
      · have := insK_len (insF l (ps.take k)) (p.1, p.2, 0)
        omega
theorem duty_split (L : List Duty) : ∀ (j : Nat) v, (dutyCells L)[j]? = some v → ∃ (i : Nat) (d : Duty) (r : Nat), L[i]? = some d ∧ d.cells[r]? = some v ∧ j = i * 3 + r := by
  induction L with
  | nil => intro j v h; simp [dutyCells] at h
  | cons d L ih =>
    intro j v h
    simp only [dutyCells, List.flatMap_cons] at h
    by_cases hj : j < 3
    · rw [List.getElem?_append_left (by simpa using hj)] at h
      exact ⟨0, d, j, rfl, h, by omega⟩
    · rw [List.getElem?_append_right (by simp; omega)] at h
      obtain ⟨i, e, r, h1, h2, h3⟩ := ih (j - 3) v (by unfold dutyCells; simpa using h)
      exact ⟨i + 1, e, r, by simpa using h1, h2, by omega⟩
end Go.Proofs.Ytfmmiafdlfdfoaa
