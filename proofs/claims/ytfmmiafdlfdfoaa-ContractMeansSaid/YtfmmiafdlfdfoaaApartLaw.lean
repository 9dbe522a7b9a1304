/- The plain law of ContractApart: calls do not influence each other. Conditions: those of each theorem. -/
import Derived.Test.YtfmmiafdlfdfoaaSane18
namespace Go.Proofs.Ytfmmiafdlfdfoaa
open Go.RowKit
/-- A mark with one call's injections alone. -/
def onlyM (p : Int × Int) (m : MarkV) : MarkV := (both m.1 (one p.1 p.2), m.2)
def onlyK (p : Int × Int) (L : List MarkV) (k : Nat) : List MarkV := (L.take k).map (onlyM p) ++ L.drop k
theorem onlyK_len (p : Int × Int) (L : List MarkV) (k : Nat) : (onlyK p L k).length = L.length := by simp [onlyK]; omega
theorem onlyK_zero (p : Int × Int) (L : List MarkV) : onlyK p L 0 = L := by simp [onlyK]
theorem onlyK_all (p : Int × Int) (L : List MarkV) : onlyK p L L.length = L.map (onlyM p) := by simp [onlyK]
theorem onlyK_at (p : Int × Int) (L : List MarkV) (k : Nat) (m : MarkV) (h : L[k]? = some m) : (onlyK p L k)[k]? = some m := by
  have hk := (List.getElem?_eq_some_iff.1 h).1
  unfold onlyK
  rw [List.getElem?_append_right (by simp; omega)]
  simp only [List.length_map, List.length_take]
  rw [Nat.min_eq_left (by omega), List.getElem?_drop, Nat.sub_self, Nat.add_zero]
  exact h
theorem onlyK_set (p : Int × Int) (L : List MarkV) (k : Nat) (m : MarkV) (h : L[k]? = some m) : (onlyK p L k).set k (onlyM p m) = onlyK p L (k + 1) := by
  obtain ⟨hk, rfl⟩ := List.getElem?_eq_some_iff.1 h
  unfold onlyK
  rw [List.set_append_right _ _ (by simp; omega)]
  simp only [List.length_map, List.length_take]
  rw [Nat.min_eq_left (by omega), Nat.sub_self, List.drop_eq_getElem_cons hk, List.set_cons_zero, List.take_add_one, List.getElem?_eq_getElem hk, Option.toList_some, List.map_append, List.append_assoc]
  rfl
theorem has_one_nat : ∀ k : Nat, k < 32 → ∀ j : Nat, j < 32 → has (one (k : Int) 1) (j : Int) 1 = decide (k = j) ∧ has (one (k : Int) 2) (j : Int) 2 = decide (k = j) ∧ has (one (k : Int) 1) (j : Int) 2 = false ∧ has (one (k : Int) 2) (j : Int) 1 = false := by decide +kernel
theorem has_one (p q : Int × Int) (c : CS) (b : CS) (hp : p ∈ listC b) (hq : q ∈ listC b) : has (both c (one p.1 p.2)) q.1 q.2 = (has c q.1 q.2 && decide (p = q)) := by
  obtain ⟨k, hk, h1, h2, _⟩ := listC_mem _ p hp
  obtain ⟨j, hj, g1, g2, _⟩ := listC_mem _ q hq
  obtain ⟨p1, p2⟩ := p
  obtain ⟨q1, q2⟩ := q
  simp only at h1 h2 g1 g2 ⊢
  subst h1 g1
  rw [has_both _ _ j q2 hj g2]
  obtain ⟨e1, e2, e3, e4⟩ := has_one_nat k hk j hj
  congr 1
  rcases h2 with rfl | rfl <;> rcases g2 with rfl | rfl
  · rw [e1]; simp; omega
  · rw [e3]; simp
  · rw [e4]; simp
  · rw [e2]; simp; omega
theorem follow_only (b : BldV) (lim : Int) (h : CS) (p q : Int × Int) (hp : p ∈ listC h) (hq : q ∈ listC h) : ∀ (L : List MarkV) (i : Nat) (g : Int), (p = q → followV b lim q.1 q.2 i g (L.map (onlyM p)) = followV b lim q.1 q.2 i g L) ∧ (p ≠ q → g < 0 → (followV b lim q.1 q.2 i g (L.map (onlyM p))).1 = -1)
  | [], _, _ => ⟨fun _ => rfl, fun _ _ => rfl⟩
  | m :: L, i, g => by
    have e : ∀ l, followV b lim q.1 q.2 i g (m :: l) = if 0 ≤ g ∧ lim < (i : Int) - g then ((i : Int), g) else followV b lim q.1 q.2 (i + 1) (stepG b q.1 q.2 i g m) l := fun _ => rfl
    have e2 : ∀ l, followV b lim q.1 q.2 i g (onlyM p m :: l) = if 0 ≤ g ∧ lim < (i : Int) - g then ((i : Int), g) else followV b lim q.1 q.2 (i + 1) (stepG b q.1 q.2 i g (onlyM p m)) l := fun _ => rfl
    have hs : stepG b q.1 q.2 i g (onlyM p m) = if (if decide (0 ≤ g) && has (showsV b.fl m.2) q.1 q.2 then -1 else g) < 0 ∧ (has m.1 q.1 q.2 && decide (p = q)) = true then (i : Int) else (if decide (0 ≤ g) && has (showsV b.fl m.2) q.1 q.2 then -1 else g) := by
      have h1 := has_one p q m.1 h hp hq
      have h2 : has (onlyM p m).1 q.1 q.2 = (has m.1 q.1 q.2 && decide (p = q)) := h1
      have h3 : (onlyM p m).2 = m.2 := rfl
      unfold stepG
      simp only [h2, h3]
    rw [List.map_cons]
    refine ⟨fun hpq => ?_, fun hpq hg => ?_⟩
    · rw [e, e2, hs]
      have hs2 : stepG b q.1 q.2 i g m = if (if decide (0 ≤ g) && has (showsV b.fl m.2) q.1 q.2 then -1 else g) < 0 ∧ has m.1 q.1 q.2 = true then (i : Int) else (if decide (0 ≤ g) && has (showsV b.fl m.2) q.1 q.2 then -1 else g) := rfl
      rw [decide_eq_true hpq, Bool.and_true, ← hs2, (follow_only b lim h p q hp hq L (i + 1) _).1 hpq]
    · rw [e2, if_neg (by omega)]
      have h0 : stepG b q.1 q.2 i g (onlyM p m) < 0 := by
        rw [hs, decide_eq_false hpq, Bool.and_false, if_neg (by simp)]
        split <;> omega
      exact (follow_only b lim h p q hp hq L (i + 1) _).2 hpq h0
theorem run_fold (b : BldV) (L : List MarkV) (hv : validN b = 0) (hn : L.length ≤ 5000) : (runB b 0 L).1 = foldF (fun p => (followV b (dlOf b 0) p.1 p.2 0 (-1) L).1) (listC (hallC b)) (-1) := by
  rw [← ref_check]
  unfold refCheckB
  rw [properB_of b _ hv hn]
  rfl
theorem run_only (b : BldV) (L : List MarkV) (p : Int × Int) (hp : p ∈ listC (hallC b)) (hv : validN b = 0) (hn : L.length ≤ 5000) : (runB b 0 (L.map (onlyM p))).1 = (followV b (dlOf b 0) p.1 p.2 0 (-1) L).1 := by
  rw [run_fold b _ hv (by simpa using hn)]
  have hpp := (follow_only b (dlOf b 0) _ p p hp hp L 0 (-1)).1 rfl
  have hno : ∀ q ∈ listC (hallC b), q ≠ p → (followV b (dlOf b 0) q.1 q.2 0 (-1) (L.map (onlyM p))).1 = -1 := fun q hq hne => (follow_only b (dlOf b 0) _ p q hp hq L 0 (-1)).2 (fun h => hne h.symm) (by omega)
  rcases followV_ge b (dlOf b 0) p.1 p.2 L 0 (-1) with h | h
  · rw [h]
    refine foldF_none _ _ fun q hq => ?_
    by_cases hqp : q = p
    · subst hqp
      show (followV b (dlOf b 0) q.1 q.2 0 (-1) (L.map (onlyM q))).1 < 0
      rw [hpp, h]; omega
    · show (followV b (dlOf b 0) q.1 q.2 0 (-1) (L.map (onlyM p))).1 < 0
      rw [hno q hq hqp]; omega
  · rw [← hpp]
    have hm := foldF_min (fun q => (followV b (dlOf b 0) q.1 q.2 0 (-1) (L.map (onlyM p))).1) (listC (hallC b)) p hp (by show 0 ≤ (followV b (dlOf b 0) p.1 p.2 0 (-1) (L.map (onlyM p))).1; rw [hpp]; omega) (fun q hq => by
      by_cases hqp : q = p
      · subst hqp; right; exact Int.le_refl _
      · left
        show (followV b (dlOf b 0) q.1 q.2 0 (-1) (L.map (onlyM p))).1 < 0
        rw [hno q hq hqp]; omega)
    exact hm
/-- What the law's loop finds. -/
def apartF (b : BldV) (L : List MarkV) (all : List (Int × Int)) : Int := all.foldl (fun a p => firstI a (runB b 0 (L.map (onlyM p))).1) (-1)
theorem apartF_snoc (b : BldV) (L : List MarkV) (all : List (Int × Int)) (i : Nat) (p : Int × Int) (h : all[i]? = some p) : apartF b L (all.take (i + 1)) = firstI (apartF b L (all.take i)) (runB b 0 (L.map (onlyM p))).1 := by
  rw [List.take_add_one, h]
  simp [apartF]
theorem apart_law (b : BldV) (L : List MarkV) (hv : validN b = 0) (hn : L.length ≤ 5000) : (runB b 0 L).1 = apartF b L (listC (hallC b)) := by
  rw [run_fold b L hv hn]
  exact foldF_ext _ _ _ _ fun p hp => (run_only b L p hp hv hn).symm
end Go.Proofs.Ytfmmiafdlfdfoaa
