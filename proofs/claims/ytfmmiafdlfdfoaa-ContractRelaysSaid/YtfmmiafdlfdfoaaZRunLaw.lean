/- The plain law of the contract's ticks: what the duties keep. Conditions: those of each theorem. -/
import Derived.Test.YtfmmiafdlfdfoaaZTick
namespace Go.Proofs.Ytfmmiafdlfdfoaa
open Go.RowKit
/-- A belief with these duties. -/
def sD (D : List Duty) : BelV := ⟨-1, 0, 0, D, 0, false⟩
/-- The duties are in order and in range. -/
def okD (b : BldV) (car : Int) (D : List Duty) : Bool := stateB b car (sD D) && decide (D.length ≤ 64)
theorem okD_iff (b : BldV) (car : Int) (D : List Duty) : okD b car D = true ↔ stateB b car (sD D) = true ∧ D.length ≤ 64 := by simp [okD]
theorem valid_range (b : BldV) (h : validN b = 0) : 2 ≤ b.fl ∧ b.fl ≤ 32 ∧ 1 ≤ b.cars.length ∧ b.cars.length ≤ 8 := by
  unfold validN at h
  cases h1 : inAll 2 32 [b.fl]
  · rw [h1] at h; simp at h
  cases h2 : inAll 1 8 [(b.cars.length : Int)]
  · rw [h1, h2] at h; simp at h
  have := (inAll_one _ _ _).1 h1
  have := (inAll_one _ _ _).1 h2
  omega
theorem okD_nil (b : BldV) (car : Int) (hv : validN b = 0) (hc : inR 0 ((b.cars.length : Int) - 1) car = true) : okD b car [] = true := by
  have := valid_range b hv
  have := (inR_iff _ _ _).1 hc
  refine (okD_iff _ _ _).2 ⟨(stateB_iff b car _).2 ⟨(headB_iff b car _).2 ?_, by simp [sD], by simp [sD]⟩, by simp⟩
  refine ⟨hv, by omega, ?_, ?_, ?_, ?_, fun h => by cases h⟩
  · show (-1 : Int) ≤ -1 ∧ (-1 : Int) ≤ b.fl - 1; omega
  · show (0 : Int) ≤ 0 ∧ (0 : Int) ≤ 3; omega
  · show (0 : Int) ≤ 0 ∧ (0 : Int) ≤ 3; omega
  · show (0 : Int) ≤ 0 ∧ (0 : Int) ≤ 1000000; omega
theorem okD_head (b : BldV) (car : Int) (D E : List Duty) (h : headB b car (sD D) = true) : headB b car (sD E) = true := by
  obtain ⟨h1, h2, h3, h4, h5, h6, _⟩ := (headB_iff b car _).1 h
  exact (headB_iff b car _).2 ⟨h1, h2, h3, h4, h5, h6, fun h => by cases h⟩
theorem okD_parts (b : BldV) (car : Int) (D : List Duty) (h : okD b car D = true) : D.length ≤ 64 ∧ (∀ d ∈ D, 0 ≤ d.2.2 ∧ d.2.2 ≤ dlOf b car) ∧ D.Pairwise (fun e d => key e < key d) ∧ ∀ e ∈ D, 1 ≤ e.2.1 ∧ e.2.1 ≤ 2 := by
  obtain ⟨h1, h2⟩ := (okD_iff _ _ _).1 h
  obtain ⟨_, h3, h4⟩ := (stateB_iff b car _).1 h1
  refine ⟨h2, fun d hd => ((dutyB_iff b _ d).1 (h3 d hd)).2, h4, fun d hd => ?_⟩
  have := ((dutyB_iff b _ d).1 (h3 d hd)).1
  obtain ⟨_, _, a1, a2⟩ := callB_range _ _ _ this
  exact ⟨a1, a2⟩
theorem aged_state (b : BldV) (car : Int) (D : List Duty) (c : CS) (h : stateB b car (sD D) = true) (hl : agedLate (dlOf b car) D = false) : stateB b car (sD (agedL c D)) = true := by
  have h2 := aged_du b car (sD D) c h
  have h3 : (agedV b car (sD D) c).du = agedL c D := by
    unfold agedV
    show (if agedLate (dlOf b car) D then [] else agedL c D) = _
    rw [hl]; rfl
  rw [h3] at h2
  obtain ⟨h1, _, _⟩ := (stateB_iff b car _).1 h
  exact (stateB_iff b car _).2 ⟨okD_head b car D _ h1, h2.1, h2.2.1⟩
theorem tickD_eq (b : BldV) (car : Int) (D : List Duty) (m : MarkV) (h : stateB b car (sD D) = true) (hl : agedLate (dlOf b car) D = false) : tickD b D m = (injectV b car (sD (agedL (showsV b.fl m.2) D)) m.1).du := by
  have hs := aged_state b car D (showsV b.fl m.2) h hl
  unfold tickD injectV
  rw [if_pos hs]
  exact inject_eq b car (sD (agedL (showsV b.fl m.2) D)) m.1 hs
theorem tick_ok (b : BldV) (car : Int) (D : List Duty) (m : MarkV) (h : okD b car D = true) (hl : agedLate (dlOf b car) D = false) : okD b car (tickD b D m) = true := by
  obtain ⟨h1, _⟩ := (okD_iff _ _ _).1 h
  have hs := aged_state b car D (showsV b.fl m.2) h1 hl
  have hi := inject_state b car _ m.1 hs
  have he := tickD_eq b car D m h1 hl
  obtain ⟨h2, h3, h4⟩ := (stateB_iff b car _).1 hi
  obtain ⟨h0, _, _⟩ := (stateB_iff b car _).1 h1
  refine (okD_iff _ _ _).2 ⟨(stateB_iff b car _).2 ⟨okD_head b car D _ h0, ?_, ?_⟩, ?_⟩
  · show ∀ d ∈ tickD b D m, _; rw [he]; exact h3
  · show (tickD b D m).Pairwise _; rw [he]; exact h4
  · rw [he]; exact inj_len b car _ _
/-- The first tick in which the contract is broken, or -1; the duties behind the last one. -/
def runV (b : BldV) (lim : Int) : Nat → List Duty → List MarkV → Int × List Duty
  | _, D, [] => (-1, D)
  | i, D, m :: l => if agedLate lim D then (i, []) else runV b lim (i + 1) (tickD b D m) l
def properB (b : BldV) (car : Int) (n : Nat) : Bool := decide (validN b = 0) && decide (0 ≤ car) && decide (car < (b.cars.length : Int)) && decide (n ≤ 5000)
def runB (b : BldV) (car : Int) (L : List MarkV) : Int × List Duty := if properB b car L.length then runV b (dlOf b car) 0 [] L else (-1, [])
theorem runV_late (b : BldV) (lim : Int) (i : Nat) (D : List Duty) (L : List MarkV) (m : MarkV) (h : L[i]? = some m) (hl : agedLate lim D = true) : runV b lim i D (L.drop i) = ((i : Int), []) := by
  obtain ⟨hi, rfl⟩ := List.getElem?_eq_some_iff.1 h
  rw [List.drop_eq_getElem_cons hi, runV, hl]; rfl
theorem runV_step (b : BldV) (lim : Int) (i : Nat) (D : List Duty) (L : List MarkV) (m : MarkV) (h : L[i]? = some m) (hl : agedLate lim D = false) : runV b lim i D (L.drop i) = runV b lim (i + 1) (tickD b D m) (L.drop (i + 1)) := by
  obtain ⟨hi, rfl⟩ := List.getElem?_eq_some_iff.1 h
  rw [List.drop_eq_getElem_cons hi, runV, hl]; rfl
theorem properB_car (b : BldV) (car : Int) (n : Nat) (h : properB b car n = true) : validN b = 0 ∧ inR 0 ((b.cars.length : Int) - 1) car = true ∧ n ≤ 5000 := by
  unfold properB at h
  simp only [Bool.and_eq_true, decide_eq_true_eq] at h
  exact ⟨h.1.1.1, (inR_iff _ _ _).2 (by omega), h.2⟩
theorem runV_len (b : BldV) (car : Int) : ∀ (L : List MarkV) (i : Nat) (D : List Duty), okD b car D = true → (runV b (dlOf b car) i D L).2.length ≤ 64
  | [], _, D, h => ((okD_iff _ _ _).1 h).2
  | m :: L, i, D, h => by
    unfold runV
    cases hl : agedLate (dlOf b car) D
    · exact runV_len b car L (i + 1) _ (tick_ok b car D m h hl)
    · exact Nat.zero_le _
theorem runB_len (b : BldV) (car : Int) (L : List MarkV) : (runB b car L).2.length ≤ 64 := by
  unfold runB
  cases h : properB b car L.length
  · exact Nat.zero_le _
  · obtain ⟨h1, h2, _⟩ := properB_car _ _ _ h
    exact runV_len b car L 0 [] (okD_nil b car h1 h2)
theorem runV_range (b : BldV) (lim : Int) : ∀ (L : List MarkV) (i : Nat) (D : List Duty), -1 ≤ (runV b lim i D L).1 ∧ (runV b lim i D L).1 < (i + L.length : Nat)
  | [], i, D => ⟨Int.le_refl _, by show (-1 : Int) < _; omega⟩
  | m :: L, i, D => by
    unfold runV
    cases hl : agedLate lim D
    · have := runV_range b lim L (i + 1) (tickD b D m)
      rw [List.length_cons]
      exact ⟨this.1, by have := this.2; simp only [Bool.false_eq_true, if_false]; omega⟩
    · rw [List.length_cons]
      simp only [if_true]
      omega
theorem runB_range (b : BldV) (car : Int) (L : List MarkV) : -1 ≤ (runB b car L).1 ∧ ((runB b car L).1 = -1 ∨ (runB b car L).1 < (L.length : Int)) := by
  unfold runB
  cases h : properB b car L.length
  · exact ⟨Int.le_refl _, Or.inl rfl⟩
  · have := runV_range b (dlOf b car) L 0 []
    simp only [if_true]
    omega
theorem runV_ge (b : BldV) (lim : Int) : ∀ (L : List MarkV) (i : Nat) (D : List Duty), (runV b lim i D L).1 = -1 ∨ (i : Int) ≤ (runV b lim i D L).1
  | [], _, _ => Or.inl rfl
  | m :: L, i, D => by
    unfold runV
    cases hl : agedLate lim D
    · rcases runV_ge b lim L (i + 1) (tickD b D m) with h | h
      · exact Or.inl h
      · refine Or.inr ?_
        simp only [Bool.false_eq_true, if_false]
        omega
    · exact Or.inr (Int.le_refl _)
theorem runV_append (b : BldV) (lim : Int) : ∀ (L M : List MarkV) (i : Nat) (D : List Duty), (runV b lim i D L).1 = -1 → runV b lim i D (L ++ M) = runV b lim (i + L.length) (runV b lim i D L).2 M
  | [], _, _, _, _ => rfl
  | m :: L, M, i, D, h => by
    have e : ∀ l, runV b lim i D (m :: l) = if agedLate lim D then ((i : Int), []) else runV b lim (i + 1) (tickD b D m) l := fun _ => rfl
    rw [List.cons_append, e, e]
    rw [e] at h
    cases hl : agedLate lim D
    · rw [hl] at h
      simp only [Bool.false_eq_true, if_false] at h ⊢
      rw [runV_append b lim L M (i + 1) _ h, List.length_cons, show i + 1 + L.length = i + (L.length + 1) by omega]
    · rw [hl] at h
      simp only [if_true] at h
      omega
theorem properB_of (b : BldV) (n : Nat) (hv : validN b = 0) (hn : n ≤ 5000) : properB b 0 n = true := by
  have := valid_range b hv
  unfold properB
  simp only [Bool.and_eq_true, decide_eq_true_eq]
  omega
theorem runB_of (b : BldV) (L : List MarkV) (hv : validN b = 0) (hn : L.length ≤ 5000) : runB b 0 L = runV b (dlOf b 0) 0 [] L := by
  unfold runB
  rw [properB_of b _ hv hn]; rfl
theorem runB_snoc (b : BldV) (L : List MarkV) (k : Nat) (D : List Duty) (m : MarkV) (hv : validN b = 0) (hn : L.length ≤ 5000) (hm : L[k]? = some m) (h : runB b 0 (L.take k) = (-1, D)) (hl : agedLate (dlOf b 0) D = false) : runB b 0 (L.take (k + 1)) = (-1, tickD b D m) := by
  have hk := (List.getElem?_eq_some_iff.1 hm).1
  rw [runB_of b _ hv (by simp; omega)] at h ⊢
  rw [List.take_add_one, hm]
  show runV b _ 0 [] (L.take k ++ [m]) = _
  rw [runV_append b _ _ _ _ _ (by rw [h]), h]
  unfold runV
  rw [hl]
  rfl
end Go.Proofs.Ytfmmiafdlfdfoaa
