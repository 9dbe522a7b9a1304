/- The plain laws of ContractPrefix and ContractLimits. Conditions: those of each theorem. -/
import Derived.Test.YtfmmiafdlfdfoaaSane18
namespace Go.Proofs.Ytfmmiafdlfdfoaa
open Go.RowKit
theorem runV_stop (b : BldV) (lim : Int) : ∀ (L M : List MarkV) (i : Nat) (D : List Duty), 0 ≤ (runV b lim i D L).1 → runV b lim i D (L ++ M) = runV b lim i D L
  | [], _, _, _, h => by
    have : (0 : Int) ≤ -1 := h
    omega
  | m :: L, M, i, D, h => by
    have e : ∀ l, runV b lim i D (m :: l) = if agedLate lim D then ((i : Int), []) else runV b lim (i + 1) (tickD b D m) l := fun _ => rfl
    rw [List.cons_append, e, e]
    rw [e] at h
    cases hl : agedLate lim D
    · rw [hl] at h
      simp only [Bool.false_eq_true, if_false] at h ⊢
      exact runV_stop b lim L M (i + 1) _ h
    · rfl
/-- What comes later does not matter. -/
theorem pref_law (b : BldV) (L : List MarkV) (k : Nat) (hv : validN b = 0) (hn : L.length ≤ 5000) (hk : k ≤ L.length) :
    (0 ≤ (runB b 0 (L.take k)).1 → (runB b 0 (L.take k)).1 = (runB b 0 L).1) ∧ ((runB b 0 (L.take k)).1 < 0 → 0 ≤ (runB b 0 L).1 → (k : Int) ≤ (runB b 0 L).1) := by
  have h1 := runB_of b L hv hn
  have h2 := runB_of b (L.take k) hv (by simp; omega)
  have h3 : L = L.take k ++ L.drop k := (List.take_append_drop k L).symm
  refine ⟨fun h => ?_, fun h h0 => ?_⟩
  · rw [h2] at h ⊢
    rw [h1]
    conv => rhs; rw [h3]
    rw [runV_stop b _ _ _ _ _ h]
  · rw [h2] at h
    rw [h1] at h0 ⊢
    rw [h3] at h0 ⊢
    have hr := (runV_range b (dlOf b 0) (L.take k) 0 []).1
    rw [runV_append b _ _ _ _ _ (by omega)] at h0 ⊢
    have hl : 0 + (L.take k).length = k := by simp; omega
    rw [hl] at h0 ⊢
    rcases runV_ge b (dlOf b 0) (L.drop k) k (runV b (dlOf b 0) 0 [] (L.take k)).2 with h4 | h4
    · omega
    · exact h4
/-- Each duty began in a tick in which its call was injected. -/
def begB (L : List MarkV) (i : Nat) (D : List Duty) : Prop := ∀ d ∈ D, ∃ (u : Nat) (m : MarkV), (u : Int) = (i : Int) - 1 - d.2.2 ∧ L[u]? = some m ∧ has m.1 d.1 d.2.1 = true
theorem beg_step (b : BldV) (L : List MarkV) (i : Nat) (D : List Duty) (m : MarkV) (hm : L[i]? = some m) (h : begB L i D) : begB L (i + 1) (tickD b D m) := by
  intro d hd
  unfold tickD at hd
  rcases (insF_iff _ _ d (listC_pair _)).1 hd with hd | ⟨p, hp, rfl, _⟩
  · obtain ⟨e, he, rfl⟩ := agedL_mem _ _ _ hd
    obtain ⟨u, m', hu, hm', hh⟩ := h e he
    refine ⟨u, m', ?_, hm', hh⟩
    show (u : Int) = ((i + 1 : Nat) : Int) - 1 - (e.2.2 + 1)
    omega
  · obtain ⟨k, hk, h1, h2, h3⟩ := listC_mem _ p hp
    refine ⟨i, m, by show (i : Int) = ((i + 1 : Nat) : Int) - 1 - 0; omega, hm, ?_⟩
    show has m.1 p.1 p.2 = true
    rw [h1] at h3 ⊢
    rw [has_both _ _ k p.2 hk h2] at h3
    simp only [Bool.and_eq_true] at h3
    exact h3.1
theorem has_zero (f d : Int) : has (0#32, 0#32) f d = false := by simp [has, both]
theorem beg_run (b : BldV) (car : Int) (L : List MarkV) : ∀ (n i : Nat) (D : List Duty), L.length - i ≤ n → okD b car D = true → begB L i D → 0 ≤ (runV b (dlOf b car) i D (L.drop i)).1 → ∃ (u : Nat) (m : MarkV), (u : Int) = (runV b (dlOf b car) i D (L.drop i)).1 - dlOf b car - 1 ∧ L[u]? = some m ∧ m.1 ≠ (0#32, 0#32) := by
  intro n
  induction n with
  | zero =>
    intro i D hn _ _ h
    rw [List.drop_of_length_le (by omega)] at h
    have : (0 : Int) ≤ -1 := h
    omega
  | succ n ih =>
    intro i D hn hok hb h
    by_cases hi : i < L.length
    · have hm : L[i]? = some L[i] := List.getElem?_eq_getElem hi
      cases hl : agedLate (dlOf b car) D
      · rw [runV_step b _ i D L _ hm hl] at h ⊢
        exact ih (i + 1) _ (by omega) (tick_ok b car D _ hok hl) (beg_step b L i D _ hm hb) h
      · rw [runV_late b _ i D L _ hm hl]
        obtain ⟨d, hd, hdl⟩ := List.any_eq_true.1 hl
        have h1 : dlOf b car < d.2.2 + 1 := by simpa using hdl
        have h2 := (okD_parts b car D hok).2.1 d hd
        obtain ⟨u, m, hu, hm', hh⟩ := hb d hd
        refine ⟨u, m, by show (u : Int) = (i : Int) - dlOf b car - 1; omega, hm', fun h0 => ?_⟩
        rw [h0, has_zero] at hh
        cases hh
    · rw [List.drop_of_length_le (by omega)] at h
      have : (0 : Int) ≤ -1 := h
      omega
theorem pref_beg (b : BldV) (L : List MarkV) (hv : validN b = 0) (hn : L.length ≤ 5000) (h : 0 ≤ (runB b 0 L).1) : ∃ (u : Nat) (m : MarkV), (u : Int) = (runB b 0 L).1 - dlOf b 0 - 1 ∧ L[u]? = some m ∧ m.1 ≠ (0#32, 0#32) := by
  rw [runB_of b L hv hn] at h ⊢
  have hr := valid_range b hv
  exact beg_run b 0 L L.length 0 [] (by omega) (okD_nil b 0 hv ((inR_iff _ _ _).2 (by omega))) (fun d hd => by simp at hd) h
/-- A trace in which one call is injected in the first tick, and nothing is ever shown. -/
def limL (n : Nat) : List MarkV := (List.replicate n zM).set 0 ((1#32, 0#32), 0, 0, 0)
theorem shows_none (n : Int) : showsV n (0, 0, 0) = (0#32, 0#32) := by
  unfold showsV
  rw [if_neg]
  intro h
  have : (0 : Int) = 1 := h.2.1
  omega
theorem insF_nil (l : List Duty) : insF l [] = l := rfl
theorem both_zero (c : CS) : both (0#32, 0#32) c = (0#32, 0#32) := by simp [both]
theorem listC_zero : listC (0#32, 0#32) = [] := by decide +kernel
theorem agedL_zero (a : Int) : agedL (0#32, 0#32) [(0, 1, a)] = [(0, 1, a + 1)] := by
  unfold agedL
  rw [List.filter_cons]
  show List.map agedD (if (!has (0#32, 0#32) 0 1) = true then _ else _) = _
  rw [has_zero]
  rfl
theorem tick_zero (b : BldV) (a : Int) : tickD b [(0, 1, a)] zM = [(0, 1, a + 1)] := by
  unfold tickD
  show insF (agedL (showsV b.fl (0, 0, 0)) _) (listC (both (0#32, 0#32) (hallC b))) = _
  rw [shows_none, both_zero, listC_zero, insF_nil, agedL_zero]
theorem lim_run (b : BldV) (dl : Int) : ∀ (k i : Nat), 1 ≤ i → (i : Int) ≤ dl + 1 → dl + 1 < (i : Int) + k → (runV b dl i [(0, 1, (i : Int) - 1)] (List.replicate k zM)).1 = dl + 1 := by
  intro k
  induction k with
  | zero => intro i h1 h2 h3; omega
  | succ k ih =>
    intro i h1 h2 h3
    rw [List.replicate_succ]
    show (if agedLate dl [(0, 1, (i : Int) - 1)] then ((i : Int), []) else runV b dl (i + 1) (tickD b [(0, 1, (i : Int) - 1)] zM) (List.replicate k zM) : Int × List Duty).1 = _
    have hl : agedLate dl [(0, 1, (i : Int) - 1)] = decide (dl < (i : Int)) := by
      unfold agedLate
      simp
    rw [hl]
    by_cases h : dl < (i : Int)
    · rw [decide_eq_true h]
      show (i : Int) = _
      omega
    · rw [decide_eq_false h]
      simp only [Bool.false_eq_true, if_false]
      rw [tick_zero, show (i : Int) - 1 + 1 = ((i + 1 : Nat) : Int) - 1 by omega]
      exact ih (i + 1) (by omega) (by omega) (by omega)
theorem limL_cons (n : Nat) : limL (n + 1) = ((1#32, 0#32), 0, 0, 0) :: List.replicate n zM := by
  unfold limL
  rw [List.replicate_succ, List.set_cons_zero]
theorem limL_len (n : Nat) : (limL n).length = n := by unfold limL; simp
theorem lim_law (b : BldV) (n : Nat) (hv : validN b = 0) (hn : n ≤ 5000) (hd0 : 1 ≤ dlOf b 0) (hd : dlOf b 0 + 1 < (n : Int)) : (runB b 0 (limL n)).1 = dlOf b 0 + 1 := by
  rw [runB_of b _ hv (by rw [limL_len]; exact hn)]
  obtain ⟨m, rfl⟩ : ∃ m, n = m + 1 := ⟨n - 1, by omega⟩
  rw [limL_cons]
  have h1 : tickD b [] ((1#32, 0#32), 0, 0, 0) = [(0, 1, 0)] := by
    unfold tickD
    show insF (agedL _ []) (listC (both (1#32, 0#32) (hallC b))) = _
    rw [hall_one b hv]
    rfl
  show (runV b (dlOf b 0) 1 (tickD b [] ((1#32, 0#32), 0, 0, 0)) (List.replicate m zM)).1 = _
  rw [h1]
  exact lim_run b (dlOf b 0) m 1 (by omega) (by omega) (by omega)
theorem lim_keeps (b : BldV) (n : Nat) (hv : validN b = 0) (hn : n ≤ 5000) (hd0 : 1 ≤ dlOf b 0) (hd : dlOf b 0 + 1 < (n : Int)) : keepsB b 0 (limL n) = false := by
  unfold keepsB
  rw [lim_law b n hv hn hd0 hd, decide_eq_false (by omega), Bool.and_false]
theorem lim_long (b : BldV) (n : Nat) (hn : 5000 < n) : (runB b 0 (limL n)).1 = -1 ∧ keepsB b 0 (limL n) = false := by
  have h : properB b 0 (limL n).length = false := by
    rw [limL_len]
    unfold properB
    rw [decide_eq_false (by omega : ¬ n ≤ 5000), Bool.and_false]
  unfold keepsB runB
  rw [h]
  exact ⟨rfl, rfl⟩
end Go.Proofs.Ytfmmiafdlfdfoaa
