/- What keeps an image one: plain laws, no program in sight. Conditions: none. -/
import Derived.Test.YtgoojlfpngmdlaaZImage
namespace Go.Proofs.Ytgoojlfpngmdlaa
open Go.RowKit
theorem lessE_iff (x y : E5) : lessE x y = true ↔ x.1 < y.1 ∨ x.1 = y.1 ∧ x.2.1 < y.2.1 := by simp [lessE]
theorem lessE_trans {x y z : E5} (h : lessE x y = true) (h' : lessE y z = true) : lessE x z = true := by
  rw [lessE_iff] at *; omega
theorem lessE_not {x y : E5} (h : lessE x y = false) (hne : ¬ (x.1 = y.1 ∧ x.2.1 = y.2.1)) : lessE y x = true := by
  rw [← Bool.not_eq_true, lessE_iff] at h
  rw [lessE_iff]; omega
abbrev SortE (l : List E5) : Prop := List.Pairwise (fun x y => lessE x y = true) l
def befE (l : List E5) (i : Nat) (e : E5) : Bool := match i with | 0 => true | j + 1 => match l[j]? with | none => true | some d => lessE d e
theorem entStep_at (b : BldV) (l : List E5) (i : Nat) (e : E5) (h : l[i]? = some e) : entStep b l i = (entryB b e && befE l i e) := by
  unfold entStep befE; rw [h]; rfl
theorem entsB_iff (b : BldV) (l : List E5) : entsB b l l.length = true ↔ (∀ e ∈ l, entryB b e = true) ∧ SortE l := by
  have hall : entsB b l l.length = true ↔ ∀ i, i < l.length → entStep b l i = true := by
    unfold entsB; rw [List.all_eq_true]; simp only [List.mem_range]
  rw [hall]
  constructor
  · intro h
    refine ⟨fun e he => ?_, ?_⟩
    · obtain ⟨i, hi, rfl⟩ := List.mem_iff_getElem.1 he
      have := h i hi
      rw [entStep_at b l i _ (List.getElem?_eq_getElem hi), Bool.and_eq_true] at this
      exact this.1
    · have hc : ∀ j, ∀ (hj : j + 1 < l.length), lessE l[j] l[j + 1] = true := by
        intro j hj
        have := h (j + 1) hj
        rw [entStep_at b l (j + 1) _ (List.getElem?_eq_getElem hj), Bool.and_eq_true] at this
        have h2 := this.2
        simp only [befE, List.getElem?_eq_getElem (show j < l.length by omega)] at h2
        exact h2
      refine List.pairwise_iff_getElem.2 ?_
      intro i j hi hj hij
      have : ∀ n, ∀ (hn : i + 1 + n < l.length), lessE l[i] l[i + 1 + n] = true := by
        intro n
        induction n with
        | zero => intro hn; exact hc i hn
        | succ n ih => intro hn; exact lessE_trans (ih (by omega)) (hc (i + 1 + n) hn)
      have h2 := this (j - i - 1) (by omega)
      simp only [show i + 1 + (j - i - 1) = j by omega] at h2
      exact h2
  · rintro ⟨h1, h2⟩ i hi
    rw [entStep_at b l i _ (List.getElem?_eq_getElem hi), Bool.and_eq_true]
    refine ⟨h1 _ (List.getElem_mem hi), ?_⟩
    cases i with
    | zero => rfl
    | succ j =>
      simp only [befE, List.getElem?_eq_getElem (show j < l.length by omega)]
      exact List.pairwise_iff_getElem.1 h2 j (j + 1) (by omega) hi (by omega)
theorem imgB_iff (b : BldV) (m : ImgV) : imgB b m = true ↔ headM b m = true ∧ (∀ p ∈ m.ph, inR 0 4 p = true) ∧ (∀ e ∈ m.en, entryB b e = true) ∧ SortE m.en := by
  unfold imgB
  rw [Bool.and_eq_true, Bool.and_eq_true, entsB_iff]
  unfold phB
  rw [List.all_eq_true]
  constructor
  · rintro ⟨⟨h1, h2⟩, h3, h4⟩; exact ⟨h1, h2, h3, h4⟩
  · rintro ⟨h1, h2, h3, h4⟩; exact ⟨⟨h1, h2⟩, h3, h4⟩
theorem sort_keys (l : List E5) : SortE l ↔ (l.map E5.key).Pairwise fun x y => x.1 < y.1 ∨ x.1 = y.1 ∧ x.2 < y.2 := by
  rw [List.pairwise_map]
  constructor
  · intro h; exact h.imp fun h => (lessE_iff _ _).1 h
  · intro h; exact h.imp fun h => (lessE_iff _ _).2 h
/-- Another entry at the place of one with the same call. -/
theorem sort_set {l : List E5} (h : SortE l) (i : Nat) (e d : E5) (he : l[i]? = some e) (hk : d.1 = e.1 ∧ d.2.1 = e.2.1) : SortE (l.set i d) := by
  rw [sort_keys] at h ⊢
  have : (l.set i d).map E5.key = l.map E5.key := by
    rw [List.map_set]
    apply List.ext_getElem?
    intro j
    rw [List.getElem?_set]
    split
    · rename_i e'
      subst e'
      have hi : i < l.length := (List.getElem?_eq_some_iff.1 he).1
      rw [if_pos (by simpa using hi), List.getElem?_map, he]
      simp [E5.key, hk]
    · rfl
  rwa [this]
theorem sort_del {l : List E5} (h : SortE l) (i : Nat) : SortE (l.take i ++ l.drop (i + 1)) := by
  rw [← List.eraseIdx_eq_take_drop_succ]
  exact h.sublist (List.eraseIdx_sublist _ _)
theorem findN_none (l : List E5) (f d : Int) : ∀ k, findN l f d k = none → ∀ i, i < k → ∀ e, l[i]? = some e → isAt f d e = false := by
  intro k
  induction k with
  | zero => intro _ i hi; omega
  | succ k ih =>
    intro h i hi e he
    unfold findN at h
    cases h1 : findN l f d k with
    | some j => rw [h1] at h; simp at h
    | none =>
      rw [h1] at h
      by_cases e' : i = k
      · subst e'
        rw [he] at h
        simpa using h
      · exact ih h1 i (by omega) e he
/-- Where the new entry comes to lie. -/
theorem enterT_parts (l : List E5) (e : E5) : ∀ k, k ≤ l.length → ((enterT l e k).2 = false ∧ (enterT l e k).1 = l.take k ∧ ∀ x ∈ l.take k, lessE e x = false) ∨ ((enterT l e k).2 = true ∧ ∃ j x, j < k ∧ l[j]? = some x ∧ lessE e x = true ∧ (∀ y ∈ l.take j, lessE e y = false) ∧ (enterT l e k).1 = l.take j ++ e :: (l.take k).drop j) := by
  intro k
  induction k with
  | zero => intro _; exact .inl ⟨rfl, rfl, fun x hx => by simp at hx⟩
  | succ k ih =>
    intro hk
    obtain ⟨x, hx⟩ : ∃ x, l[k]? = some x := ⟨_, List.getElem?_eq_getElem (by omega)⟩
    have ht : l.take (k + 1) = l.take k ++ [x] := by rw [List.take_add_one, hx]; rfl
    rcases ih (by omega) with ⟨h1, h2, h3⟩ | ⟨h1, j, y, hj, hy, hl, h3, h4⟩
    · cases hl : lessE e x
      · left
        refine ⟨by unfold enterT; rw [hx]; simp [h1, hl], by unfold enterT; rw [hx]; simp [h1, hl, h2, ht], ?_⟩
        intro z hz
        rw [ht, List.mem_append, List.mem_singleton] at hz
        rcases hz with hz | rfl
        · exact h3 z hz
        · exact hl
      · right
        refine ⟨by unfold enterT; rw [hx]; simp [h1, hl], k, x, by omega, hx, hl, h3, ?_⟩
        have hd : (l.take (k + 1)).drop k = [x] := by rw [ht, List.drop_left' (by rw [List.length_take]; omega)]
        unfold enterT; rw [hx, hd]; simp [h1, hl, h2]
    · right
      refine ⟨by unfold enterT; rw [hx]; simp [h1], j, y, by omega, hy, hl, h3, ?_⟩
      have hd : (l.take (k + 1)).drop j = (l.take k).drop j ++ [x] := by rw [ht, List.drop_append_of_le_length (by rw [List.length_take]; omega)]
      unfold enterT; rw [hx, hd]; simp [h1, h4]
theorem enterL_parts {l : List E5} {e : E5} (hs : SortE l) (hn : ∀ x ∈ l, ¬ (x.1 = e.1 ∧ x.2.1 = e.2.1)) : SortE (enterL l e) ∧ ∀ x ∈ enterL l e, x = e ∨ x ∈ l := by
  have hne : ∀ x ∈ l, lessE e x = false → lessE x e = true := fun x hx h => lessE_not h fun ⟨a, c⟩ => hn x hx ⟨a.symm, c.symm⟩
  unfold enterL
  rcases enterT_parts l e l.length (Nat.le_refl _) with ⟨h1, h2, h3⟩ | ⟨h1, j, y, hj, hy, hl, h3, h4⟩
  · rw [h1, h2]
    rw [List.take_length] at h3 ⊢
    refine ⟨?_, fun x hx => by simpa [or_comm] using hx⟩
    refine List.pairwise_append.2 ⟨hs, List.pairwise_singleton _ _, fun a ha c hc => by rw [List.mem_singleton] at hc; subst hc; exact hne a ha (h3 a ha)⟩
  · rw [h1, h4]
    rw [List.take_length]
    have hA : ∀ x ∈ l.take j, lessE x e = true := fun x hx => hne x (List.mem_of_mem_take hx) (h3 x hx)
    have hB : ∀ x ∈ l.drop j, lessE e x = true := by
      intro x hx
      obtain ⟨i, hi, rfl⟩ := List.mem_iff_getElem.1 hx
      rw [List.getElem_drop]
      rw [List.length_drop] at hi
      by_cases hi0 : i = 0
      · subst hi0
        have : l[j]? = some l[j + 0] := List.getElem?_eq_getElem (by omega)
        rw [hy] at this; cases this; exact hl
      · have h5 := List.pairwise_iff_getElem.1 hs j (j + i) (by omega) (by omega) (by omega)
        have : l[j]? = some l[j] := List.getElem?_eq_getElem (by omega)
        rw [hy] at this; cases this
        exact lessE_trans hl h5
    refine ⟨?_, fun x hx => ?_⟩
    · refine List.pairwise_append.2 ⟨hs.sublist (List.take_sublist _ _), List.pairwise_cons.2 ⟨hB, hs.sublist (List.drop_sublist _ _)⟩, fun a ha c hc => ?_⟩
      rw [List.mem_cons] at hc
      rcases hc with rfl | hc
      · exact hA a ha
      · exact lessE_trans (hA a ha) (hB c hc)
    · simp only [if_true, List.mem_append, List.mem_cons] at hx
      rcases hx with hx | rfl | hx
      · exact .inr (List.mem_of_mem_take hx)
      · exact .inl rfl
      · exact .inr (List.mem_of_mem_drop hx)
theorem carOk_iff {b : BldV} {r : R5} (h : carOk b r = true) : 0 ≤ r.2.2.2.1 ∧ r.2.2.2.1 ≤ (b.cars.length : Int) - 1 ∧ r.2.1 = 0 ∧ r.2.2.1 = 0 := by
  simp only [carOk, Bool.and_eq_true, inR_iff, beq_iff_eq] at h
  exact ⟨h.1.1.1, h.1.1.2, h.1.2, h.2⟩
/-- A record that is valid keeps an image one. -/
theorem imgB_apply {b : BldV} {m : ImgV} {r : R5} (hm : imgB b m = true) (hr : recOk b r = true) : imgB b (applyV m r) = true := by
  obtain ⟨h1, h2, h3, h4⟩ := (imgB_iff b m).1 hm
  rw [imgB_iff]
  unfold recOk at hr
  rw [Bool.and_eq_true] at hr
  obtain ⟨_, hr⟩ := hr
  unfold applyV
  by_cases k4 : r.1 = 4
  · rw [if_pos k4]
    rw [if_neg (by omega), if_neg (by omega), if_pos k4, Bool.and_eq_true] at hr
    refine ⟨by simpa [headM] using h1, fun p hp => ?_, h3, h4⟩
    rcases List.mem_or_eq_of_mem_set hp with hp | rfl
    · exact h2 p hp
    · exact hr.2
  rw [if_neg k4]
  by_cases k5 : r.1 = 5
  · rw [if_pos k5]
    exact ⟨by simpa [headM] using h1, h2, h3, h4⟩
  rw [if_neg k5]
  by_cases k6 : r.1 = 6
  · rw [if_pos k6]
    exact ⟨by simpa [headM] using h1, h2, h3, h4⟩
  rw [if_neg k6]
  suffices hs : (∀ e ∈ putE m.en r, entryB b e = true) ∧ SortE (putE m.en r) from ⟨by simpa [headM] using h1, h2, hs.1, hs.2⟩
  unfold putE
  cases hf : findN m.en r.2.1 r.2.2.1 m.en.length with
  | none =>
    simp only
    split
    · rename_i k1
      rw [if_pos (.inl k1), Bool.and_eq_true, Bool.and_eq_true] at hr
      have hn : ∀ x ∈ m.en, ¬ (x.1 = r.2.1 ∧ x.2.1 = r.2.2.1) := by
        intro x hx
        obtain ⟨i, hi, rfl⟩ := List.mem_iff_getElem.1 hx
        have := findN_none _ _ _ _ hf i hi _ (List.getElem?_eq_getElem hi)
        simpa [isAt] using this
      obtain ⟨p1, p2⟩ := enterL_parts (e := (r.2.1, r.2.2.1, -1, 0, false)) h4 hn
      refine ⟨fun x hx => ?_, p1⟩
      rcases p2 x hx with rfl | hx
      · simp only [entryB, Bool.and_eq_true, decide_eq_true_eq]
        exact ⟨⟨⟨⟨hr.1.1, by omega⟩, by omega⟩, by omega⟩, by omega⟩
      · exact h3 x hx
    · exact ⟨h3, h4⟩
  | some i =>
    obtain ⟨_, hi, e, he, hat⟩ := findN_lt _ _ _ _ _ hf
    have hem : e ∈ m.en := List.mem_of_getElem? he
    have hee := h3 e hem
    simp only [entryB, Bool.and_eq_true, decide_eq_true_eq] at hee
    simp only [he]
    split
    · refine ⟨fun x hx => ?_, sort_del h4 i⟩
      rw [List.mem_append] at hx
      rcases hx with hx | hx
      · exact h3 x (List.mem_of_mem_take hx)
      · exact h3 x (List.mem_of_mem_drop hx)
    · split
      · rename_i n2 k3
        rw [if_neg (by omega), if_pos k3, Bool.and_eq_true, Bool.and_eq_true, inR_iff] at hr
        refine ⟨fun x hx => ?_, sort_set h4 i e _ he ⟨rfl, rfl⟩⟩
        rcases List.mem_or_eq_of_mem_set hx with hx | rfl
        · exact h3 x hx
        · simp only [entryB, Bool.and_eq_true, decide_eq_true_eq]
          exact ⟨⟨⟨⟨hee.1.1.1.1, by omega⟩, by omega⟩, hee.1.2⟩, hee.2⟩
      · split
        · rename_i n2 n3 k7
          rw [if_neg (by omega), if_neg (by omega), if_neg (by omega), if_neg (by omega), if_pos k7, Bool.and_eq_true, Bool.and_eq_true, inR_iff, inR_iff] at hr
          refine ⟨fun x hx => ?_, sort_set h4 i e _ he ⟨rfl, rfl⟩⟩
          rcases List.mem_or_eq_of_mem_set hx with hx | rfl
          · exact h3 x hx
          · simp only [entryB, Bool.and_eq_true, decide_eq_true_eq]
            exact ⟨⟨⟨⟨hee.1.1.1.1, hee.1.1.1.2⟩, hee.1.1.2⟩, hr.2.1⟩, hr.2.2⟩
        · exact ⟨h3, h4⟩
theorem imgI_ok (b : BldV) : imgB b (imgI b) = true ∨ imgI b = img0 := by
  unfold imgI
  by_cases hv : validN b = 0
  · left
    rw [if_pos hv, imgB_iff]
    refine ⟨by simp [headM, imgZ, hv], fun p hp => ?_, fun e he => by simp [imgZ] at he, List.Pairwise.nil⟩
    simp only [imgZ, List.mem_replicate] at hp
    rw [hp.2]; rfl
  · right; rw [if_neg hv]
theorem applyF_ok (b : BldV) (m : ImgV) (r : R5) : imgB b (applyF b m r) = true ∨ applyF b m r = img0 := by
  unfold applyF applyOk
  cases hm : imgB b m
  · right; rw [if_neg (by simp)]
  · cases hr : recOk b r
    · right; rw [if_neg (by simp)]
    · left; rw [if_pos (by simp)]; exact imgB_apply hm hr
/-- What records leave is an image, or nothing at all. -/
theorem imgK_ok (b : BldV) (R : List R5) : imgB b (imgK b R) = true ∨ imgK b R = img0 := by
  have h : ∀ (R : List R5) (m : ImgV), (imgB b m = true ∨ m = img0) → (imgB b (R.foldl (fun m r => applyF b m r) m) = true ∨ R.foldl (fun m r => applyF b m r) m = img0) := by
    intro R
    induction R with
    | nil => intro m h; exact h
    | cons r R ih =>
      intro m h
      exact ih _ (applyF_ok b m r)
  exact h R _ (imgI_ok b)
end Go.Proofs.Ytgoojlfpngmdlaa
