/- The round of a cutover and its way back: plain laws, no program in sight. Conditions: none. -/
import Derived.Test.YtgoojlfpngmdlaaZOrder
import Derived.Test.YtgoojlfpngmdlaaZAuto
import Derived.Test.YtgoojlfpngmdlaaZImgLaw
namespace Go.Proofs.Ytgoojlfpngmdlaa
open Go.RowKit
/-- An image in which one car is in a phase, and leaves or not. -/
def stR (k c : Nat) (s : Int × Bool) : ImgV := ⟨(List.replicate k 0).set c s.1, List.replicate k false, (List.replicate k false).set c s.2, []⟩
def stepsR : List (Int × Int) := [(1, 1), (2, 0), (1, 1), (-1, 2), (3, 0), (1, 1), (-1, 2), (4, 3), (5, 2), (4, 3), (6, 4), (7, 4), (2, 4), (7, 4), (-1, 2), (3, 0)]
def statesR : List (Int × Bool) := [(0, false), (1, false), (0, false), (1, false), (2, false), (0, false), (1, false), (2, false), (3, false), (2, false), (3, false), (4, false), (4, true), (4, false), (4, true), (2, false), (0, false)]
def stOf (i : Nat) : Int × Bool := (statesR[i]?).getD (0, false)
def opOf (i : Nat) : Int × Int := (stepsR[i]?).getD (0, 0)
def calmR (k c : Nat) : List Bool := (List.replicate k false).set c true
/-- The records of a step. -/
def recsR (k c i : Nat) : List R5 := if (opOf i).1 < 0 then autoN (stR k c (stOf i)) (calmR k c) k else (carryF (stR k c (stOf i)) c true (opOf i).1).1
def goodR (k : Nat) (r : R5) : Bool := (decide (r.1 = 4) && inR 0 4 r.2.2.2.2 || decide (r.1 = 6) && inR 0 1 r.2.2.2.2) && decide (r.2.1 = 0) && decide (r.2.2.1 = 0) && inR 0 ((k : Int) - 1) r.2.2.2.1
def eqM (m m' : ImgV) : Bool := decide (m.ph = m'.ph) && decide (m.fg = m'.fg) && decide (m.lv = m'.lv) && decide (m.en = m'.en)
theorem eqM_iff {m m' : ImgV} (h : eqM m m' = true) : m = m' := by
  cases m; cases m'
  simp only [eqM, Bool.and_eq_true, decide_eq_true_eq] at h
  obtain ⟨⟨⟨h1, h2⟩, h3⟩, h4⟩ := h
  subst h1 h2 h3 h4
  rfl
def stepOk (k c i : Nat) : Bool := (decide ((opOf i).1 < 0) || (decide (1 ≤ (opOf i).1) && decide ((opOf i).1 ≤ 8) && decide ((carryF (stR k c (stOf i)) c true (opOf i).1).2 = 0))) && !(recsR k c i).isEmpty && decide ((recsR k c i).length ≤ 3) && (recsR k c i).all (goodR k) &&
  eqM ((recsR k c i).foldl applyV (stR k c (stOf i))) (stR k c (stOf (i + 1))) && decide (phAt (stR k c (stOf (i + 1))) c = (opOf i).2) && inR 0 4 (stOf i).1
theorem steps_ok : ∀ k, k < 4 → ∀ c, c < k → ∀ i, i < 16 → stepOk k c i = true := by decide +kernel
theorem free_end : ∀ k, k < 4 → ∀ c, c < k → freeB (stR k c (stOf 16)) = true := by decide +kernel
theorem stR_img {b : BldV} {k c : Nat} {s : Int × Bool} (hv : validN b = 0) (hk : b.cars.length = k) (hs : inR 0 4 s.1 = true) : imgB b (stR k c s) = true := by
  rw [imgB_iff]
  refine ⟨by simp [headM, stR, hv, hk], fun p hp => ?_, fun e he => by simp [stR] at he, List.Pairwise.nil⟩
  simp only [stR] at hp
  rcases List.mem_or_eq_of_mem_set hp with hp | rfl
  · rw [List.mem_replicate] at hp; rw [hp.2]; rfl
  · exact hs
theorem stR_zero (k c : Nat) : stR k c (stOf 0) = imgZ k := by
  have h1 : (List.replicate k (0 : Int)).set c 0 = List.replicate k 0 := by
    apply List.ext_getElem?
    intro j
    rw [List.getElem?_set]
    split
    · rename_i e; subst e
      simp only [List.length_replicate, List.getElem?_replicate]
    · rfl
  have h2 : (List.replicate k false).set c false = List.replicate k false := by
    apply List.ext_getElem?
    intro j
    rw [List.getElem?_set]
    split
    · rename_i e; subst e
      simp only [List.length_replicate, List.getElem?_replicate]
    · rfl
  show (⟨_, _, _, _⟩ : ImgV) = ⟨_, _, _, _⟩
  rw [show (stOf 0).1 = 0 from rfl, show (stOf 0).2 = false from rfl, h1, h2]
theorem goodR_ok {b : BldV} {k : Nat} {r : R5} (hv : validN b = 0) (hk : b.cars.length = k) (h : goodR k r = true) : recOk b r = true := by
  simp only [goodR, Bool.and_eq_true, Bool.or_eq_true, decide_eq_true_eq] at h
  obtain ⟨⟨⟨h1, h2⟩, h3⟩, h4⟩ := h
  have hc : carOk b r = true := by simp [carOk, hk, h4, h2, h3]
  unfold recOk
  rcases h1 with ⟨h1, h5⟩ | ⟨h1, h5⟩
  · rw [if_neg (by omega), if_neg (by omega), if_pos h1, hc, h5]; simp [hv]
  · rw [if_neg (by omega), if_neg (by omega), if_neg (by omega), if_pos (.inr h1), hc, h5]; simp [hv]
/-- The image behind j records of a step. -/
def midR (k c i j : Nat) : ImgV := ((recsR k c i).take j).foldl applyV (stR k c (stOf i))
theorem mid_zero (k c i : Nat) : midR k c i 0 = stR k c (stOf i) := rfl
theorem mid_succ (k c i j : Nat) (r : R5) (h : (recsR k c i)[j]? = some r) : midR k c i (j + 1) = applyV (midR k c i j) r := by
  unfold midR
  rw [List.take_add_one, h, List.foldl_append]; rfl
theorem mid_img {b : BldV} {k c i : Nat} (hv : validN b = 0) (hk : b.cars.length = k) (hok : stepOk k c i = true) : ∀ j, imgB b (midR k c i j) = true := by
  simp only [stepOk, Bool.and_eq_true, List.all_eq_true] at hok
  have hg := hok.1.1.1.2
  have hs := hok.2
  intro j
  induction j with
  | zero => exact stR_img hv hk hs
  | succ j ih =>
    cases hr : (recsR k c i)[j]? with
    | none =>
      have : midR k c i (j + 1) = midR k c i j := by
        unfold midR
        rw [List.take_add_one, hr]; simp
      rw [this]; exact ih
    | some r =>
      rw [mid_succ k c i j r hr]
      exact imgB_apply ih (goodR_ok hv hk (hg r (List.mem_of_getElem? hr)))
/-- A record of a step is applied. -/
theorem mid_apply {b : BldV} {k c i j : Nat} {r : R5} (hv : validN b = 0) (hk : b.cars.length = k) (hok : stepOk k c i = true) (hr : (recsR k c i)[j]? = some r) : applyF b (midR k c i j) r = midR k c i (j + 1) ∧ applyE b (midR k c i j) r = 0 := by
  have hi := mid_img hv hk hok j
  have hg : recOk b r = true := by
    simp only [stepOk, Bool.and_eq_true, List.all_eq_true] at hok
    exact goodR_ok hv hk (hok.1.1.1.2 r (List.mem_of_getElem? hr))
  unfold applyF applyE applyOk
  rw [hi, hg, mid_succ k c i j r hr]
  exact ⟨rfl, rfl⟩
theorem mid_end {k c i : Nat} (hok : stepOk k c i = true) : midR k c i (recsR k c i).length = stR k c (stOf (i + 1)) := by
  simp only [stepOk, Bool.and_eq_true] at hok
  unfold midR
  rw [List.take_length]
  exact eqM_iff hok.1.1.2
theorem mid_en (k c i j : Nat) (hok : stepOk k c i = true) : (midR k c i j).en.length ≤ 1000 := by
  simp only [stepOk, Bool.and_eq_true, List.all_eq_true] at hok
  have hg := hok.1.1.1.2
  have : (midR k c i j).en = [] := by
    unfold midR
    have h : ∀ (l : List R5) (m : ImgV), (∀ r ∈ l, r.1 = 4 ∨ r.1 = 6) → m.en = [] → (l.foldl applyV m).en = [] := by
      intro l
      induction l with
      | nil => intro m _ hm; exact hm
      | cons r l ih =>
        intro m hl hm
        refine ih _ (fun r hr => hl r (List.mem_cons_of_mem _ hr)) ?_
        unfold applyV
        rcases hl r (List.mem_cons_self ..) with h | h
        · rw [if_pos h]; exact hm
        · rw [if_neg (by omega), if_neg (by omega), if_pos h]; exact hm
    refine h _ _ (fun r hr => ?_) rfl
    have := hg r (List.mem_of_mem_take hr)
    simp only [goodR, Bool.and_eq_true, Bool.or_eq_true, decide_eq_true_eq] at this
    rcases this.1.1.1 with h | h
    · exact .inl h.1
    · exact .inr h.1
  rw [this]; simp
theorem step_ph {k c i : Nat} (hc : c < k) (hok : stepOk k c i = true) : (stR k c (stOf (i + 1))).ph[c]? = some (opOf i).2 := by
  simp only [stepOk, Bool.and_eq_true, decide_eq_true_eq] at hok
  have h := hok.1.2
  obtain ⟨v, hv⟩ : ∃ v, (stR k c (stOf (i + 1))).ph[c]? = some v := ⟨_, List.getElem?_eq_getElem (by simp [stR, hc])⟩
  rw [phAt_of hv] at h
  rw [hv, h]
theorem stR_len (k c : Nat) (s : Int × Bool) : (stR k c s).ph.length = k ∧ (stR k c s).en.length = 0 := by simp [stR]
theorem calmR_len (k c : Nat) : (calmR k c).length = k := by simp [calmR]
theorem round_auto {b : BldV} {k c i : Nat} (hv : validN b = 0) (hk : b.cars.length = k) (hok : stepOk k c i = true) (h : (opOf i).1 < 0) : autoF b (stR k c (stOf i)) (calmR k c) = recsR k c i := by
  have hi := mid_img hv hk hok 0
  rw [mid_zero] at hi
  unfold autoF recsR
  rw [if_pos ⟨hi, by rw [calmR_len, hk]⟩, if_pos h, (stR_len k c _).1]
theorem round_order {b : BldV} {k c i : Nat} (hv : validN b = 0) (hk : b.cars.length = k) (hc : c < k) (hok : stepOk k c i = true) (h : ¬ (opOf i).1 < 0) : orderF b (stR k c (stOf i)) (opOf i).1 c (calmR k c) = (recsR k c i, 0) := by
  have hi := mid_img hv hk hok 0
  rw [mid_zero] at hi
  simp only [stepOk, Bool.and_eq_true, Bool.or_eq_true, decide_eq_true_eq] at hok
  have h1 := hok.1.1.1.1.1.1
  rcases h1 with h1 | ⟨⟨h1, h2⟩, h3⟩
  · exact absurd h1 h
  unfold orderF recsR
  have hcal : (calmR k c)[c]? = some true := by simp [calmR, hc]
  rw [if_neg (by simp [hi, calmR_len, hk]), if_neg (by omega), if_neg (by omega), if_neg (by omega), Int.toNat_natCast, hcal, if_neg h, Option.getD_some]
  exact Prod.ext rfl h3
end Go.Proofs.Ytgoojlfpngmdlaa
