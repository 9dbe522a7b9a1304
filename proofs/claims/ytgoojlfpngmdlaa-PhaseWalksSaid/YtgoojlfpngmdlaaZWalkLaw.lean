/- What holds behind a command and behind what happens by itself: plain laws, no program in sight. Conditions: none. -/
import Derived.Test.YtgoojlfpngmdlaaZOrder
import Derived.Test.YtgoojlfpngmdlaaZAuto
import Derived.Test.YtgoojlfpngmdlaaZImgLaw
namespace Go.Proofs.Ytgoojlfpngmdlaa
open Go.RowKit
def tB (m : ImgV) (i : Nat) : Bool := transB (phAt m i) (lvAt m i)
theorem transN_succ (m : ImgV) (k : Nat) : transN m (k + 1) = transN m k + if tB m k then 1 else 0 := rfl
theorem transN_same {m x : ImgV} {n : Nat} (h : ∀ i, i < n → tB x i = tB m i) : transN x n = transN m n := by
  induction n with
  | zero => rfl
  | succ n ih => rw [transN_succ, transN_succ, ih (fun i hi => h i (by omega)), h n (by omega)]
/-- One car's change changes the number by that car alone. -/
theorem transN_one {m x : ImgV} {c : Nat} (h : ∀ i, i ≠ c → tB x i = tB m i) : ∀ n, c < n → transN x n + (if tB m c then 1 else 0) = transN m n + (if tB x c then 1 else 0) := by
  intro n
  induction n with
  | zero => intro hc; omega
  | succ n ih =>
    intro hc
    rw [transN_succ, transN_succ]
    by_cases e : c = n
    · subst e
      rw [transN_same (m := m) (x := x) fun i hi => h i (by omega)]
      omega
    · have := ih (by omega)
      rw [h n (fun e' => e e'.symm)]
      omega
theorem transN_zero {m : ImgV} {n c : Nat} (h : transN m n = 0) (hc : c < n) : tB m c = false := by
  have h1 := transN_mono m (c + 1) n (by omega)
  rw [transN_succ] at h1
  cases ht : tB m c
  · rfl
  · rw [ht] at h1; simp at h1; omega
theorem transN_pos {m : ImgV} {n c : Nat} (hc : c < n) (ht : tB m c = true) : 1 ≤ transN m n := by
  have h1 := transN_mono m (c + 1) n (by omega)
  rw [transN_succ, ht] at h1
  simp at h1; omega
theorem phAt_set {l : List Int} {f v : List Bool} {e : List E5} {c i : Nat} {t : Int} (hc : c < l.length) : phAt ⟨l.set c t, f, v, e⟩ i = if i = c then t else phAt ⟨l, f, v, e⟩ i := by
  unfold phAt
  simp only [List.getElem?_set]
  by_cases h : i = c
  · subst h; simp [hc]
  · rw [if_neg (fun e => h e.symm), if_neg h]
theorem lvAt_set {l : List Int} {f v : List Bool} {e : List E5} {c i : Nat} {t : Bool} (hc : c < v.length) : lvAt ⟨l, f, v.set c t, e⟩ i = if i = c then t else lvAt ⟨l, f, v, e⟩ i := by
  unfold lvAt
  simp only [List.getElem?_set]
  by_cases h : i = c
  · subst h; simp [hc]
  · rw [if_neg (fun e => h e.symm), if_neg h]
/-- An image as it is between commands. -/
def invM (b : BldV) (m : ImgV) : Prop := imgB b m = true ∧ (∀ j, lvAt m j = true → phAt m j = 4) ∧ transN m m.ph.length ≤ 1
/-- What may become of it in one step. -/
structure StepM (b : BldV) (m x : ImgV) (C : List Bool) : Prop where
  inv : invM b x
  len : x.ph.length = m.ph.length ∧ x.fg.length = m.fg.length ∧ x.lv.length = m.lv.length
  en : x.en = m.en
  edge : ∀ j, j < m.ph.length → phAt x j = phAt m j ∨ edgeB (phAt m j) (phAt x j) = true
  iso : ∀ j, j < m.ph.length → phAt x j ≠ phAt m j → phAt x j = 2 → (phAt m j = 3 ∨ burdB m j = false) ∧ (C[j]?).getD false = true
theorem StepM.refl {b : BldV} {m : ImgV} {C : List Bool} (h : invM b m) : StepM b m m C := ⟨h, ⟨rfl, rfl, rfl⟩, rfl, fun _ _ => .inl rfl, fun _ _ h => absurd rfl h⟩
/-- A phase that changes. -/
theorem step_ph1 {b : BldV} {m : ImgV} {C : List Bool} {c : Nat} {t : Int} (h : invM b m) (hc : c < m.ph.length) (ht : inR 0 4 t = true) (he : edgeB (phAt m c) t = true) (hl : lvAt m c = false) (hn : transB t false = true → transN m m.ph.length = 0 ∨ tB m c = true) (hi : t = 2 → (phAt m c = 3 ∨ burdB m c = false) ∧ (C[c]?).getD false = true) :
    StepM b m (applyV m (recP c t)) C ∧ recOk b (recP c t) = true := by
  obtain ⟨h1, h2, h3⟩ := h
  have hf := imgB_facts h1
  have hv : validN b = 0 := by
    simp only [imgB, headM, Bool.and_eq_true, decide_eq_true_eq] at h1
    exact h1.1.1.1.1.1
  have hr : recOk b (recP c t) = true := by
    have hco : carOk b (recP c t) = true := by
      simp only [carOk, recP, Bool.and_eq_true, inR_iff, beq_iff_eq, and_true]
      omega
    unfold recOk
    rw [if_neg (by simp [recP]), if_neg (by simp [recP]), if_pos (show (recP c t).1 = 4 from rfl), hco]
    simp [hv]; exact ht
  have hx := imgB_apply h1 hr
  have hxe : applyV m (recP c t) = ⟨m.ph.set c t, m.fg, m.lv, m.en⟩ := by simp [applyV, recP]
  rw [hxe] at hx ⊢
  have hp : ∀ i, phAt ⟨m.ph.set c t, m.fg, m.lv, m.en⟩ i = if i = c then t else phAt m i := fun i => phAt_set hc
  have hll : ∀ i, lvAt ⟨m.ph.set c t, m.fg, m.lv, m.en⟩ i = lvAt m i := fun i => rfl
  refine ⟨⟨⟨hx, fun j hj => ?_, ?_⟩, ⟨by simp, rfl, rfl⟩, rfl, fun j hj => ?_, fun j hj hne h2' => ?_⟩, hr⟩
  · rw [hll] at hj
    rw [hp]
    by_cases e : j = c
    · subst e; rw [hl] at hj; simp at hj
    · rw [if_neg e]; exact h2 j hj
  · have h4 := transN_one (m := m) (x := ⟨m.ph.set c t, m.fg, m.lv, m.en⟩) (c := c) (fun i hi => by unfold tB; rw [hp, hll, if_neg hi]) m.ph.length hc
    have h5 : tB ⟨m.ph.set c t, m.fg, m.lv, m.en⟩ c = transB t false := by unfold tB; rw [hp, hll, hl, if_pos rfl]
    rw [h5] at h4
    show transN _ (m.ph.set c t).length ≤ 1
    rw [List.length_set]
    cases htt : transB t false
    · rw [htt] at h4; simp only [Bool.false_eq_true, if_false] at h4; omega
    · rw [htt] at h4
      rcases hn htt with h6 | h6
      · simp only [if_true] at h4; omega
      · rw [h6] at h4; simp only [if_true] at h4; omega
  · rw [hp]
    by_cases e : j = c
    · subst e; rw [if_pos rfl]; exact .inr he
    · rw [if_neg e]; exact .inl rfl
  · rw [hp] at hne h2'
    by_cases e : j = c
    · subst e
      rw [if_pos rfl] at h2'
      obtain ⟨a1, a2⟩ := hi h2'
      exact ⟨a1, a2⟩
    · rw [if_neg e] at hne; exact absurd rfl hne
/-- A car that begins to leave, or leaves no more. -/
theorem step_lv1 {b : BldV} {m : ImgV} {C : List Bool} {c : Nat} {v : Int} (h : invM b m) (hc : c < m.ph.length) (hv01 : v = 0 ∨ v = 1) (hp4 : phAt m c = 4) (hn : v = 1 → transN m m.ph.length = 0) :
    StepM b m (applyV m (recLv c v)) C ∧ recOk b (recLv c v) = true := by
  obtain ⟨h1, h2, h3⟩ := h
  have hf := imgB_facts h1
  have hv : validN b = 0 := by
    simp only [imgB, headM, Bool.and_eq_true, decide_eq_true_eq] at h1
    exact h1.1.1.1.1.1
  have hr : recOk b (recLv c v) = true := by
    have hco : carOk b (recLv c v) = true := by
      simp only [carOk, recLv, Bool.and_eq_true, inR_iff, beq_iff_eq, and_true]
      omega
    have hvr : inR 0 1 v = true := by rw [inR_iff]; omega
    unfold recOk
    rw [if_neg (by simp [recLv]), if_neg (by simp [recLv]), if_neg (by simp [recLv]), if_pos (show (recLv c v).1 = 5 ∨ (recLv c v).1 = 6 from .inr rfl), hco]
    simp [hv]; exact hvr
  have hx := imgB_apply h1 hr
  have hxe : applyV m (recLv c v) = ⟨m.ph, m.fg, m.lv.set c (v == 1), m.en⟩ := by simp [applyV, recLv]
  rw [hxe] at hx ⊢
  have hcl : c < m.lv.length := by omega
  have hll : ∀ i, lvAt ⟨m.ph, m.fg, m.lv.set c (v == 1), m.en⟩ i = if i = c then (v == 1) else lvAt m i := fun i => lvAt_set hcl
  have hp : ∀ i, phAt ⟨m.ph, m.fg, m.lv.set c (v == 1), m.en⟩ i = phAt m i := fun i => rfl
  refine ⟨⟨⟨hx, fun j hj => ?_, ?_⟩, ⟨rfl, rfl, by simp⟩, rfl, fun j hj => .inl (hp j), fun j hj hne _ => absurd (hp j) hne⟩, hr⟩
  · rw [hp]
    rw [hll] at hj
    by_cases e : j = c
    · subst e; exact hp4
    · rw [if_neg e] at hj; exact h2 j hj
  · have h4 := transN_one (m := m) (x := ⟨m.ph, m.fg, m.lv.set c (v == 1), m.en⟩) (c := c) (fun i hi => by unfold tB; rw [hp, hll, if_neg hi]) m.ph.length hc
    have h5 : tB ⟨m.ph, m.fg, m.lv.set c (v == 1), m.en⟩ c = (v == 1) := by unfold tB; rw [hp, hll, hp4, if_pos rfl]; rfl
    rw [h5] at h4
    show transN _ m.ph.length ≤ 1
    obtain ⟨N, hN⟩ : ∃ N, transN ⟨m.ph, m.fg, m.lv.set c (v == 1), m.en⟩ m.ph.length = N := ⟨_, rfl⟩
    rw [hN] at h4 ⊢
    clear hN h5 hll hp hx hxe hr
    rcases hv01 with rfl | rfl
    · simp at h4; omega
    · have := hn rfl
      simp at h4; omega
/-- A flag that is taken back. -/
theorem step_fl1 {b : BldV} {m : ImgV} {C : List Bool} {c : Nat} (h : invM b m) (hc : c < m.ph.length) :
    StepM b m (applyV m (recFl c)) C ∧ recOk b (recFl c) = true := by
  obtain ⟨h1, h2, h3⟩ := h
  have hf := imgB_facts h1
  have hv : validN b = 0 := by
    simp only [imgB, headM, Bool.and_eq_true, decide_eq_true_eq] at h1
    exact h1.1.1.1.1.1
  have hr : recOk b (recFl c) = true := by
    have hco : carOk b (recFl c) = true := by
      simp only [carOk, recFl, Bool.and_eq_true, inR_iff, beq_iff_eq, and_true]
      omega
    unfold recOk
    rw [if_neg (by simp [recFl]), if_neg (by simp [recFl]), if_neg (by simp [recFl]), if_pos (show (recFl c).1 = 5 ∨ (recFl c).1 = 6 from .inl rfl), hco]
    simp [hv]; rfl
  have hx := imgB_apply h1 hr
  have hxe : applyV m (recFl c) = ⟨m.ph, m.fg.set c false, m.lv, m.en⟩ := by simp [applyV, recFl]
  rw [hxe] at hx ⊢
  have h4 : transN ⟨m.ph, m.fg.set c false, m.lv, m.en⟩ m.ph.length = transN m m.ph.length := transN_same (m := m) fun i _ => rfl
  exact ⟨⟨⟨hx, h2, by show transN _ m.ph.length ≤ 1; rw [h4]; exact h3⟩, ⟨rfl, by simp, rfl⟩, rfl, fun j hj => .inl rfl, fun j hj hne _ => absurd rfl hne⟩, hr⟩
theorem lv_off {m : ImgV} {c : Nat} (h : ∀ j, lvAt m j = true → phAt m j = 4) (hp : phAt m c ≠ 4) : lvAt m c = false := by
  cases hl : lvAt m c
  · rfl
  · exact absurd (h c hl) hp
/-- A command that goes through: nothing, or one record, and what it does. -/
theorem order_step {b : BldV} {m : ImgV} {kind car : Int} {C : List Bool} {L : List R5} (h : invM b m) (ho : orderF b m kind car C = (L, 0)) :
    L = [] ∨ ∃ r, L = [r] ∧ (r.1 = 4 ∨ r.1 = 5 ∨ r.1 = 6) ∧ recOk b r = true ∧ StepM b m (applyV m r) C := by
  have hfc := (imgB_facts h.1).2.2.1
  unfold orderF at ho
  split at ho
  · simp at ho
  split at ho
  · simp at ho
  split at ho
  · simp at ho
  rename_i hcar
  split at ho
  · simp at ho; exact .inl ho
  obtain ⟨c, rfl⟩ := Int.eq_ofNat_of_zero_le (show 0 ≤ car by omega)
  have hc : c < m.ph.length := by omega
  rw [Int.toNat_natCast] at ho
  have hfree : freeB m = true → transN m m.ph.length = 0 := fun h => by simpa [freeB] using h
  right
  unfold carryF at ho
  split at ho
  · rename_i hk
    split at ho
    · rename_i hfr
      simp at ho; subst ho
      obtain ⟨s, r⟩ := step_ph1 (C := C) (t := 1) h hc rfl (by rw [hk.2]; rfl) (lv_off h.2.1 (by rw [hk.2]; decide)) (fun _ => .inl (hfree hfr)) (fun e => by simp at e)
      exact ⟨_, rfl, .inl rfl, r, s⟩
    · simp at ho
  split at ho
  · rename_i hk
    simp at ho; subst ho
    have hp12 : phAt m c = 1 ∨ phAt m c = 2 := by rcases hk with hk | hk; exact .inl hk.2; exact .inr hk.2
    obtain ⟨s, r⟩ := step_ph1 (C := C) (t := 0) h hc rfl (by rcases hp12 with e | e <;> rw [e] <;> rfl) (lv_off h.2.1 (by rcases hp12 with e | e <;> rw [e] <;> decide)) (fun e => by simp [transB] at e) (fun e => by simp at e)
    exact ⟨_, rfl, .inl rfl, r, s⟩
  split at ho
  · rename_i hk
    simp at ho; subst ho
    obtain ⟨s, r⟩ := step_lv1 (C := C) (v := 0) h hc (.inl rfl) hk.2.1 (fun e => by simp at e)
    exact ⟨_, rfl, .inr (.inr rfl), r, s⟩
  split at ho
  · rename_i hk
    simp at ho; subst ho
    have hl := lv_off h.2.1 (c := c) (by rw [hk.2]; decide)
    obtain ⟨s, r⟩ := step_ph1 (C := C) (t := 3) h hc rfl (by rw [hk.2]; rfl) hl (fun _ => .inr (by unfold tB; rw [hk.2, hl]; rfl)) (fun e => by simp at e)
    exact ⟨_, rfl, .inl rfl, r, s⟩
  split at ho
  · rename_i hk
    split at ho
    · rename_i hcm
      simp at ho; subst ho
      have hl := lv_off h.2.1 (c := c) (by rw [hk.2]; decide)
      obtain ⟨s, r⟩ := step_ph1 (C := C) (t := 2) h hc rfl (by rw [hk.2]; rfl) hl (fun _ => .inr (by unfold tB; rw [hk.2, hl]; rfl)) (fun _ => ⟨.inl hk.2, hcm⟩)
      exact ⟨_, rfl, .inl rfl, r, s⟩
    · simp at ho
  split at ho
  · rename_i hk
    split at ho
    · simp at ho
    · simp at ho; subst ho
      obtain ⟨s, r⟩ := step_ph1 (C := C) (t := 4) h hc rfl (by rw [hk.2]; rfl) (lv_off h.2.1 (by rw [hk.2]; decide)) (fun e => by simp [transB] at e) (fun e => by simp at e)
      exact ⟨_, rfl, .inl rfl, r, s⟩
  split at ho
  · rename_i hk
    split at ho
    · rename_i hfr
      simp at ho; subst ho
      obtain ⟨s, r⟩ := step_lv1 (C := C) (v := 1) h hc (.inr rfl) hk.2.1 (fun _ => hfree hfr)
      exact ⟨_, rfl, .inr (.inr rfl), r, s⟩
    · simp at ho
  split at ho
  · simp at ho; subst ho
    obtain ⟨s, r⟩ := step_fl1 (C := C) h hc
    exact ⟨_, rfl, .inr (.inl rfl), r, s⟩
  · simp at ho
/-- A command that does not go through writes nothing. -/
theorem order_err {b : BldV} {m : ImgV} {kind car : Int} {C : List Bool} (h : (orderF b m kind car C).2 ≠ 0) : (orderF b m kind car C).1 = [] := by
  unfold orderF at h ⊢
  split
  · rfl
  split
  · rfl
  split
  · rfl
  split
  · rfl
  rename_i h1 h2 h3 h4
  rw [if_neg h1, if_neg h2, if_neg h3, if_neg h4] at h
  unfold carryF at h ⊢
  repeat' split
  all_goals first | rfl | (rename_i hh; simp_all)
/-- What a row of records does. -/
def GoodL (b : BldV) (m : ImgV) (L : List R5) (C : List Bool) : Prop := (∀ r ∈ L, (r.1 = 4 ∨ r.1 = 5 ∨ r.1 = 6) ∧ recOk b r = true) ∧ StepM b m (L.foldl applyV m) C
theorem order_good {b : BldV} {m : ImgV} {kind car : Int} {C : List Bool} {L : List R5} (h : invM b m) (ho : orderF b m kind car C = (L, 0)) : GoodL b m L C := by
  rcases order_step h ho with rfl | ⟨r, rfl, hk, hr, hs⟩
  · exact ⟨fun r hr => by simp at hr, StepM.refl h⟩
  · exact ⟨fun q hq => by simp at hq; subst hq; exact ⟨hk, hr⟩, hs⟩
theorem StepM.pre {b : BldV} {m m1 x : ImgV} {C : List Bool} (h1 : StepM b m m1 C) (hp : ∀ j, phAt m1 j = phAt m j) (h2 : StepM b m1 x C) : StepM b m x C := by
  have hb : ∀ c, burdB m1 c = burdB m c := fun c => by unfold burdB; rw [h1.en]
  refine ⟨h2.inv, ⟨h2.len.1.trans h1.len.1, h2.len.2.1.trans h1.len.2.1, h2.len.2.2.trans h1.len.2.2⟩, h2.en.trans h1.en, fun j hj => ?_, fun j hj hne hi => ?_⟩
  · have := h2.edge j (by rw [h1.len.1]; exact hj)
    rwa [hp] at this
  · have := h2.iso j (by rw [h1.len.1]; exact hj) (by rw [hp]; exact hne) hi
    rwa [hp, hb] at this
theorem StepM.post {b : BldV} {m x y : ImgV} {C : List Bool} (h1 : StepM b m x C) (hp : ∀ j, phAt y j = phAt x j) (h2 : StepM b x y C) : StepM b m y C := by
  refine ⟨h2.inv, ⟨h2.len.1.trans h1.len.1, h2.len.2.1.trans h1.len.2.1, h2.len.2.2.trans h1.len.2.2⟩, h2.en.trans h1.en, fun j hj => ?_, fun j hj hne hi => ?_⟩
  · rw [hp]; exact h1.edge j hj
  · rw [hp] at hne hi; exact h1.iso j hj hne hi
def qualB (m : ImgV) (C : List Bool) (i : Nat) : Prop := (C[i]?).getD false = true ∧ burdB m i = false ∧ (phAt m i = 1 ∨ (phAt m i = 4 ∧ lvAt m i = true))
theorem qual_trans {m : ImgV} {C : List Bool} {i : Nat} (h : qualB m C i) : tB m i = true := by
  unfold tB
  rcases h.2.2 with h | ⟨h1, h2⟩
  · rw [h]; rfl
  · rw [h1, h2]; rfl
theorem autoN_one {m : ImgV} {C : List Bool} (ht : transN m m.ph.length ≤ 1) : ∀ k, k ≤ m.ph.length → autoN m C k = [] ∨ ∃ c, c < k ∧ qualB m C c ∧ autoN m C k = autoC m C c := by
  intro k
  induction k with
  | zero => intro _; exact .inl rfl
  | succ k ih =>
    intro hk
    by_cases hq : qualB m C k
    · rcases ih (by omega) with h | ⟨c, hc, hqc, _⟩
      · right
        exact ⟨k, by omega, hq, by rw [autoN, h]; rfl⟩
      · exfalso
        have h1 := transN_pos hc (qual_trans hqc)
        have h2 := transN_mono m (k + 1) m.ph.length hk
        rw [transN_succ, qual_trans hq] at h2
        simp at h2; omega
    · have he : autoC m C k = [] := by unfold autoC; exact if_neg hq
      rw [autoN, he, List.append_nil]
      rcases ih (by omega) with h | ⟨c, hc, hqc, h⟩
      · exact .inl h
      · exact .inr ⟨c, by omega, hqc, h⟩
theorem auto_good {b : BldV} {m : ImgV} {C : List Bool} (h : invM b m) : GoodL b m (autoF b m C) C := by
  have hnil : GoodL b m [] C := ⟨fun r hr => by simp at hr, StepM.refl h⟩
  unfold autoF
  split
  rotate_left 1
  · exact hnil
  rcases autoN_one (C := C) h.2.2 m.ph.length (Nat.le_refl _) with h0 | ⟨c, hc, hq, h0⟩
  · rw [h0]; exact hnil
  rw [h0]
  have hcl : c < m.lv.length := by have := imgB_facts h.1; omega
  have hq' : (C[c]?).getD false = true ∧ burdB m c = false ∧ (phAt m c = 1 ∨ (phAt m c = 4 ∧ lvAt m c = true)) := hq
  unfold autoC
  rw [if_pos hq']
  have hfl : ∀ (x : ImgV), StepM b m x C → x.ph.length = m.ph.length → (∀ (L : List R5), L.foldl applyV m = x → (∀ r ∈ L, (r.1 = 4 ∨ r.1 = 5 ∨ r.1 = 6) ∧ recOk b r = true) → GoodL b m (L ++ if fgAt m c then [recFl c] else []) C) := by
    intro x hx hl L hL hLr
    cases fgAt m c
    · simp only [Bool.false_eq_true, if_false, List.append_nil]
      exact ⟨hLr, by rw [hL]; exact hx⟩
    · obtain ⟨s, r⟩ := step_fl1 (C := C) (c := c) hx.inv (by rw [hl]; exact hc)
      simp only [if_true]
      refine ⟨fun q hq => ?_, ?_⟩
      · rw [List.mem_append, List.mem_singleton] at hq
        rcases hq with hq | rfl
        · exact hLr q hq
        · exact ⟨.inr (.inl rfl), r⟩
      · rw [List.foldl_append, hL]
        exact hx.post (fun j => by simp [applyV, recFl, phAt]) s
  rcases hq.2.2 with hp | ⟨hp, hl⟩
  · have hl := lv_off h.2.1 (c := c) (by rw [hp]; decide)
    obtain ⟨s, r⟩ := step_ph1 (C := C) (t := 2) h hc rfl (by rw [hp]; rfl) hl (fun _ => .inr (qual_trans hq)) (fun _ => ⟨.inr hq.2.1, hq.1⟩)
    rw [if_neg (by rw [hp]; simp), List.append_nil]
    exact hfl _ s s.len.1 [recP c 2] rfl (fun q hq => by simp at hq; subst hq; exact ⟨.inl rfl, r⟩)
  · rw [if_pos ⟨hp, hl⟩]
    obtain ⟨s1, r1⟩ := step_lv1 (C := C) (v := 0) h hc (.inl rfl) hp (fun e => by simp at e)
    have hp1 : ∀ j, phAt (applyV m (recLv c 0)) j = phAt m j := fun j => by simp [applyV, recLv, phAt]
    have hl1 : lvAt (applyV m (recLv c 0)) c = false := by
      have hxe : applyV m (recLv c 0) = ⟨m.ph, m.fg, m.lv.set c (0 == (1 : Int)), m.en⟩ := by simp [applyV, recLv]
      rw [hxe, lvAt_set hcl, if_pos rfl]; rfl
    have ht1 : transN (applyV m (recLv c 0)) (applyV m (recLv c 0)).ph.length = 0 := by
      rw [s1.len.1]
      have h4 := transN_one (m := m) (x := applyV m (recLv c 0)) (c := c) (fun i hi => by
        have hxe : applyV m (recLv c 0) = ⟨m.ph, m.fg, m.lv.set c (0 == (1 : Int)), m.en⟩ := by simp [applyV, recLv]
        unfold tB
        rw [hp1, hxe, lvAt_set hcl, if_neg hi]) m.ph.length hc
      have h5 : tB (applyV m (recLv c 0)) c = false := by unfold tB; rw [hp1, hl1, hp]; rfl
      rw [h5, qual_trans hq] at h4
      have := h.2.2
      simp at h4; omega
    have hbu : burdB (applyV m (recLv c 0)) c = burdB m c := by unfold burdB; rw [s1.en]
    obtain ⟨s2, r2⟩ := step_ph1 (C := C) (c := c) (t := 2) s1.inv (by rw [s1.len.1]; exact hc) rfl (by rw [hp1, hp]; rfl) hl1 (fun _ => .inl ht1) (fun _ => ⟨.inr (hbu.trans hq.2.1), hq.1⟩)
    have hcomm : applyV (applyV m (recP c 2)) (recLv c 0) = applyV (applyV m (recLv c 0)) (recP c 2) := by simp [applyV, recP, recLv]
    refine hfl _ (s1.pre hp1 s2) (s2.len.1.trans s1.len.1) ([recP c 2] ++ [recLv c 0]) ?_ (fun q hq => ?_)
    · show applyV (applyV m (recP c 2)) (recLv c 0) = _
      exact hcomm
    · simp at hq
      rcases hq with rfl | rfl
      · exact ⟨.inl rfl, r2⟩
      · exact ⟨.inr (.inr rfl), r1⟩
/-- The records are applied one behind the other. -/
theorem good_fold {b : BldV} {L : List R5} (hL : ∀ r ∈ L, recOk b r = true) : ∀ {m : ImgV}, imgB b m = true → L.foldl (fun m r => applyF b m r) m = L.foldl applyV m ∧ imgB b (L.foldl applyV m) = true := by
  induction L with
  | nil => intro m hm; exact ⟨rfl, hm⟩
  | cons r L ih =>
    intro m hm
    have hr := hL r (List.mem_cons_self ..)
    have h1 : applyF b m r = applyV m r := by unfold applyF applyOk; rw [hm, hr]; rfl
    have h2 := ih (fun q hq => hL q (List.mem_cons_of_mem _ hq)) (imgB_apply hm hr)
    simp only [List.foldl_cons, h1]
    exact h2
end Go.Proofs.Ytgoojlfpngmdlaa
