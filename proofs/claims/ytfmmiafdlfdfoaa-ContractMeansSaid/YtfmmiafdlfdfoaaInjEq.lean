/- The plain law of Inject: what the code lays into place is what the reference picks. Conditions: a belief of the car. -/
import Derived.Test.YtfmmiafdlfdfoaaInjC
namespace Go.Proofs.Ytfmmiafdlfdfoaa
open Go.RowKit
theorem sorted_ext : ∀ (l1 l2 : List Duty), l1.Pairwise (fun e d => key e < key d) → l2.Pairwise (fun e d => key e < key d) → (∀ x, x ∈ l1 ↔ x ∈ l2) → l1 = l2
  | [], l2, _, _, h => by
    cases l2 with
    | nil => rfl
    | cons b l2 => exact absurd ((h b).2 List.mem_cons_self) (by simp)
  | a :: l1, [], _, _, h => absurd ((h a).1 List.mem_cons_self) (by simp)
  | a :: l1, b :: l2, h1, h2, h => by
    obtain ⟨p1, q1⟩ := List.pairwise_cons.1 h1
    obtain ⟨p2, q2⟩ := List.pairwise_cons.1 h2
    have hab : a = b := by
      rcases List.mem_cons.1 ((h a).1 List.mem_cons_self) with e | ha
      · exact e
      · rcases List.mem_cons.1 ((h b).2 List.mem_cons_self) with e | hb
        · exact e.symm
        · have := p2 a ha; have := p1 b hb; omega
    subst hab
    rw [sorted_ext l1 l2 q1 q2 fun x => ?_]
    constructor
    · intro hx
      rcases List.mem_cons.1 ((h x).1 (List.mem_cons_of_mem _ hx)) with rfl | h'
      · have := p1 x hx; omega
      · exact h'
    · intro hx
      rcases List.mem_cons.1 ((h x).2 (List.mem_cons_of_mem _ hx)) with rfl | h'
      · have := p2 x hx; omega
      · exact h'
theorem insK_iff (l : List Duty) (d x : Duty) : x ∈ insK l d ↔ x ∈ l ∨ (x = d ∧ ∀ e ∈ l, key e ≠ key d) := by
  unfold insK
  by_cases h : l.any (fun e => key e == key d) = true
  · rw [if_pos h]
    refine ⟨.inl, fun h' => ?_⟩
    rcases h' with h' | ⟨_, h'⟩
    · exact h'
    · obtain ⟨e, he, hk⟩ := List.any_eq_true.1 h
      exact absurd (by simpa using hk) (h' e he)
  · rw [if_neg h]
    have hno : ∀ e ∈ l, key e ≠ key d := fun e he hk => h (List.any_eq_true.2 ⟨e, he, by simpa using hk⟩)
    rw [List.mem_append, List.mem_cons, List.mem_filter, List.mem_filter]
    constructor
    · rintro (⟨h', _⟩ | rfl | ⟨h', _⟩)
      · exact .inl h'
      · exact .inr ⟨rfl, hno⟩
      · exact .inl h'
    · rintro (h' | ⟨rfl, _⟩)
      · have := hno x h'
        by_cases hlt : key x < key d
        · exact .inl ⟨h', by simpa using hlt⟩
        · exact .inr (.inr ⟨h', by simp; omega⟩)
      · exact .inr (.inl rfl)
theorem insF_iff : ∀ (ps : List (Int × Int)) (l : List Duty) (x : Duty), ps.Pairwise (fun p q => keyE p < keyE q) → (x ∈ insF l ps ↔ x ∈ l ∨ ∃ p ∈ ps, x = (p.1, p.2, 0) ∧ ∀ e ∈ l, key e ≠ keyE p)
  | [], l, x, _ => by simp [insF]
  | p :: ps, l, x, hs => by
    obtain ⟨h1, h2⟩ := List.pairwise_cons.1 hs
    have e : insF l (p :: ps) = insF (insK l (p.1, p.2, 0)) ps := rfl
    have hk : key (p.1, p.2, 0) = keyE p := rfl
    rw [e, insF_iff ps _ x h2]
    constructor
    · rintro (h | ⟨p', hp', rfl, hno⟩)
      · rcases (insK_iff _ _ _).1 h with h' | ⟨hx, h'⟩
        · exact .inl h'
        · exact .inr ⟨p, List.mem_cons_self, hx, h'⟩
      · exact .inr ⟨p', List.mem_cons_of_mem _ hp', rfl, fun e he => hno e ((insK_iff _ _ _).2 (.inl he))⟩
    · rintro (h | ⟨p', hp', rfl, hno⟩)
      · exact .inl ((insK_iff _ _ _).2 (.inl h))
      · rcases List.mem_cons.1 hp' with rfl | hp'
        · exact .inl ((insK_iff _ _ _).2 (.inr ⟨rfl, hno⟩))
        · refine .inr ⟨p', hp', rfl, fun e he => ?_⟩
          rcases (insK_iff _ _ _).1 he with he | ⟨rfl, _⟩
          · exact hno e he
          · have := h1 p' hp'; rw [hk]; omega
theorem listC_iff (c : CS) (p : Int × Int) : p ∈ listC c ↔ ∃ k : Nat, k < 32 ∧ p.1 = k ∧ (p.2 = 1 ∨ p.2 = 2) ∧ has c p.1 p.2 = true := by
  refine ⟨listC_mem c p, ?_⟩
  rintro ⟨k, hk, h1, h2, hh⟩
  obtain ⟨f, d⟩ := p
  simp only at h1 h2 hh
  subst h1
  unfold listC listTo
  refine List.mem_flatMap.2 ⟨k, List.mem_range.2 hk, ?_⟩
  unfold rowOf item
  rw [List.mem_append]
  rcases h2 with rfl | rfl
  · exact .inl (by rw [if_pos hh]; simp)
  · exact .inr (by rw [if_pos hh]; simp)
theorem has_both (c h : CS) (k : Nat) (d : Int) (hk : k < 32) (hd : d = 1 ∨ d = 2) : has (both c h) k d = (has c k d && has h k d) := by
  rcases hd with rfl | rfl
  · rw [has_up _ _ (by omega) (by omega), has_up _ _ (by omega) (by omega), has_up _ _ (by omega) (by omega)]
    show (c.1 &&& h.1).getLsbD _ = _
    rw [BitVec.getLsbD_and]
  · rw [has_down _ _ (by omega) (by omega), has_down _ _ (by omega) (by omega), has_down _ _ (by omega) (by omega)]
    show (c.2 &&& h.2).getLsbD _ = _
    rw [BitVec.getLsbD_and]
theorem ageOf_ge (f d : Int) : ∀ (l : List Duty) (a : Int), (∀ e ∈ l, 0 ≤ e.2.2) → (0 ≤ a ∨ ∃ e ∈ l, e.1 = f ∧ e.2.1 = d) → 0 ≤ l.foldl (fun a x => if x.1 = f ∧ x.2.1 = d then x.2.2 else a) a
  | [], a, _, h => by
    rcases h with h | ⟨e, he, _⟩
    · exact h
    · simp at he
  | x :: l, a, hp, h => by
    rw [List.foldl_cons]
    refine ageOf_ge f d l _ (fun e he => hp e (List.mem_cons_of_mem _ he)) ?_
    by_cases hx : x.1 = f ∧ x.2.1 = d
    · rw [if_pos hx]; exact .inl (hp x List.mem_cons_self)
    · rw [if_neg hx]
      rcases h with h | ⟨e, he, h1, h2⟩
      · exact .inl h
      · rcases List.mem_cons.1 he with rfl | he
        · exact absurd ⟨h1, h2⟩ hx
        · exact .inr ⟨e, he, h1, h2⟩
theorem inject_eq (b : BldV) (car : Int) (s : BelV) (c : CS) (hs : stateB b car s = true) : insF s.du (listC (both c (hallC b))) = injectL s.du c (listC (hallC b)) := by
  obtain ⟨_, hd, hp⟩ := (stateB_iff b car s).1 hs
  have hdu : ∀ e ∈ s.du, (∃ k : Nat, k < 32 ∧ e.1 = k) ∧ (e.2.1 = 1 ∨ e.2.1 = 2) ∧ 0 ≤ e.2.2 ∧ callB b e.1 e.2.1 = true := fun e he => by
    obtain ⟨h1, h2, _⟩ := (dutyB_iff b _ e).1 (hd e he)
    have hv : validN b = 0 := state_valid b car s hs
    obtain ⟨_, hf⟩ := valid_fl b hv
    have h3 := h1
    unfold callB isCallB at h3
    simp only [Bool.and_eq_true, Bool.or_eq_true, decide_eq_true_eq, inR_iff] at h3
    refine ⟨⟨e.1.toNat, by omega, by omega⟩, by omega, h2, h1⟩
  have hin : ∀ e ∈ s.du, (e.1, e.2.1) ∈ listC (hallC b) := fun e he => by
    obtain ⟨⟨k, hk, hk1⟩, h2, _, h3⟩ := hdu e he
    refine (listC_iff _ _).2 ⟨k, hk, hk1, h2, ?_⟩
    show has (hallC b) e.1 e.2.1 = true
    rw [hk1, hall_has b k _ hk (by omega) (by omega), ← hk1]; exact h3
  have hone : ∀ e ∈ s.du, ∀ f ∈ s.du, key e = key f → e = f := fun e he f hf hk => by
    obtain ⟨i, hi⟩ := List.getElem?_of_mem he
    obtain ⟨j, hj⟩ := List.getElem?_of_mem hf
    rcases Nat.lt_trichotomy i j with h | h | h
    · have := sorted_lt hp hi hj h; omega
    · subst h; rw [hi] at hj; exact Option.some.inj hj
    · have := sorted_lt hp hj hi h; omega
  have hages : ∀ e ∈ s.du, 0 ≤ e.2.2 := fun e he => (hdu e he).2.2.1
  have hall : ∀ p ∈ listC (both c (hallC b)), 1 ≤ p.2 ∧ p.2 ≤ 2 := fun p hp => by
    obtain ⟨_, _, _, h, _⟩ := listC_mem _ p hp
    omega
  have hso := insF_ok s.du (listC (both c (hallC b))) hp (fun e he => by have := (hdu e he).2.1; omega) hall (listC (both c (hallC b))).length
  rw [List.take_length] at hso
  refine sorted_ext _ _ hso.1 (injectL_pair _ _ _ (listC_pair _)) fun x => ?_
  rw [insF_iff _ _ _ (listC_pair _)]
  unfold injectL
  rw [List.mem_flatMap]
  constructor
  · rintro (hx | ⟨p, hpm, rfl, hno⟩)
    · refine ⟨(x.1, x.2.1), hin x hx, ?_⟩
      have ha : 0 ≤ ageOf s.du x.1 x.2.1 := ageOf_ge _ _ _ _ hages (.inr ⟨x, hx, rfl, rfl⟩)
      obtain ⟨e, he, h1, h2, h3⟩ := ageOf_mem s.du x.1 x.2.1 ha
      obtain rfl : e = x := hone e he x hx (by unfold key; rw [h1, h2])
      unfold itemJ
      rw [if_pos ha, h3]
      simp
    · obtain ⟨k, hk, h1, h2, hh⟩ := listC_mem _ p hpm
      rw [h1, has_both c _ k p.2 hk h2, Bool.and_eq_true] at hh
      refine ⟨p, (listC_iff _ _).2 ⟨k, hk, h1, h2, by rw [h1]; exact hh.2⟩, ?_⟩
      have ha : ¬ 0 ≤ ageOf s.du p.1 p.2 := fun ha => by
        obtain ⟨e, he, e1, e2, _⟩ := ageOf_mem s.du p.1 p.2 ha
        exact hno e he (by unfold key keyE; rw [e1, e2])
      unfold itemJ
      rw [if_neg ha, if_pos (by rw [h1]; exact hh.1)]
      simp
  · rintro ⟨p, hpm, hx⟩
    obtain ⟨k, hk, h1, h2, hh⟩ := listC_mem _ p hpm
    unfold itemJ at hx
    split at hx
    · rename_i ha
      obtain ⟨e, he, e1, e2, e3⟩ := ageOf_mem s.du p.1 p.2 ha
      obtain rfl : x = (p.1, p.2, ageOf s.du p.1 p.2) := by simpa using hx
      left
      have : (p.1, p.2, ageOf s.du p.1 p.2) = e := by rw [e3, ← e1, ← e2]
      rw [this]; exact he
    · rename_i ha
      split at hx
      · rename_i hc
        obtain rfl : x = (p.1, p.2, 0) := by simpa using hx
        right
        refine ⟨p, (listC_iff _ _).2 ⟨k, hk, h1, h2, ?_⟩, rfl, fun e he hke => ha ?_⟩
        · rw [h1, has_both c _ k p.2 hk h2, Bool.and_eq_true, ← h1]; exact ⟨hc, hh⟩
        · refine ageOf_ge _ _ _ _ hages (.inr ⟨e, he, ?_⟩)
          have := (hdu e he).2.1
          unfold key keyE at hke
          omega
      · simp at hx
theorem injectW_eq (b : BldV) (car : Int) (s : BelV) (c : CS) : injectW b car s c = injectV b car s c := by
  unfold injectW injectV
  by_cases hs : stateB b car s = true
  · rw [if_pos hs, if_pos hs]
    unfold injectN
    rw [inject_eq b car s c hs]
    by_cases h : 0 < (injectL s.du c (listC (hallC b))).length
    · rw [if_pos h, decide_eq_false (by omega), Bool.and_false]
    · rw [if_neg h, decide_eq_true (by omega), Bool.and_true]
  · rw [if_neg hs, if_neg hs]
end Go.Proofs.Ytfmmiafdlfdfoaa
