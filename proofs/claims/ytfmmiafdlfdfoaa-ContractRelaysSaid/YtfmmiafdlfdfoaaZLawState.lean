/- The plain law of beliefs: observing and injecting keep a belief. Conditions: those of each theorem. -/
import Derived.Test.YtfmmiafdlfdfoaaZInjectRef
namespace Go.Proofs.Ytfmmiafdlfdfoaa
open Go.RowKit
def key (d : Duty) : Int := 4 * d.1 + d.2.1
theorem cmpD_key (e d : Duty) (h1 : 1 ≤ e.2.1) (h2 : e.2.1 ≤ 2) (h3 : 1 ≤ d.2.1) (h4 : d.2.1 ≤ 2) : cmpD e d < 0 ↔ key e < key d := by
  have h := decide_eq_decide.1 (cmpD_lin e d h1 h2 h3 h4)
  unfold key
  omega
theorem dutyB_iff (b : BldV) (dl : Int) (d : Duty) : dutyB b dl d = true ↔ callB b d.1 d.2.1 = true ∧ 0 ≤ d.2.2 ∧ d.2.2 ≤ dl := by
  unfold dutyB
  rw [Bool.and_eq_true, inR_iff]
theorem dutiesB_iff (b : BldV) (dl : Int) (l : List Duty) : dutiesB b dl l l.length = true ↔ (∀ d ∈ l, dutyB b dl d = true) ∧ l.Pairwise (fun e d => key e < key d) := by
  unfold dutiesB
  rw [List.all_eq_true]
  constructor
  · intro h
    have hd : ∀ i d, l[i]? = some d → dutyB b dl d = true ∧ ∀ j e, i = j + 1 → l[j]? = some e → cmpD e d < 0 := by
      intro i d hi
      have hs := h i (List.mem_range.2 (List.getElem?_eq_some_iff.1 hi).1)
      unfold stepB at hs
      rw [hi] at hs
      simp only [Bool.and_eq_true] at hs
      refine ⟨hs.1, fun j e hj he => ?_⟩
      subst hj
      have h2 := hs.2
      simp only [he] at h2
      exact of_decide_eq_true h2
    have hk : ∀ i d, l[i]? = some d → ∀ j e, i = j + 1 → l[j]? = some e → key e < key d := by
      intro i d hi j e hj he
      obtain ⟨_, _, h1, h2⟩ := callB_range _ _ _ ((dutyB_iff b dl d).1 (hd i d hi).1).1
      obtain ⟨_, _, h3, h4⟩ := callB_range _ _ _ ((dutyB_iff b dl e).1 (hd j e he).1).1
      exact (cmpD_key e d h3 h4 h1 h2).1 ((hd i d hi).2 j e hj he)
    refine ⟨fun d hm => ?_, ?_⟩
    · obtain ⟨i, hi⟩ := List.mem_iff_getElem?.1 hm
      exact (hd i d hi).1
    · rw [List.pairwise_iff_getElem]
      intro i j hi hj hij
      induction j with
      | zero => omega
      | succ j ih =>
        have hs := hk (j + 1) _ (List.getElem?_eq_getElem hj) j _ rfl (List.getElem?_eq_getElem (by omega))
        by_cases hlt : i < j
        · exact Int.lt_trans (ih (by omega) hlt) hs
        · obtain rfl : i = j := by omega
          exact hs
  · rintro ⟨h1, h2⟩ i hi
    have hi' := List.mem_range.1 hi
    unfold stepB
    rw [List.getElem?_eq_getElem hi']
    simp only [Bool.and_eq_true]
    refine ⟨h1 _ (List.getElem_mem hi'), ?_⟩
    cases i with
    | zero => rfl
    | succ j =>
      simp only
      rw [List.getElem?_eq_getElem (by omega)]
      simp only
      refine decide_eq_true ?_
      obtain ⟨_, _, a1, a2⟩ := callB_range _ _ _ ((dutyB_iff b dl _).1 (h1 _ (List.getElem_mem hi'))).1
      obtain ⟨_, _, a3, a4⟩ := callB_range _ _ _ ((dutyB_iff b dl _).1 (h1 _ (List.getElem_mem (show j < l.length by omega)))).1
      exact (cmpD_key _ _ a3 a4 a1 a2).2 ((List.pairwise_iff_getElem.1 h2) j (j + 1) (by omega) hi' (by omega))
theorem stateB_iff (b : BldV) (car : Int) (s : BelV) : stateB b car s = true ↔ headB b car s = true ∧ (∀ d ∈ s.du, dutyB b (dlOf b car) d = true) ∧ s.du.Pairwise (fun e d => key e < key d) := by
  unfold stateB
  rw [Bool.and_eq_true, dutiesB_iff]
theorem headB_iff (b : BldV) (car : Int) (s : BelV) : headB b car s = true ↔ validN b = 0 ∧ (0 ≤ car ∧ car ≤ (b.cars.length : Int) - 1) ∧ (-1 ≤ s.fl ∧ s.fl ≤ b.fl - 1) ∧ (0 ≤ s.dir ∧ s.dir ≤ 3) ∧ (0 ≤ s.door ∧ s.door ≤ 3) ∧ (0 ≤ s.still ∧ s.still ≤ 1000000) ∧ (s.late = true → s.du = []) := by
  unfold headB
  simp only [Bool.and_eq_true, decide_eq_true_eq, inR_iff]
  have e : (!(s.late && decide (0 < s.du.length))) = true ↔ (s.late = true → s.du = []) := by
    cases s.late <;> cases s.du <;> simp
  rw [e]
  simp only [and_assoc]
theorem obsB_iff (n : Int) (o : ObsV) : obsB n o = true ↔ (2 ≤ n ∧ n ≤ 32) ∧ (-1 ≤ o.1 ∧ o.1 ≤ n - 1) ∧ (0 ≤ o.2.1 ∧ o.2.1 ≤ 3) ∧ (0 ≤ o.2.2 ∧ o.2.2 ≤ 3) := by
  unfold obsB okB
  simp only [Bool.and_eq_true, decide_eq_true_eq, inR_iff, and_assoc]
theorem stillV_range (s : BelV) (o : ObsV) (h : 0 ≤ s.still) : 0 ≤ stillV s o ∧ stillV s o ≤ 1000000 := by
  unfold stillV
  split <;> omega
theorem agedL_mem (c : CS) (l : List Duty) (d : Duty) (h : d ∈ agedL c l) : ∃ e ∈ l, d = agedD e := by
  unfold agedL at h
  obtain ⟨e, he, rfl⟩ := List.mem_map.1 h
  exact ⟨e, (List.mem_filter.1 he).1, rfl⟩
theorem agedL_pair (c : CS) (l : List Duty) (h : l.Pairwise (fun e d => key e < key d)) : (agedL c l).Pairwise (fun e d => key e < key d) := by
  unfold agedL
  rw [List.pairwise_map]
  exact (h.filter _).imp fun h => h
/-- The duties of an aged belief are in order and in range. -/
theorem aged_du (b : BldV) (car : Int) (s : BelV) (c : CS) (hs : stateB b car s = true) : (∀ d ∈ (agedV b car s c).du, dutyB b (dlOf b car) d = true) ∧ (agedV b car s c).du.Pairwise (fun e d => key e < key d) ∧ ((agedV b car s c).late = true → (agedV b car s c).du = []) := by
  obtain ⟨_, hd, hp⟩ := (stateB_iff b car s).1 hs
  unfold agedV
  cases hl : agedLate (dlOf b car) s.du
  · simp only [Bool.false_eq_true, if_false]
    refine ⟨fun d hm => ?_, agedL_pair c _ hp, fun h => h.elim⟩
    obtain ⟨e, he, rfl⟩ := agedL_mem c _ d hm
    obtain ⟨h1, h2, h3⟩ := (dutyB_iff b _ e).1 (hd e he)
    have h4 : ¬ dlOf b car < e.2.2 + 1 := by
      unfold agedLate at hl
      have := (List.any_eq_false.1 hl) e he
      simpa using this
    exact (dutyB_iff b _ _).2 ⟨h1, by show 0 ≤ e.2.2 + 1; omega, by show e.2.2 + 1 ≤ _; omega⟩
  · simp
theorem observe_state (b : BldV) (car : Int) (s : BelV) (o : ObsV) (h : obsOk b car s o = true) : stateB b car (observeV b car s o) = true := by
  have h' := h
  unfold obsOk at h'
  rw [Bool.and_eq_true] at h'
  obtain ⟨hs, ho⟩ := h'
  obtain ⟨hh, _⟩ := (stateB_iff b car s).1 hs
  obtain ⟨a1, a2, a3, a4, a5, a6, _⟩ := (headB_iff b car s).1 hh
  obtain ⟨o0, o1, o2, o3⟩ := (obsB_iff _ _).1 ho
  obtain ⟨d1, d2, d3⟩ := aged_du b car s (showsV b.fl o) hs
  have e : observeV b car s o = ⟨if 0 ≤ o.1 then o.1 else s.fl, o.2.1, o.2.2, (agedV b car s (showsV b.fl o)).du, stillV s o, (agedV b car s (showsV b.fl o)).late⟩ := by
    unfold observeV; rw [if_pos h]
  rw [e]
  refine (stateB_iff _ _ _).2 ⟨(headB_iff _ _ _).2 ⟨a1, a2, ?_, o2, o3, stillV_range s o a6.1, d3⟩, d1, d2⟩
  show -1 ≤ (if 0 ≤ o.1 then o.1 else s.fl) ∧ (if 0 ≤ o.1 then o.1 else s.fl) ≤ b.fl - 1
  split <;> omega
/-! ### Injecting -/
theorem hUp_bit (b : BldV) (d : Int) (k n : Nat) (hk : k < 32) (hn : n ≤ 32) : (hUp b d n).getLsbD k = (decide (k < n) && callB b k d) := by
  induction n with
  | zero => simp [hUp]
  | succ n ih =>
    have hb : (bit (n : Int)).getLsbD k = decide (k = n) := by
      unfold bit
      rw [Int.toNat_natCast, BitVec.getLsbD_shiftLeft]
      by_cases h : k = n
      · subst h; simp [hk]
      · by_cases h2 : k < n
        · simp [h, h2]
        · have h3 : 0 < k - n := by omega
          have : (1#32).getLsbD (k - n) = false := by
            rw [BitVec.getLsbD_ofNat]
            have : Nat.testBit 1 (k - n) = false := by
              rw [show (1 : Nat) = 2 ^ 0 by rfl, Nat.testBit_two_pow]; simp; omega
            simp [this]
          simp [h, this]
    have ih' := ih (by omega)
    unfold hUp
    by_cases hc : callB b n d = true
    · rw [if_pos hc, BitVec.getLsbD_or, ih', hb]
      by_cases h : k = n
      · subst h; simp [hc]
      · have : (k < n + 1) ↔ k < n := by omega
        simp [h, this]
    · rw [if_neg hc, ih']
      by_cases h : k = n
      · subst h; simp [hc]
      · have : (k < n + 1) ↔ k < n := by omega
        simp [this]
theorem hall_has (b : BldV) (k : Nat) (d : Int) (hk : k < 32) (h1 : 1 ≤ d) (h2 : d ≤ 2) : has (hallC b) k d = callB b k d := by
  rcases (show d = 1 ∨ d = 2 by omega) with rfl | rfl
  · rw [has_up _ _ (by omega) (by omega), Int.toNat_natCast]
    show (hUp b 1 32).getLsbD k = _
    rw [hUp_bit b 1 k 32 hk (by omega)]; simp [hk]
  · rw [has_down _ _ (by omega) (by omega), Int.toNat_natCast]
    show (hUp b 2 32).getLsbD k = _
    rw [hUp_bit b 2 k 32 hk (by omega)]; simp [hk]
def keyE (p : Int × Int) : Int := 4 * p.1 + p.2
theorem listC_mem (c : CS) (p : Int × Int) (h : p ∈ listC c) : ∃ k : Nat, k < 32 ∧ p.1 = k ∧ (p.2 = 1 ∨ p.2 = 2) ∧ has c p.1 p.2 = true := by
  unfold listC listTo at h
  obtain ⟨k, hk, hp⟩ := List.mem_flatMap.1 h
  have hk' := List.mem_range.1 hk
  unfold rowOf item at hp
  rcases List.mem_append.1 hp with hp | hp
  · split at hp
    · rename_i hh; obtain rfl : p = ((k : Int), 1) := by simpa using hp
      exact ⟨k, hk', rfl, .inl rfl, hh⟩
    · simp at hp
  · split at hp
    · rename_i hh; obtain rfl : p = ((k : Int), 2) := by simpa using hp
      exact ⟨k, hk', rfl, .inr rfl, hh⟩
    · simp at hp
theorem rowOf_mem (c : CS) (k : Nat) (p : Int × Int) (h : p ∈ rowOf c k) : p.1 = k ∧ (p.2 = 1 ∨ p.2 = 2) := by
  unfold rowOf item at h
  rcases List.mem_append.1 h with h | h
  · split at h
    · obtain rfl : p = ((k : Int), 1) := by simpa using h
      exact ⟨rfl, .inl rfl⟩
    · simp at h
  · split at h
    · obtain rfl : p = ((k : Int), 2) := by simpa using h
      exact ⟨rfl, .inr rfl⟩
    · simp at h
theorem rowOf_pair (c : CS) (k : Nat) : (rowOf c k).Pairwise (fun p q => keyE p < keyE q) := by
  unfold rowOf item keyE
  split <;> split <;> simp
theorem listC_pair (c : CS) : (listC c).Pairwise (fun p q => keyE p < keyE q) := by
  unfold listC listTo
  generalize 32 = n
  induction n with
  | zero => simp
  | succ n ih =>
    rw [List.range_succ, List.flatMap_append, List.pairwise_append]
    refine ⟨ih, by simpa using rowOf_pair c n, fun p hp q hq => ?_⟩
    obtain ⟨k, hk, hp⟩ := List.mem_flatMap.1 hp
    have hk' := List.mem_range.1 hk
    obtain ⟨p1, p2⟩ := rowOf_mem c k p hp
    obtain ⟨q1, q2⟩ := rowOf_mem c n q (by simpa using hq)
    unfold keyE
    omega
theorem ageOf_mem (l : List Duty) (f d : Int) (h : 0 ≤ ageOf l f d) : ∃ e ∈ l, e.1 = f ∧ e.2.1 = d ∧ ageOf l f d = e.2.2 := by
  have key : ∀ (l : List Duty) (a : Int), (l.foldl (fun a x => if x.1 = f ∧ x.2.1 = d then x.2.2 else a) a = a) ∨ ∃ e ∈ l, e.1 = f ∧ e.2.1 = d ∧ l.foldl (fun a x => if x.1 = f ∧ x.2.1 = d then x.2.2 else a) a = e.2.2 := by
    intro l
    induction l with
    | nil => intro a; exact .inl rfl
    | cons x l ih =>
      intro a
      rw [List.foldl_cons]
      by_cases hx : x.1 = f ∧ x.2.1 = d
      · rw [if_pos hx]
        rcases ih x.2.2 with h | ⟨e, he, h1, h2, h3⟩
        · exact .inr ⟨x, List.mem_cons_self, hx.1, hx.2, h⟩
        · exact .inr ⟨e, List.mem_cons_of_mem _ he, h1, h2, h3⟩
      · rw [if_neg hx]
        rcases ih a with h | ⟨e, he, h1, h2, h3⟩
        · exact .inl h
        · exact .inr ⟨e, List.mem_cons_of_mem _ he, h1, h2, h3⟩
  rcases key l (-1) with h' | h'
  · unfold ageOf at h; omega
  · exact h'
theorem itemJ_mem (l : List Duty) (c : CS) (p : Int × Int) (d : Duty) (h : d ∈ itemJ l c p) : d.1 = p.1 ∧ d.2.1 = p.2 ∧ (d.2.2 = 0 ∨ (0 ≤ d.2.2 ∧ ∃ e ∈ l, d.2.2 = e.2.2)) := by
  unfold itemJ at h
  split at h
  · rename_i h0
    obtain rfl : d = _ := by simpa using h
    obtain ⟨e, he, _, _, h3⟩ := ageOf_mem l p.1 p.2 h0
    exact ⟨rfl, rfl, .inr ⟨h0, e, he, h3⟩⟩
  · split at h
    · obtain rfl : d = _ := by simpa using h
      exact ⟨rfl, rfl, .inl rfl⟩
    · simp at h
theorem itemJ_pair (l : List Duty) (c : CS) (p : Int × Int) : (itemJ l c p).Pairwise (fun e d => key e < key d) := by
  unfold itemJ
  split
  · simp
  · split <;> simp
theorem injectL_pair (l : List Duty) (c : CS) (all : List (Int × Int)) (h : all.Pairwise (fun p q => keyE p < keyE q)) : (injectL l c all).Pairwise (fun e d => key e < key d) := by
  unfold injectL
  induction all with
  | nil => simp
  | cons p t ih =>
    rw [List.pairwise_cons] at h
    rw [List.flatMap_cons, List.pairwise_append]
    refine ⟨itemJ_pair l c p, ih h.2, fun e he d hd => ?_⟩
    obtain ⟨q, hq, hd⟩ := List.mem_flatMap.1 hd
    have hpq := h.1 q hq
    obtain ⟨e1, e2, _⟩ := itemJ_mem l c p e he
    obtain ⟨d1, d2, _⟩ := itemJ_mem l c q d hd
    unfold keyE at hpq
    unfold key
    omega
theorem dl_pos (b : BldV) (car : Int) (s : BelV) (hs : stateB b car s = true) : 1 ≤ dlOf b car := by
  obtain ⟨c, _, _, hg, hd⟩ := car_at b car (stateB_car _ _ _ hs)
  have hv := state_valid _ _ _ hs
  have hgood : goodB b b.cars.length = true := by
    cases e : goodB b b.cars.length
    · exfalso
      unfold validN at hv
      rw [e] at hv
      revert hv
      cases inAll 2 32 [b.fl] <;> cases inAll 1 8 [(b.cars.length : Int)] <;> simp
    · rfl
  unfold goodB at hgood
  rw [List.take_length] at hgood
  simp only [Bool.and_eq_true, List.all_eq_true] at hgood
  have := hgood.2 c (List.mem_of_getElem? hg)
  unfold timesB inAll at this
  simp only [List.all_cons, Bool.and_eq_true] at this
  have := ((inR_iff _ _ _).1 this.1.1.1.1).1
  rw [hd]; exact this
theorem inject_state (b : BldV) (car : Int) (s : BelV) (c : CS) (hs : stateB b car s = true) : stateB b car (injectV b car s c) = true := by
  obtain ⟨hh, hd, hp⟩ := (stateB_iff b car s).1 hs
  obtain ⟨a1, a2, a3, a4, a5, a6, a7⟩ := (headB_iff b car s).1 hh
  have e : injectV b car s c = ⟨s.fl, s.dir, s.door, injectL s.du c (listC (hallC b)), s.still, if 0 < (injectL s.du c (listC (hallC b))).length then false else s.late⟩ := by
    unfold injectV; rw [if_pos hs]
  rw [e]
  refine (stateB_iff _ _ _).2 ⟨(headB_iff _ _ _).2 ⟨a1, a2, a3, a4, a5, a6, fun h => ?_⟩, fun d hm => ?_, injectL_pair _ _ _ (listC_pair _)⟩
  · show injectL s.du c (listC (hallC b)) = []
    change (if 0 < (injectL s.du c (listC (hallC b))).length then false else s.late) = true at h
    split at h
    · cases h
    · rename_i h0; exact List.length_eq_zero_iff.1 (by omega)
  · obtain ⟨p, hpm, hdm⟩ := List.mem_flatMap.1 hm
    obtain ⟨k, hk, p1, p2, hh⟩ := listC_mem _ p hpm
    obtain ⟨d1, d2, d3⟩ := itemJ_mem _ _ _ _ hdm
    have hc : callB b d.1 d.2.1 = true := by
      rw [d1, d2, p1, ← hall_has b k p.2 hk (by omega) (by omega), ← p1]; exact hh
    have := dl_pos b car s hs
    refine (dutyB_iff b _ d).2 ⟨hc, ?_⟩
    rcases d3 with h0 | ⟨h0, e, he, h1⟩
    · omega
    · have := (dutyB_iff b _ e).1 (hd e he)
      omega
end Go.Proofs.Ytfmmiafdlfdfoaa
