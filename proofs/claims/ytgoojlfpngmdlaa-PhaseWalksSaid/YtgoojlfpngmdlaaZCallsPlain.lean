/- Plain laws of sets of calls: the calls of a set make it up; counts add up; what is above, below and at a floor. No program in sight. -/
import Derived.Test.YtgoojlfpngmdlaaZCallsMore
namespace Go.Proofs.Ytgoojlfpngmdlaa

def ofL (l : List (Int × Int)) : CS := l.foldl (fun c p => union c (one p.1 p.2)) (0#32, 0#32)
theorem ofL_snoc (l : List (Int × Int)) (p : Int × Int) : ofL (l ++ [p]) = union (ofL l) (one p.1 p.2) := by simp [ofL]
/-- A call of a building. -/
def Real (p : Int × Int) : Prop := 0 ≤ p.1 ∧ p.1 < 32 ∧ (p.2 = 1 ∨ p.2 = 2)

theorem bit_at (f : Int) (h0 : 0 ≤ f) (h1 : f < 32) (i : Nat) : (bit f).getLsbD i = decide ((i : Int) = f) := by
  obtain ⟨n, rfl⟩ := Int.eq_ofNat_of_zero_le h0
  unfold bit
  rw [Int.toNat_natCast, one_shift n i (by omega)]
  congr 1
  exact propext ⟨fun h => by omega, fun h => by omega⟩
theorem fold_bits (l : List (Int × Int)) (i : Nat) : ∀ c : CS, (∀ p ∈ l, Real p) → (l.foldl (fun c p => union c (one p.1 p.2)) c).1.getLsbD i = (c.1.getLsbD i || decide (((i : Int), (1 : Int)) ∈ l)) ∧ (l.foldl (fun c p => union c (one p.1 p.2)) c).2.getLsbD i = (c.2.getLsbD i || decide (((i : Int), (2 : Int)) ∈ l)) := by
  induction l with
  | nil => simp
  | cons p l ih =>
    intro c hl
    obtain ⟨i1, i2⟩ := ih (union c (one p.1 p.2)) (fun q hq => hl q (by simp [hq]))
    obtain ⟨r0, r1, r2⟩ := hl p (by simp)
    obtain ⟨f, d⟩ := p
    simp only at r0 r1 r2
    rw [List.foldl_cons, i1, i2]
    rcases r2 with rfl | rfl
    · rw [one_up f r0 r1]
      simp only [union, BitVec.getLsbD_or, bit_at f r0 r1, List.mem_cons, Prod.mk.injEq]
      constructor <;> simp [Bool.or_assoc]
    · rw [one_down f r0 r1]
      simp only [union, BitVec.getLsbD_or, bit_at f r0 r1, List.mem_cons, Prod.mk.injEq]
      constructor <;> simp [Bool.or_assoc]
theorem ofL_bits (l : List (Int × Int)) (hl : ∀ p ∈ l, Real p) (i : Nat) : (ofL l).1.getLsbD i = decide (((i : Int), (1 : Int)) ∈ l) ∧ (ofL l).2.getLsbD i = decide (((i : Int), (2 : Int)) ∈ l) := by
  have := fold_bits l i (0#32, 0#32) hl
  simpa [ofL] using this
theorem mem_item (c : CS) (f d : Int) (p : Int × Int) : p ∈ item c f d ↔ p = (f, d) ∧ has c f d = true := by
  unfold item; split <;> simp_all
theorem mem_listTo (c : CS) (k : Nat) (p : Int × Int) : p ∈ listTo c k ↔ ∃ i : Nat, i < k ∧ (p = ((i : Int), 1) ∧ has c i 1 = true ∨ p = ((i : Int), 2) ∧ has c i 2 = true) := by
  simp only [listTo, List.mem_flatMap, List.mem_range, rowOf, List.mem_append, mem_item]
theorem listC_real (c : CS) : ∀ p ∈ listC c, Real p := by
  intro p hp
  obtain ⟨i, hi, h | h⟩ := (mem_listTo c 32 p).1 hp
  · rw [h.1]; exact ⟨by simp, by simp only; omega, .inl rfl⟩
  · rw [h.1]; exact ⟨by simp, by simp only; omega, .inr rfl⟩
theorem listC_has (c : CS) (p : Int × Int) (hp : p ∈ listC c) : has c p.1 p.2 = true := by
  obtain ⟨i, hi, h | h⟩ := (mem_listTo c 32 p).1 hp
  · rw [h.1]; exact h.2
  · rw [h.1]; exact h.2
theorem mem_listC (c : CS) (p : Int × Int) (h : Real p) (hh : has c p.1 p.2 = true) : p ∈ listC c := by
  obtain ⟨f, d⟩ := p
  obtain ⟨r0, r1, r2⟩ := h
  simp only at r0 r1 r2 hh
  obtain ⟨n, rfl⟩ := Int.eq_ofNat_of_zero_le r0
  refine (mem_listTo c 32 _).2 ⟨n, by omega, ?_⟩
  rcases r2 with rfl | rfl
  · exact .inl ⟨rfl, hh⟩
  · exact .inr ⟨rfl, hh⟩
/-- A set is the union of its calls. -/
theorem ofL_listC (c : CS) : ofL (listC c) = c := by
  have hb := ofL_bits (listC c) (listC_real c)
  have e1 : ∀ i, i < 32 → (ofL (listC c)).1.getLsbD i = c.1.getLsbD i := fun i hi => by
    rw [(hb i).1]
    have hu := has_up c i (by omega) (by omega)
    rw [Int.toNat_natCast] at hu
    cases hc : c.1.getLsbD i
    · rw [decide_eq_false]; intro hm; have := listC_has c _ hm; simp only at this; rw [hu, hc] at this; cases this
    · rw [decide_eq_true]; exact mem_listC c _ ⟨by simp, by simp only; omega, .inl rfl⟩ (by simp only; rw [hu, hc])
  have e2 : ∀ i, i < 32 → (ofL (listC c)).2.getLsbD i = c.2.getLsbD i := fun i hi => by
    rw [(hb i).2]
    have hu := has_down c i (by omega) (by omega)
    rw [Int.toNat_natCast] at hu
    cases hc : c.2.getLsbD i
    · rw [decide_eq_false]; intro hm; have := listC_has c _ hm; simp only at this; rw [hu, hc] at this; cases this
    · rw [decide_eq_true]; exact mem_listC c _ ⟨by simp, by simp only; omega, .inr rfl⟩ (by simp only; rw [hu, hc])
  exact Prod.ext (BitVec.eq_of_getLsbD_eq e1) (BitVec.eq_of_getLsbD_eq e2)
theorem listTo_nodup (c : CS) (k : Nat) : (listTo c k).Nodup := by
  induction k with
  | zero => simp [listTo]
  | succ k ih =>
    rw [listTo_succ, List.append_assoc]
    have hk : ∀ p ∈ listTo c k, p.1 < (k : Int) := fun p hp => by
      obtain ⟨i, hi, h | h⟩ := (mem_listTo c k p).1 hp <;> rw [h.1] <;> simp only <;> omega
    refine List.nodup_append.2 ⟨ih, List.nodup_append.2 ⟨?_, ?_, ?_⟩, ?_⟩
    · unfold item; split <;> simp
    · unfold item; split <;> simp
    · intro a ha b hb e
      have h1 := ((mem_item _ _ _ _).1 ha).1; have h2 := ((mem_item _ _ _ _).1 hb).1
      rw [h1, h2] at e; simp at e
    · intro a ha b hb e
      subst e
      have h1 := hk a ha
      rcases List.mem_append.1 hb with h | h
      · rw [((mem_item _ _ _ _).1 h).1] at h1; simp at h1
      · rw [((mem_item _ _ _ _).1 h).1] at h1; simp at h1
/-- No call comes twice. -/
theorem listC_fresh (c : CS) (i : Nat) (p : Int × Int) (hp : (listC c)[i]? = some p) : both (ofL ((listC c).take i)) (one p.1 p.2) = (0#32, 0#32) := by
  have hi : i < (listC c).length := (List.getElem?_eq_some_iff.1 hp).1
  have hnot : p ∉ (listC c).take i := by
    intro hm
    have hn := listTo_nodup c 32
    have hs : listC c = (listC c).take i ++ (listC c).drop i := (List.take_append_drop i _).symm
    have hd : p ∈ (listC c).drop i := by
      rw [List.drop_eq_getElem_cons hi]
      have := (List.getElem?_eq_some_iff.1 hp).2
      rw [this]; exact List.mem_cons_self ..
    change (listC c).Nodup at hn
    rw [hs] at hn
    exact (List.nodup_append.1 hn).2.2 p hm p hd rfl
  have hreal := listC_real c p (List.mem_of_getElem? hp)
  have hb := ofL_bits ((listC c).take i) (fun q hq => listC_real c q (List.mem_of_mem_take hq))
  have hh : has (ofL ((listC c).take i)) p.1 p.2 = false := by
    obtain ⟨f, d⟩ := p
    obtain ⟨r0, r1, r2⟩ := hreal
    simp only at r0 r1 r2 hnot ⊢
    obtain ⟨n, rfl⟩ := Int.eq_ofNat_of_zero_le r0
    rcases r2 with rfl | rfl
    · rw [has_up _ _ r0 r1, Int.toNat_natCast, (hb n).1]; simpa using hnot
    · rw [has_down _ _ r0 r1, Int.toNat_natCast, (hb n).2]; simpa using hnot
  unfold has at hh
  simpa using hh
theorem take_snoc (l : List (Int × Int)) (i : Nat) (p : Int × Int) (h : l[i]? = some p) : l.take (i + 1) = l.take i ++ [p] := by
  have hi : i < l.length := (List.getElem?_eq_some_iff.1 h).1
  rw [List.take_add_one, h]; rfl

theorem popTo_two (x y : BitVec 32) (k : Nat) : popTo (x ||| y) k + popTo (x &&& y) k = popTo x k + popTo y k := by
  induction k with
  | zero => rfl
  | succ k ih =>
    simp only [popTo_succ, BitVec.getLsbD_or, BitVec.getLsbD_and]
    cases x.getLsbD k <;> cases y.getLsbD k <;> simp <;> omega
theorem count_two (a b : CS) : (listC (union a b)).length + (listC (both a b)).length = (listC a).length + (listC b).length := by
  simp only [listC_pop, union, both]
  have h1 := popTo_two a.1 b.1 32; have h2 := popTo_two a.2 b.2 32
  unfold pop; omega
theorem pop_zero : pop 0#32 = 0 := by decide
theorem minus_both (a b : CS) : union (minus a b) (both a b) = a := by
  refine Prod.ext ?_ ?_ <;> (simp only [union, minus, both]; apply BitVec.eq_of_getLsbD_eq; intro i hi; simp only [BitVec.getLsbD_or, BitVec.getLsbD_and, BitVec.getLsbD_not, hi, decide_true, Bool.true_and]; cases a.1.getLsbD i <;> cases a.2.getLsbD i <;> cases b.1.getLsbD i <;> cases b.2.getLsbD i <;> rfl)
def atC (a : CS) (f : Int) : CS := both a (union (one f 1) (one f 2))
theorem atC_bits (a : CS) (f : Int) (h0 : 0 ≤ f) (h1 : f < 32) : atC a f = both a (bit f, bit f) := by
  unfold atC; rw [one_up f h0 h1, one_down f h0 h1]; simp [union]
theorem three_bits (x : BitVec 32) (f : Int) (h0 : 0 ≤ f) (h1 : f < 32) : (x &&& up f) ||| (x &&& down f) ||| (x &&& bit f) = x ∧ (x &&& up f) &&& (x &&& down f) = 0#32 ∧ ((x &&& up f) ||| (x &&& down f)) &&& (x &&& bit f) = 0#32 := by
  have hu : ∀ i, i < 32 → (up f).getLsbD i = decide (f < (i : Int)) := fun i hi => by rw [up, rng_bit _ _ _ (by omega)]; simp [hi]
  have hd : ∀ i, i < 32 → (down f).getLsbD i = decide ((i : Int) < f) := fun i hi => by rw [down, rng_bit _ _ _ (by omega)]; simp [hi]
  refine ⟨?_, ?_, ?_⟩
  all_goals
    apply BitVec.eq_of_getLsbD_eq
    intro i hi
    simp only [BitVec.getLsbD_or, BitVec.getLsbD_and, hu i hi, hd i hi, bit_at f h0 h1, BitVec.getLsbD_zero]
    rcases Int.lt_trichotomy (i : Int) f with h | h | h
    · have e1 : ¬ f < (i : Int) := by omega
      have e2 : ¬ (i : Int) = f := by omega
      simp [h, e1, e2]
    · simp [h]
    · have e1 : ¬ (i : Int) < f := by omega
      have e2 : ¬ (i : Int) = f := by omega
      simp [h, e1, e2]
theorem three_parts (a : CS) (f : Int) (h0 : 0 ≤ f) (h1 : f < 32) : union (union (above a f) (belowC a f)) (atC a f) = a := by
  rw [atC_bits a f h0 h1]
  exact Prod.ext (three_bits a.1 f h0 h1).1 (three_bits a.2 f h0 h1).1
theorem three_counts (a : CS) (f : Int) (h0 : 0 ≤ f) (h1 : f < 32) : (listC (above a f)).length + (listC (belowC a f)).length + (listC (atC a f)).length = (listC a).length := by
  have e1 := count_two (above a f) (belowC a f)
  have e2 := count_two (union (above a f) (belowC a f)) (atC a f)
  have z1 : both (above a f) (belowC a f) = (0#32, 0#32) := Prod.ext (three_bits a.1 f h0 h1).2.1 (three_bits a.2 f h0 h1).2.1
  have z2 : both (union (above a f) (belowC a f)) (atC a f) = (0#32, 0#32) := by
    rw [atC_bits a f h0 h1]; exact Prod.ext (three_bits a.1 f h0 h1).2.2 (three_bits a.2 f h0 h1).2.2
  rw [z1] at e1
  rw [z2, three_parts a f h0 h1] at e2
  have z : (listC (0#32, 0#32)).length = 0 := by rw [listC_pop]; rfl
  rw [z] at e1 e2
  omega
theorem count_le (c : CS) : (listC c).length ≤ 64 := by
  rw [listC_pop]; have := pop_le c.1; have := pop_le c.2; omega
end Go.Proofs.Ytgoojlfpngmdlaa
