/- The collective rule on sets of floors, as the reference has it, and on Booleans: the same. Conditions: those of each theorem. -/
import Derived.Test.YtfmmiafdlfdfoaaZCallsList
import Derived.Test.YtfmmiafdlfdfoaaZCallsPlain
namespace Go.Proofs.Ytfmmiafdlfdfoaa
namespace Rel
open Go.RowKit
abbrev StV : Type := BitVec 32 × CS
def upF (x : BitVec 32) (p : Int) : Nat → Nat → Bool × Int
  | 0, _ => (false, 0)
  | k + 1, f => if x.getLsbD f then (true, (f : Int) - p) else upF x p k (f + 1)
def dnF (x : BitVec 32) (p : Int) : Nat → Bool × Int
  | 0 => (false, 0)
  | k + 1 => if x.getLsbD k then (true, p - k) else dnF x p k
def anyV (s : StV) : BitVec 32 := s.1 ||| s.2.1 ||| s.2.2
def aboveV (s : StV) (p : Int) : Bool × Int := upF (anyV s) p (31 - p).toNat (p + 1).toNat
def belowV (s : StV) (p : Int) : Bool × Int := dnF (anyV s) p p.toNat
def nearV (a b : Bool × Int) : Int := if a.1 && (!b.1 || decide (a.2 ≤ b.2)) then 1 else if b.1 then 2 else 0
def allM (n : Int) : BitVec 32 := 1#32 <<< n.toNat - 1#32
def properV (n : Int) (s : StV) : StV := if n < 1 ∨ 32 < n then (0#32, (0#32, 0#32)) else (s.1 &&& allM n, (s.2.1 &&& allM n &&& ~~~bit (n - 1), s.2.2 &&& allM n &&& ~~~1#32))
def markV (o p : Int) (s : StV) : StV := (if o = 0 then 0#32 else s.1 &&& bit p, (if bt o 1 then s.2.1 &&& bit p else 0#32, if bt o 2 then s.2.2 &&& bit p else 0#32))
def countV (o p : Int) (s : StV) : Int := if markV o p s = s then 0 else o
def guardS (n r o p : Int) : Bool := decide (n < 2 ∨ 32 < n ∨ p < 0 ∨ n ≤ p ∨ r < 0 ∨ 2 < r ∨ o < 0 ∨ 7 < o)
def spentV (n r o p : Int) (s : StV) : StV := if guardS n r o p then (0#32, (0#32, 0#32)) else markV (countV o p (properV n s)) p (properV n s)
def liveV (s x : StV) : StV := (s.1 &&& ~~~x.1, minus s.2 x.2)
/-- The choice among stops that count. -/
def lookC (n r o p : Int) (s : StV) : Int × Int × Int :=
  chooseC r (has (liveV s (spentV n r o p s)).2 p 1) (has (liveV s (spentV n r o p s)).2 p 2) ((liveV s (spentV n r o p s)).1.getLsbD p.toNat) (aboveV s p).1 (belowV s p).1 (nearV (aboveV s p) (belowV s p))
def chooseV (n r o p : Int) (s : StV) : Int × Int × Int := if guardS n r o p then (0, 0, 0) else lookC n r o p (properV n s)
def nextV (n r o p : Int) (s : StV) : Int × Int := if guardS n r o p then (0, 0) else if (chooseV n r o p s).1 = 3 then ((chooseV n r o p s).2.1, orB (countV o p (properV n s)) (chooseV n r o p s).2.2) else ((chooseV n r o p s).2.1, 0)
/-! ### The same on Booleans -/
theorem upF_iff (x : BitVec 32) (p : Int) : ∀ k f, (upF x p k f).1 = true ↔ ∃ g, f ≤ g ∧ g < f + k ∧ x.getLsbD g = true := by
  intro k
  induction k with
  | zero => intro f; simp only [upF]; exact ⟨fun h => by simp at h, fun ⟨g, h1, h2, _⟩ => by omega⟩
  | succ k ih =>
    intro f
    unfold upF
    by_cases h : x.getLsbD f = true
    · rw [if_pos h]
      exact ⟨fun _ => ⟨f, Nat.le_refl _, by omega, h⟩, fun _ => rfl⟩
    · rw [if_neg h, ih]
      constructor
      · rintro ⟨g, h1, h2, h3⟩; exact ⟨g, by omega, by omega, h3⟩
      · rintro ⟨g, h1, h2, h3⟩
        by_cases e : g = f
        · subst e; exact absurd h3 h
        · exact ⟨g, by omega, by omega, h3⟩
theorem dnF_iff (x : BitVec 32) (p : Int) : ∀ k, (dnF x p k).1 = true ↔ ∃ g, g < k ∧ x.getLsbD g = true := by
  intro k
  induction k with
  | zero => simp only [dnF]; exact ⟨fun h => by simp at h, fun ⟨g, h1, _⟩ => by omega⟩
  | succ k ih =>
    unfold dnF
    by_cases h : x.getLsbD k = true
    · rw [if_pos h]
      exact ⟨fun _ => ⟨k, by omega, h⟩, fun _ => rfl⟩
    · rw [if_neg h, ih]
      constructor
      · rintro ⟨g, h1, h3⟩; exact ⟨g, by omega, h3⟩
      · rintro ⟨g, h1, h3⟩
        by_cases e : g = k
        · subst e; exact absurd h3 h
        · exact ⟨g, by omega, h3⟩
theorem above_iff {s : StV} {p : Nat} (hp : p < 32) : (aboveV s p).1 = true ↔ ∃ g, p < g ∧ g < 32 ∧ (anyV s).getLsbD g = true := by
  unfold aboveV
  rw [upF_iff]
  constructor
  · rintro ⟨g, h1, h2, h3⟩; exact ⟨g, by omega, by omega, h3⟩
  · rintro ⟨g, h1, h2, h3⟩; exact ⟨g, by omega, by omega, h3⟩
theorem below_iff {s : StV} {p : Nat} : (belowV s p).1 = true ↔ ∃ g, g < p ∧ (anyV s).getLsbD g = true := by
  unfold belowV
  rw [dnF_iff, Int.toNat_natCast]
theorem near_ok (a b : Bool × Int) : (nearV a b = 0 ∨ nearV a b = 1 ∨ nearV a b = 2) ∧ (nearV a b != 1 || a.1) = true ∧ (nearV a b != 2 || b.1) = true ∧ (!(a.1 || b.1) || nearV a b != 0) = true := by
  unfold nearV
  cases a.1 <;> cases b.1 <;> simp
  split <;> simp <;> omega
theorem bitp {p : Nat} (hp : p < 32) (i : Nat) : (bit (p : Int)).getLsbD i = decide (i = p) := by
  unfold bit
  rw [Int.toNat_natCast, one_shift p i hp]
theorem bv_ext {x y : BitVec 32} (h : ∀ i, i < 32 → x.getLsbD i = y.getLsbD i) : x = y := BitVec.eq_of_getLsbD_eq h
theorem mark_car {x : BitVec 32} {p : Nat} (hp : p < 32) (c : Prop) [Decidable c] : (if c then x &&& bit (p : Int) else 0#32) = x ↔ (∀ i, i < 32 → i ≠ p → x.getLsbD i = false) ∧ (x.getLsbD p = true → c) := by
  constructor
  · intro h
    refine ⟨fun i hi hne => ?_, fun hx => ?_⟩
    · rw [← h]
      split
      · rw [BitVec.getLsbD_and, bitp hp]; simp [hne]
      · simp
    · by_cases hc : c
      · exact hc
      · rw [if_neg hc] at h; rw [← h] at hx; simp at hx
  · rintro ⟨h1, h2⟩
    refine bv_ext fun i hi => ?_
    by_cases e : i = p
    · subst e
      by_cases hc : c
      · rw [if_pos hc, BitVec.getLsbD_and, bitp hp]; simp
      · rw [if_neg hc]
        cases hx : x.getLsbD i
        · simp
        · exact absurd (h2 hx) hc
    · rw [h1 i hi e]
      split
      · rw [BitVec.getLsbD_and, bitp hp]; simp [e]
      · simp
theorem any_bit (s : StV) (i : Nat) : (anyV s).getLsbD i = (s.1.getLsbD i || s.2.1.getLsbD i || s.2.2.getLsbD i) := by simp [anyV]
theorem count_eq {o : Int} {p : Nat} {s : StV} (hp : p < 32) : countV o p s = cntB o (s.1.getLsbD p) (s.2.1.getLsbD p) (s.2.2.getLsbD p) (aboveV s p).1 (belowV s p).1 := by
  have key : markV o p s = s ↔ ((aboveV s p).1 = false ∧ (belowV s p).1 = false) ∧ (s.1.getLsbD p = true → o ≠ 0) ∧ (s.2.1.getLsbD p = true → bt o 1 = true) ∧ (s.2.2.getLsbD p = true → bt o 2 = true) := by
    have e1 : markV o p s = s ↔ (if o ≠ 0 then s.1 &&& bit (p : Int) else 0#32) = s.1 ∧ (if bt o 1 = true then s.2.1 &&& bit (p : Int) else 0#32) = s.2.1 ∧ (if bt o 2 = true then s.2.2 &&& bit (p : Int) else 0#32) = s.2.2 := by
      obtain ⟨a, b, c⟩ := s
      unfold markV
      simp only [Prod.mk.injEq, ne_eq, ite_not]
    rw [e1, mark_car hp, mark_car hp, mark_car hp]
    have e2 : ((aboveV s p).1 = false ∧ (belowV s p).1 = false) ↔ ∀ i, i < 32 → i ≠ p → (anyV s).getLsbD i = false := by
      constructor
      · rintro ⟨h1, h2⟩ i hi hne
        cases hx : (anyV s).getLsbD i
        · rfl
        · rcases Nat.lt_or_gt_of_ne hne with h | h
          · have := below_iff.2 ⟨i, h, hx⟩; rw [h2] at this; cases this
          · have := (above_iff hp).2 ⟨i, h, hi, hx⟩; rw [h1] at this; cases this
      · intro h
        constructor
        · cases hx : (aboveV s p).1
          · rfl
          · obtain ⟨g, h1, h2, h3⟩ := (above_iff hp).1 hx
            rw [h g h2 (by omega)] at h3; cases h3
        · cases hx : (belowV s p).1
          · rfl
          · obtain ⟨g, h1, h3⟩ := below_iff.1 hx
            rw [h g (by omega) (by omega)] at h3; cases h3
    rw [e2]
    simp only [any_bit, Bool.or_eq_false_iff]
    constructor
    · rintro ⟨⟨a1, a2⟩, ⟨b1, b2⟩, c1, c2⟩
      exact ⟨fun i hi hne => ⟨⟨a1 i hi hne, b1 i hi hne⟩, c1 i hi hne⟩, a2, b2, c2⟩
    · rintro ⟨h, a2, b2, c2⟩
      exact ⟨⟨fun i hi hne => (h i hi hne).1.1, a2⟩, ⟨fun i hi hne => (h i hi hne).1.2, b2⟩, fun i hi hne => (h i hi hne).2, c2⟩
  unfold countV cntB
  by_cases h : markV o p s = s
  · rw [if_pos h]
    obtain ⟨⟨h1, h2⟩, h3, h4, h5⟩ := key.1 h
    rw [h1, h2, if_pos]
    cases c1 : s.1.getLsbD p <;> cases c2 : s.2.1.getLsbD p <;> cases c3 : s.2.2.getLsbD p <;> simp [c1, c2, c3] at h3 h4 h5 ⊢ <;> simp [h3, h4, h5]
  · rw [if_neg h]
    split
    · rename_i hc
      exfalso
      refine h (key.2 ?_)
      simp only [Bool.and_eq_true, Bool.not_eq_true', Bool.or_eq_true, bne_iff_ne, ne_eq] at hc
      obtain ⟨⟨⟨⟨h1, h2⟩, h3⟩, h4⟩, h5⟩ := hc
      refine ⟨⟨h1, h2⟩, fun hx => ?_, fun hx => ?_, fun hx => ?_⟩
      · rcases h3 with h3 | h3
        · rw [hx] at h3; cases h3
        · exact h3
      · rcases h4 with h4 | h4
        · rw [hx] at h4; cases h4
        · exact h4
      · rcases h5 with h5 | h5
        · rw [hx] at h5; cases h5
        · exact h5
    · rfl
theorem live_one {x : BitVec 32} {p : Nat} (hp : p < 32) (c : Prop) [Decidable c] : (x &&& ~~~(if c then x &&& bit (p : Int) else 0#32)).getLsbD p = (x.getLsbD p && !decide c) := by
  rw [BitVec.getLsbD_and, BitVec.getLsbD_not]
  by_cases h : c
  · rw [if_pos h, BitVec.getLsbD_and, bitp hp]; cases hx : x.getLsbD p <;> simp [h]
  · rw [if_neg h, BitVec.getLsbD_zero]; simp [h, hp]
theorem live_bits {c : Int} {p : Nat} {s : StV} (hp : p < 32) : has (liveV s (markV c p s)).2 p 1 = (s.2.1.getLsbD p && !bt c 1) ∧ has (liveV s (markV c p s)).2 p 2 = (s.2.2.getLsbD p && !bt c 2) ∧ (liveV s (markV c p s)).1.getLsbD p = (s.1.getLsbD p && c == 0) := by
  refine ⟨?_, ?_, ?_⟩
  · rw [has_up _ _ (by omega) (by omega), Int.toNat_natCast]
    show (s.2.1 &&& ~~~(if bt c 1 = true then s.2.1 &&& bit (p : Int) else 0#32)).getLsbD p = _
    rw [live_one hp]; simp
  · rw [has_down _ _ (by omega) (by omega), Int.toNat_natCast]
    show (s.2.2 &&& ~~~(if bt c 2 = true then s.2.2 &&& bit (p : Int) else 0#32)).getLsbD p = _
    rw [live_one hp]; simp
  · have h := live_one (x := s.1) hp (c ≠ 0)
    have e : (if c ≠ 0 then s.1 &&& bit (p : Int) else 0#32) = (markV c p s).1 := by
      unfold markV
      simp only [ne_eq, ite_not]
    rw [e] at h
    refine h.trans ?_
    by_cases hc : c = 0 <;> simp [hc]
/-- A decision, on Booleans. -/
theorem choose_eq {n r o : Int} {p : Nat} {s : StV} (hg : guardS n r o p = false) (hs : properV n s = s) :
    chooseV n r o p s = (decC r o (s.1.getLsbD p) (s.2.1.getLsbD p) (s.2.2.getLsbD p) (aboveV s p).1 (belowV s p).1 (nearV (aboveV s p) (belowV s p))).1
    ∧ nextV n r o p s = ((decC r o (s.1.getLsbD p) (s.2.1.getLsbD p) (s.2.2.getLsbD p) (aboveV s p).1 (belowV s p).1 (nearV (aboveV s p) (belowV s p))).1.2.1, (decC r o (s.1.getLsbD p) (s.2.1.getLsbD p) (s.2.2.getLsbD p) (aboveV s p).1 (belowV s p).1 (nearV (aboveV s p) (belowV s p))).2) := by
  have hp : p < 32 := by
    unfold guardS at hg
    simp only [decide_eq_false_iff_not] at hg
    omega
  have hc : chooseV n r o p s = (decC r o (s.1.getLsbD p) (s.2.1.getLsbD p) (s.2.2.getLsbD p) (aboveV s p).1 (belowV s p).1 (nearV (aboveV s p) (belowV s p))).1 := by
    unfold chooseV
    rw [hg, hs]
    simp only [Bool.false_eq_true, if_false]
    unfold lookC spentV
    rw [hg, hs]
    simp only [Bool.false_eq_true, if_false]
    obtain ⟨h1, h2, h3⟩ := live_bits (c := countV o p s) (s := s) hp
    rw [h1, h2, Int.toNat_natCast, h3, count_eq hp]
    rfl
  refine ⟨hc, ?_⟩
  unfold nextV
  rw [hg, hs, hc]
  simp only [Bool.false_eq_true, if_false]
  unfold decC
  simp only
  rw [← count_eq hp]
  split <;> rfl
end Rel
end Go.Proofs.Ytfmmiafdlfdfoaa
