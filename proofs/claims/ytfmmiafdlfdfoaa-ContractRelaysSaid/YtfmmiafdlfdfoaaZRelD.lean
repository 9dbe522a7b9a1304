/- A relay car shows each of its calls within its promise: decisions and ticks. Conditions: those of each theorem. -/
import Derived.Test.YtfmmiafdlfdfoaaZRelC
namespace Go.Proofs.Ytfmmiafdlfdfoaa
namespace Rel
open Go.RowKit
def cxT (t n p : Int) : Int := if t = 1 then p else n - 1 - p
def cyc (c : CfgV) : Int := 2 * c.t + c.d
def wid (c : CfgV) : Int := 3 * cyc c + c.s + 2
def promise (n : Int) (c : CfgV) : Int := (3 * n + 1) * wid c
def phi (n : Int) (c : CfgV) (f t r p o : Int) : Int := rank (n - 1) (cxT t n p) (cxT t n f) r t o * wid c + leftO o * cyc c + c.s
/-- An upper bound on the ticks until the call is shown. -/
def psi (n : Int) (c : CfgV) (f t : Int) (s : RelV) : Int :=
  if s.st = 0 then phi n c f t s.dr s.fl s.op + 1
  else if s.st = 1 then s.tm + phi n c f t s.dr (nextF s.fl s.dr) 0
  else if s.st = 2 then (if s.fl = f ∧ s.dr = t then s.tm else s.tm + c.d + c.t + phi n c f t s.dr s.fl s.op)
  else if s.st = 3 then s.tm + c.t + phi n c f t s.dr s.fl s.op
  else s.tm + phi n c f t s.dr s.fl s.op
def CfgOk (c : CfgV) : Prop := (1 ≤ c.s ∧ c.s ≤ 1000) ∧ (1 ≤ c.t ∧ c.t ≤ 1000) ∧ (1 ≤ c.d ∧ c.d ≤ 1000)
/-- A call of the building. -/
def CallOk (n : Int) (f : Nat) (t : Int) : Prop := (t = 1 ∧ (f : Int) ≤ n - 2) ∨ (t = 2 ∧ 1 ≤ (f : Int) ∧ (f : Int) ≤ n - 1)
def callBit (s : CS) (f : Nat) (t : Int) : Bool := if t = 1 then s.1.getLsbD f else s.2.getLsbD f
theorem has_call {s : CS} {n : Int} {f : Nat} {t : Int} (h : CallOk n f t) (h32 : n ≤ 32) : has s f t = callBit s f t := by
  unfold callBit
  rcases h with ⟨rfl, h⟩ | ⟨rfl, h⟩
  · rw [has_up _ _ (by omega) (by omega)]; simp
  · rw [has_down _ _ (by omega) (by omega)]; simp
def Shown (f : Nat) (t : Int) (s : RelV) : Prop := s.st = 3 ∧ s.fl = (f : Int) ∧ s.dr = t
theorem cx_range {t n p : Int} (_ : t = 1 ∨ t = 2) (hp : 0 ≤ p ∧ p < n) : 0 ≤ cxT t n p ∧ cxT t n p ≤ n - 1 := by
  unfold cxT; split <;> omega
theorem cx_call {n : Int} {f : Nat} {t : Int} (h : CallOk n f t) : 0 ≤ cxT t n f ∧ cxT t n f < n - 1 := by
  unfold cxT
  rcases h with ⟨rfl, h⟩ | ⟨rfl, h⟩
  · simp; omega
  · simp; omega
theorem cyc_pos {c : CfgV} (h : CfgOk c) : 3 ≤ cyc c ∧ c.t ≤ cyc c ∧ cyc c ≤ 3000 := by
  obtain ⟨⟨a, a'⟩, ⟨b, b'⟩, d, d'⟩ := h; unfold cyc; omega
theorem phi_nonneg {n : Int} {c : CfgV} {f : Nat} {t r p o : Int} (hc : CfgOk c) (hf : CallOk n f t) (hp : 0 ≤ p ∧ p < n) : 0 ≤ phi n c f t r p o := by
  have ht : t = 1 ∨ t = 2 := hf.imp (fun h => h.1) (fun h => h.1)
  obtain ⟨h1, _⟩ := rank_range (r := r) (t := t) (o := o) (cx_range ht hp) (cx_call hf)
  obtain ⟨h3, _⟩ := left_range o
  obtain ⟨h5, h6, _⟩ := cyc_pos hc
  have hw : 0 ≤ wid c := by unfold wid; obtain ⟨⟨a, _⟩, _⟩ := hc; omega
  have e1 := Int.mul_nonneg h1 hw
  have e2 := Int.mul_nonneg h3 (show 0 ≤ cyc c by omega)
  unfold phi
  obtain ⟨⟨a, _⟩, _⟩ := hc
  omega
theorem phi_le {n : Int} {c : CfgV} {f : Nat} {t r p o : Int} (hc : CfgOk c) (hf : CallOk n f t) (hp : 0 ≤ p ∧ p < n) : phi n c f t r p o + 2 ≤ 2 * n * wid c := by
  have ht : t = 1 ∨ t = 2 := hf.imp (fun h => h.1) (fun h => h.1)
  obtain ⟨_, h2⟩ := rank_range (r := r) (t := t) (o := o) (cx_range ht hp) (cx_call hf)
  obtain ⟨_, h4⟩ := left_range o
  obtain ⟨h5, h6, _⟩ := cyc_pos hc
  have hw : 0 ≤ wid c := by unfold wid; obtain ⟨⟨a, _⟩, _⟩ := hc; omega
  have e1 := Int.mul_le_mul_of_nonneg_right h2 hw
  have e2 := Int.mul_le_mul_of_nonneg_right h4 (show 0 ≤ cyc c by omega)
  have e3 : (2 * (n - 1) + 1) * wid c + wid c = 2 * n * wid c := by
    rw [show (2 * (n - 1) + 1) * wid c + wid c = (2 * (n - 1) + 1 + 1) * wid c by rw [Int.add_mul (2 * (n - 1) + 1) 1]; omega]
    congr 1; omega
  unfold phi
  have e4 : wid c = 3 * cyc c + c.s + 2 := rfl
  omega
/-! ### A decision -/
theorem choose_dir (r : Int) (up down car A B : Bool) (near : Int) (hn : near = 0 ∨ near = 1 ∨ near = 2) : (chooseC r up down car A B near).2.1 = 0 ∨ (chooseC r up down car A B near).2.1 = 1 ∨ (chooseC r up down car A B near).2.1 = 2 := by
  unfold chooseC sweepC turnC openC moveC
  rcases hn with rfl | rfl | rfl <;> cases up <;> cases down <;> cases car <;> cases A <;> cases B <;> simp <;> (repeat' split) <;> simp
theorem or_range {o k : Int} (ho : 0 ≤ o ∧ o ≤ 7) : 0 ≤ orB o k ∧ orB o k ≤ 7 := by
  obtain ⟨h1, h2⟩ := ho
  have h : o = 0 ∨ o = 1 ∨ o = 2 ∨ o = 3 ∨ o = 4 ∨ o = 5 ∨ o = 6 ∨ o = 7 := by omega
  unfold orB bt
  rcases h with rfl | rfl | rfl | rfl | rfl | rfl | rfl | rfl <;> by_cases e0 : k = 0 <;> by_cases e1 : k = 1 <;> simp [e0, e1]
theorem dec_op {r o : Int} {cb ub db A B : Bool} {near : Int} (ho : 0 ≤ o ∧ o ≤ 7) : 0 ≤ (decC r o cb ub db A B near).2 ∧ (decC r o cb ub db A B near).2 ≤ 7 := by
  have h : 0 ≤ cntB o cb ub db A B ∧ cntB o cb ub db A B ≤ 7 := by unfold cntB; split <;> omega
  unfold decC
  simp only
  split
  · exact or_range h
  · omega
theorem relOf_three (x y : Int) : relOf x y = 0 ∨ relOf x y = 1 ∨ relOf x y = 2 := by
  rcases Int.lt_trichotomy x y with e | e | e
  · exact .inl (rel_lt e)
  · exact .inr (.inl (rel_eq e))
  · exact .inr (.inr (rel_gt e))
theorem left_pos {o t : Int} (ht : t = 1 ∨ t = 2) (h : bt o t = false) : 1 ≤ leftO o := by
  unfold leftO
  rcases ht with rfl | rfl
  · rw [h]; cases bt o 0 <;> cases bt o 2 <;> simp
  · rw [h]; cases bt o 0 <;> cases bt o 1 <;> simp
theorem rank_here {M x y r t o : Int} (hy : 0 ≤ y ∧ y < M) (e : x = y) (h : bt o t = true) : 1 ≤ rank M x y r t o := by
  unfold rank
  rw [h]
  simp only [e, Bool.true_eq_false, and_false, or_false, Int.lt_irrefl, if_false, and_self, if_true]
  repeat' split
  all_goals omega
/-- The part of a state that a decision reads. -/
structure Pre (n : Int) (H : CS) (s : RelV) : Prop where
  fl : 0 ≤ s.fl ∧ s.fl < n
  dr : 0 ≤ s.dr ∧ s.dr ≤ 2
  op : 0 ≤ s.op ∧ s.op ≤ 7
  calls : ∀ k : Nat, k < 32 → (s.calls.1.getLsbD k = true → H.1.getLsbD k = true) ∧ (s.calls.2.getLsbD k = true → H.2.getLsbD k = true)
  car : ∀ k : Nat, k < 32 → n ≤ k → s.car.getLsbD k = false
theorem proper_eq {n : Int} {H : CS} {s : RelV} (hH : HallOk n H) (h : Pre n H s) : properV n (s.car, s.calls) = (s.car, s.calls) := by
  have h2 := hH.n2; have h32 := hH.n32
  unfold properV
  rw [if_neg (by omega)]
  refine Prod.ext ?_ (Prod.ext ?_ ?_)
  · refine bv_ext fun i hi => ?_
    simp only
    rw [BitVec.getLsbD_and, allM_bit (by omega) h32 i hi]
    by_cases e : (i : Int) < n
    · simp [e]
    · rw [h.car i hi (by omega)]; simp
  · refine bv_ext fun i hi => ?_
    simp only
    rw [BitVec.getLsbD_and, BitVec.getLsbD_and, allM_bit (by omega) h32 i hi, BitVec.getLsbD_not, show n - 1 = ((n - 1).toNat : Int) by omega, bitp (by omega)]
    cases hx : s.calls.1.getLsbD i
    · simp
    · have := (hH.up i hi).1 ((h.calls i hi).1 hx)
      have e : ¬ i = (n - 1).toNat := by omega
      have e2 : (i : Int) < n := by omega
      rw [decide_eq_false e, decide_eq_true e2, decide_eq_true hi]; rfl
  · refine bv_ext fun i hi => ?_
    simp only
    rw [BitVec.getLsbD_and, BitVec.getLsbD_and, allM_bit (by omega) h32 i hi, BitVec.getLsbD_not, show (1#32 : BitVec 32) = 1#32 <<< 0 by rfl, one_shift 0 i (by omega)]
    cases hx : s.calls.2.getLsbD i
    · simp
    · have := (hH.dn i hi).1 ((h.calls i hi).2 hx)
      have e : ¬ i = 0 := by omega
      have e2 : (i : Int) < n := by omega
      rw [decide_eq_false e, decide_eq_true e2, decide_eq_true hi]; rfl
theorem any_low {n : Int} {H : CS} {s : RelV} (hH : HallOk n H) (h : Pre n H s) {g : Nat} (hg : g < 32) (hx : (anyV (s.car, s.calls)).getLsbD g = true) : (g : Int) < n := by
  rw [any_bit] at hx
  simp only [Bool.or_eq_true] at hx
  rcases hx with (hx | hx) | hx
  · by_cases e : (g : Int) < n
    · exact e
    · rw [h.car g hg (by omega)] at hx; cases hx
  · have := (hH.up g hg).1 ((h.calls g hg).1 hx); omega
  · have := (hH.dn g hg).1 ((h.calls g hg).2 hx); omega
theorem call_any {s : RelV} {f : Nat} {t : Int} (hp : callBit s.calls f t = true) : (anyV (s.car, s.calls)).getLsbD f = true := by
  rw [any_bit]
  unfold callBit at hp
  split at hp
  · simp [hp]
  · simp [hp]
theorem decide_law {n : Int} {H : CS} {c : CfgV} {s : RelV} {f : Nat} {t : Int} (hH : HallOk n H) (hc : CfgOk c) (hf : CallOk n f t) (h : Pre n H s) (hp : callBit s.calls f t = true) :
    Ok n H c (decideV n c s) ∧ psi n c f t (decideV n c s) ≤ phi n c f t s.dr s.fl s.op := by
  have ht : t = 1 ∨ t = 2 := hf.imp (fun h => h.1) (fun h => h.1)
  have h32 := hH.n32
  have hpr := proper_eq hH h
  obtain ⟨p, hpe⟩ := Int.eq_ofNat_of_zero_le h.fl.1
  have hflr := h.fl
  have hgd : guardS n s.dr s.op (p : Int) = false := by
    unfold guardS
    have := h.dr; have := h.op; have := hH.n2
    exact decide_eq_false (by omega)
  have hp32 : p < 32 := by omega
  obtain ⟨e1, e2⟩ := choose_eq (s := (s.car, s.calls)) hgd hpr
  have hr3 : s.dr = 0 ∨ s.dr = 1 ∨ s.dr = 2 := by have := h.dr; omega
  obtain ⟨n0, n1, n2, n3⟩ := near_ok (aboveV (s.car, s.calls) p) (belowV (s.car, s.calls) p)
  have hf32 : f < 32 := by rcases hf with ⟨_, h⟩ | ⟨_, h⟩ <;> omega
  have hab : p < f → (aboveV (s.car, s.calls) p).1 = true := fun h => (above_iff hp32).2 ⟨f, h, hf32, call_any hp⟩
  have hbe : f < p → (belowV (s.car, s.calls) p).1 = true := fun h => below_iff.2 ⟨f, h, call_any hp⟩
  have haL : (aboveV (s.car, s.calls) p).1 = true → (p : Int) + 1 < n := fun h' => by
    obtain ⟨g, h1, h2, h3⟩ := (above_iff hp32).1 h'
    have := any_low hH h h2 h3; omega
  have hbL : (belowV (s.car, s.calls) p).1 = true → 0 < (p : Int) := fun h' => by
    obtain ⟨g, h1, h3⟩ := below_iff.1 h'
    omega
  have hpre : pre t (s.calls.1.getLsbD p) (s.calls.2.getLsbD p) (aboveV (s.car, s.calls) p).1 (belowV (s.car, s.calls) p).1 (nearV (aboveV (s.car, s.calls) p) (belowV (s.car, s.calls) p)) (relOf (cxT t n p) (cxT t n f)) = true := by
    unfold pre
    rw [n1, n2, n3]
    simp only [Bool.and_true]
    rcases Int.lt_trichotomy (cxT t n p) (cxT t n f) with e | e | e
    · rw [rel_lt e]
      unfold cxT at e
      rcases ht with rfl | rfl
      · simp at e ⊢; exact hab (by omega)
      · simp at e ⊢; exact hbe (by omega)
    · rw [rel_eq e]
      unfold cxT at e
      unfold callBit at hp
      rcases ht with rfl | rfl
      · simp at e hp ⊢; rw [show p = f by omega]; exact hp
      · simp at e hp ⊢; rw [show p = f by omega]; exact hp
    · rw [rel_gt e]
      unfold cxT at e
      rcases ht with rfl | rfl
      · simp at e ⊢; exact hbe (by omega)
      · simp at e ⊢; exact hab (by omega)
  have hok := dec_ok (t := t) (cb := s.car.getLsbD p) ht hr3 h.op n0 (relOf_three _ _) hpre
  have hop := dec_op (r := s.dr) (cb := s.car.getLsbD p) (ub := s.calls.1.getLsbD p) (db := s.calls.2.getLsbD p) (A := (aboveV (s.car, s.calls) p).1) (B := (belowV (s.car, s.calls) p).1) (near := nearV (aboveV (s.car, s.calls) p) (belowV (s.car, s.calls) p)) h.op
  have hdir : ∀ z, z = decC s.dr s.op (s.car.getLsbD p) (s.calls.1.getLsbD p) (s.calls.2.getLsbD p) (aboveV (s.car, s.calls) p).1 (belowV (s.car, s.calls) p).1 (nearV (aboveV (s.car, s.calls) p) (belowV (s.car, s.calls) p)) → z.1.2.1 = 0 ∨ z.1.2.1 = 1 ∨ z.1.2.1 = 2 := by
    rintro z rfl
    unfold decC
    exact choose_dir _ _ _ _ _ _ _ n0
  simp only at e1 e2
  generalize hz : decC s.dr s.op (s.car.getLsbD p) (s.calls.1.getLsbD p) (s.calls.2.getLsbD p) (aboveV (s.car, s.calls) p).1 (belowV (s.car, s.calls) p).1 (nearV (aboveV (s.car, s.calls) p) (belowV (s.car, s.calls) p)) = z at *
  replace hdir := hdir z rfl
  have hx := cx_range ht (p := (p : Int)) (n := n) (by omega)
  have hy := cx_call hf
  obtain ⟨hC, hCt, _⟩ := cyc_pos hc
  have hW : wid c = 3 * cyc c + c.s + 2 := rfl
  have hw0 : 0 ≤ wid c := by obtain ⟨⟨a, _⟩, _⟩ := hc; omega
  obtain ⟨⟨cs1, cs2⟩, ⟨ct1, ct2⟩, cd1, cd2⟩ := hc
  obtain ⟨hr0, hr1⟩ := rank_range (r := s.dr) (t := t) (o := s.op) hx hy
  obtain ⟨hl0, hl1⟩ := left_range s.op
  have m1 := Int.mul_nonneg hl0 (show 0 ≤ cyc c by omega)
  have m2 := Int.mul_nonneg hr0 hw0
  rw [hpe] at hflr ⊢
  by_cases h3 : z.1.1 = 3
  · have hd : decideV n c s = ⟨2, p, z.1.2.1, z.2, 0, c.t, s.calls, s.car⟩ := by
      simp only [decideV, hpe, e1, e2, h3, if_true]
    rw [hd]
    refine ⟨⟨⟨by simp, by simp⟩, hflr, by simp only; omega, hop, rfl, .inr (.inr (.inl ⟨rfl, ct1, Int.le_refl _⟩)), fun e => by simp at e, h.calls, h.car⟩, ?_⟩
    have e0 : psi n c f t ⟨2, p, z.1.2.1, z.2, 0, c.t, s.calls, s.car⟩ = if (p : Int) = f ∧ z.1.2.1 = t then c.t else c.t + c.d + c.t + phi n c f t z.1.2.1 p z.2 := by
      unfold psi; rfl
    rw [e0]
    by_cases hsu : (p : Int) = f ∧ z.1.2.1 = t
    · rw [if_pos hsu]
      have exy : cxT t n p = cxT t n f := by rw [hsu.1]
      unfold phi
      cases hb : bt s.op t
      · have := Int.mul_le_mul_of_nonneg_right (left_pos ht hb) (show 0 ≤ cyc c by omega)
        omega
      · have := Int.mul_le_mul_of_nonneg_right (rank_here (r := s.dr) hy exy hb) hw0
        omega
    · rw [if_neg hsu]
      have hns : ¬ (cxT t n p = cxT t n f ∧ z.1.2.1 = t) := fun ⟨h1, h2⟩ => hsu ⟨by unfold cxT at h1; split at h1 <;> omega, h2⟩
      obtain ⟨_, _, hin⟩ := rank_open ht hr3 hx hy hok h3 hdir hns
      unfold phi
      generalize rank (n - 1) (cxT t n p) (cxT t n f) z.1.2.1 t z.2 = R2 at *
      generalize rank (n - 1) (cxT t n p) (cxT t n f) s.dr t s.op = R1 at *
      generalize leftO z.2 = l2 at *
      generalize leftO s.op = l1 at *
      have hcy : cyc c = 2 * c.t + c.d := rfl
      rcases hin with ⟨h1, h2⟩ | ⟨h1, h2⟩
      · have a1 := Int.mul_le_mul_of_nonneg_right h1 hw0
        have a2 : l1 * cyc c = l2 * cyc c + cyc c := by rw [← h2, Int.add_mul]; omega
        omega
      · have a1 := Int.mul_le_mul_of_nonneg_right h1 hw0
        rw [Int.add_mul] at a1
        have a2 := Int.mul_le_mul_of_nonneg_right h2 (show 0 ≤ cyc c by omega)
        omega
  · obtain ⟨g1, g2, g3, g4⟩ := rank_move ht hr3 hx hy hok h3 hdir
    have hd12 : z.1.2.1 = 1 ∨ z.1.2.1 = 2 := by omega
    have h12 : z.1.1 = 1 ∨ z.1.1 = 2 := by rw [g1]; exact hd12
    have hd : decideV n c s = ⟨1, p, z.1.2.1, z.2, 2, c.s, s.calls, s.car⟩ := by
      simp only [decideV, hpe, e1, e2, h3, h12, if_true, if_false]
    have hnx : 0 ≤ nextF p z.1.2.1 ∧ nextF p z.1.2.1 < n := by
      unfold nextF
      rcases hd12 with e | e
      · rw [e] at g4 ⊢
        have hA : (aboveV (s.car, s.calls) p).1 = true := by
          rcases ht with rfl | rfl
          · simpa using (show _ ∧ _ by simpa using g4).1
          · simpa using (show _ ∧ _ by simpa using g4).1
        have := haL hA
        simp; omega
      · rw [e] at g4 ⊢
        have hB : (belowV (s.car, s.calls) p).1 = true := by
          rcases ht with rfl | rfl
          · simpa using (show _ ∧ _ by simpa using g4).1
          · simpa using (show _ ∧ _ by simpa using g4).1
        have := hbL hB
        simp; omega
    rw [hd]
    refine ⟨⟨⟨by simp, by simp⟩, hflr, by simp only; omega, hop, rfl, .inr (.inl ⟨rfl, cs1, Int.le_refl _⟩), fun _ => ⟨hd12, hnx⟩, h.calls, h.car⟩, ?_⟩
    have e0 : psi n c f t ⟨1, p, z.1.2.1, z.2, 2, c.s, s.calls, s.car⟩ = c.s + phi n c f t z.1.2.1 (nextF p z.1.2.1) 0 := by
      unfold psi; rfl
    rw [e0]
    have hin : rank (n - 1) (cxT t n (nextF p z.1.2.1)) (cxT t n f) z.1.2.1 t 0 + 1 ≤ rank (n - 1) (cxT t n p) (cxT t n f) s.dr t s.op := by
      by_cases hdt : z.1.2.1 = t
      · rw [if_pos hdt] at g4
        have ex : cxT t n (nextF p z.1.2.1) = cxT t n p + 1 := by
          rw [hdt]; unfold cxT nextF
          rcases ht with rfl | rfl
          · simp
          · simp; omega
        rw [ex, hdt]
        refine g4.2 ?_
        have := cx_range ht hnx
        omega
      · rw [if_neg hdt] at g4
        have ex : cxT t n (nextF p z.1.2.1) = cxT t n p - 1 := by
          unfold cxT nextF
          rcases ht with rfl | rfl
          · have : z.1.2.1 = 2 := by omega
            rw [this]; simp
          · have : z.1.2.1 = 1 := by omega
            rw [this]; simp; omega
        rw [ex]
        refine g4.2 ?_
        have := cx_range ht hnx
        omega
    unfold phi
    generalize rank (n - 1) (cxT t n (nextF p z.1.2.1)) (cxT t n f) z.1.2.1 t 0 = R2 at *
    generalize rank (n - 1) (cxT t n p) (cxT t n f) s.dr t s.op = R1 at *
    have a0 : leftO 0 = 3 := by decide
    rw [a0]
    have a1 := Int.mul_le_mul_of_nonneg_right hin hw0
    rw [Int.add_mul] at a1
    omega
end Rel
end Go.Proofs.Ytfmmiafdlfdfoaa
