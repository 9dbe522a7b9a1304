/- A relay car shows each of its calls within its promise: ticks and traces. Conditions: those of each theorem. -/
import Derived.Test.YtfmmiafdlfdfoaaZRelD
namespace Go.Proofs.Ytfmmiafdlfdfoaa
namespace Rel
open Go.RowKit
theorem Ok.pre {n : Int} {H : CS} {c : CfgV} {s : RelV} (h : Ok n H c s) : Pre n H s := ⟨h.fl, h.dr, h.op, h.calls, h.car⟩
theorem served_fields (s : RelV) : (servedV s).st = s.st ∧ (servedV s).fl = s.fl ∧ (servedV s).dr = s.dr ∧ (servedV s).op = s.op ∧ (servedV s).dor = s.dor ∧ (servedV s).tm = s.tm := by
  unfold servedV; split <;> exact ⟨rfl, rfl, rfl, rfl, rfl, rfl⟩
theorem minus_sub (a b : CS) (k : Nat) : ((minus a b).1.getLsbD k = true → a.1.getLsbD k = true) ∧ ((minus a b).2.getLsbD k = true → a.2.getLsbD k = true) := by
  unfold minus
  constructor
  · intro h; simp only at h; rw [BitVec.getLsbD_and, Bool.and_eq_true] at h; exact h.1
  · intro h; simp only at h; rw [BitVec.getLsbD_and, Bool.and_eq_true] at h; exact h.1
theorem served_ok {n : Int} {H : CS} {c : CfgV} {s : RelV} (h : Ok n H c s) : Ok n H c (servedV s) := by
  obtain ⟨e1, e2, e3, e4, e5, e6⟩ := served_fields s
  refine ⟨by rw [e1]; exact h.st, by rw [e2]; exact h.fl, by rw [e3]; exact h.dr, by rw [e4]; exact h.op, by rw [e5, e1]; exact h.dor, by rw [e1, e6]; exact h.tm, by rw [e1, e2, e3]; exact h.mv, fun k hk => ?_, fun k hk hn => ?_⟩
  · unfold servedV
    split
    · exact ⟨fun hx => (h.calls k hk).1 ((minus_sub _ _ k).1 hx), fun hx => (h.calls k hk).2 ((minus_sub _ _ k).2 hx)⟩
    · exact h.calls k hk
  · unfold servedV
    split
    · show (s.car &&& ~~~bit s.fl).getLsbD k = false
      rw [BitVec.getLsbD_and, h.car k hk hn]; rfl
    · exact h.car k hk hn
theorem served_psi {n : Int} {c : CfgV} {f t : Int} (s : RelV) : psi n c f t (servedV s) = psi n c f t s := by
  obtain ⟨e1, e2, e3, e4, e5, e6⟩ := served_fields s
  unfold psi
  rw [e1, e2, e3, e4, e6]
theorem served_shown {f : Nat} {t : Int} (s : RelV) : Shown f t (servedV s) ↔ Shown f t s := by
  obtain ⟨e1, e2, e3, _⟩ := served_fields s
  unfold Shown
  rw [e1, e2, e3]
theorem callBit_minus {a b : CS} {f : Nat} {t : Int} (hf : f < 32) : callBit (minus a b) f t = (callBit a f t && !callBit b f t) := by
  unfold callBit minus
  split
  · rw [BitVec.getLsbD_and, BitVec.getLsbD_not, decide_eq_true hf, Bool.true_and]
  · rw [BitVec.getLsbD_and, BitVec.getLsbD_not, decide_eq_true hf, Bool.true_and]
theorem callBit_one {p f : Nat} {d t : Int} (hp : p < 32) (ht : t = 1 ∨ t = 2) (h : callBit (one p d) f t = true) : p = f ∧ d = t := by
  unfold callBit one at h
  rw [if_pos (show 0 ≤ (p : Int) ∧ (p : Int) < 32 by omega)] at h
  by_cases h1 : d = 1
  · rw [if_pos h1] at h
    rcases ht with rfl | rfl
    · rw [if_pos rfl] at h
      simp only at h
      rw [bitp hp, decide_eq_true_eq] at h
      exact ⟨h.symm, h1⟩
    · simp at h
  · rw [if_neg h1] at h
    by_cases h2 : d = 2
    · rw [if_pos h2] at h
      rcases ht with rfl | rfl
      · simp at h
      · rw [if_neg (by decide)] at h
        simp only at h
        rw [bitp hp, decide_eq_true_eq] at h
        exact ⟨h.symm, h2⟩
    · rw [if_neg h2] at h
      split at h <;> simp at h
/-- A call that is not shown is not removed. -/
theorem served_keep {n : Int} {f : Nat} {t : Int} {s : RelV} (hf : CallOk n f t) (h32 : n ≤ 32) (hfl : 0 ≤ s.fl ∧ s.fl < n) (hns : ¬ Shown f t s) (hp : callBit s.calls f t = true) : callBit (servedV s).calls f t = true := by
  unfold servedV
  split
  · rename_i h3
    obtain ⟨p, hpe⟩ := Int.eq_ofNat_of_zero_le hfl.1
    have hf32 : f < 32 := by rcases hf with ⟨_, h⟩ | ⟨_, h⟩ <;> omega
    show callBit (minus s.calls (one s.fl s.dr)) f t = true
    rw [callBit_minus hf32, hp, hpe]
    cases ho : callBit (one (p : Int) s.dr) f t
    · rfl
    · exfalso
      obtain ⟨e1, e2⟩ := callBit_one (by omega) (hf.imp (fun h => h.1) (fun h => h.1)) ho
      exact hns ⟨h3, by rw [hpe, e1], e2⟩
  · exact hp
theorem tick_law {n : Int} {H : CS} {c : CfgV} {s : RelV} {f : Nat} {t : Int} (hH : HallOk n H) (hc : CfgOk c) (hf : CallOk n f t) (h : Ok n H c s) (hp : callBit s.calls f t = true) :
    (¬ Shown f t s → Shown f t (tickV n c s) ∨ (callBit (tickV n c s).calls f t = true ∧ psi n c f t (tickV n c s) + 1 ≤ psi n c f t s))
    ∧ (Shown f t s → Shown f t (tickV n c s) ∨ callBit (tickV n c s).calls f t = true) := by
  have h32 := hH.n32
  unfold tickV
  by_cases ht : 1 < s.tm
  · rw [if_pos ht]
    constructor
    · intro hns
      have hns' : ¬ Shown f t { s with tm := s.tm - 1 } := hns
      right
      refine ⟨served_keep hf h32 h.fl hns' hp, ?_⟩
      rw [served_psi]
      have hst : s.st ≠ 0 := by have := h.tm; omega
      unfold psi
      simp only [hst, if_false]
      repeat' split
      all_goals omega
    · intro hs
      left
      rw [served_shown]; exact hs
  · rw [if_neg ht]
    by_cases h1 : s.st = 1
    · rw [if_pos h1]
      have htm : s.tm = 1 := by have := h.tm; omega
      obtain ⟨_, hn0, hn1⟩ := h.mv h1
      have hd := decide_law (s := { s with fl := nextF s.fl s.dr, op := 0 }) hH hc hf ⟨⟨hn0, hn1⟩, h.dr, by simp, h.calls, h.car⟩ hp
      constructor
      · intro _
        right
        refine ⟨hp, ?_⟩
        have e : psi n c f t s = s.tm + phi n c f t s.dr (nextF s.fl s.dr) 0 := by unfold psi; simp [h1]
        rw [e]
        have := hd.2
        simp only at this
        omega
      · intro hs; have := hs.1; omega
    · rw [if_neg h1]
      by_cases h2 : s.st = 2
      · rw [if_pos h2]
        have htm : s.tm = 1 := by have := h.tm; omega
        constructor
        · intro _
          by_cases hsh : s.fl = (f : Int) ∧ s.dr = t
          · left; rw [served_shown]; exact ⟨rfl, hsh.1, hsh.2⟩
          · right
            refine ⟨served_keep hf h32 h.fl (fun hh => hsh ⟨hh.2.1, hh.2.2⟩) hp, ?_⟩
            rw [served_psi]
            have e : psi n c f t s = s.tm + c.d + c.t + phi n c f t s.dr s.fl s.op := by unfold psi; simp [h2, hsh]
            have e2 : psi n c f t { s with st := 3, dor := 1, tm := c.d } = c.d + c.t + phi n c f t s.dr s.fl s.op := by unfold psi; simp
            rw [e, e2]; omega
        · intro hs; have := hs.1; omega
      · rw [if_neg h2]
        by_cases h3 : s.st = 3
        · rw [if_pos h3]
          have htm : s.tm = 1 := by have := h.tm; omega
          have hk : callBit (servedV { s with st := 4, dor := 0, tm := c.t }).calls f t = true := served_keep hf h32 h.fl (fun hh => by have := hh.1; simp at this) hp
          refine ⟨fun _ => .inr ⟨hk, ?_⟩, fun _ => .inr hk⟩
          rw [served_psi]
          have e : psi n c f t s = s.tm + c.t + phi n c f t s.dr s.fl s.op := by unfold psi; simp [h3]
          have e2 : psi n c f t { s with st := 4, dor := 0, tm := c.t } = c.t + phi n c f t s.dr s.fl s.op := by unfold psi; simp
          rw [e, e2]; omega
        · rw [if_neg h3]
          have hd := decide_law hH hc hf h.pre hp
          constructor
          · intro _
            right
            refine ⟨hp, ?_⟩
            have h04 : s.st = 0 ∨ s.st = 4 := by have := h.st; omega
            have hd2 := hd.2
            rcases h04 with e | e
            · have e1 : psi n c f t s = phi n c f t s.dr s.fl s.op + 1 := by unfold psi; simp [e]
              omega
            · have e1 : psi n c f t s = s.tm + phi n c f t s.dr s.fl s.op := by unfold psi; simp [e]
              have := h.tm
              omega
          · intro hs; have := hs.1; omega
theorem choose_mv (r : Int) (up down car A B : Bool) (near : Int) (n1 : (near != 1 || A) = true) (n2 : (near != 2 || B) = true) : ((chooseC r up down car A B near).1 = 1 → (chooseC r up down car A B near).2.1 = 1 ∧ A = true) ∧ ((chooseC r up down car A B near).1 = 2 → (chooseC r up down car A B near).2.1 = 2 ∧ B = true) := by
  unfold chooseC sweepC turnC openC moveC
  by_cases r1 : r = 1
  · cases up <;> cases down <;> cases car <;> cases A <;> cases B <;> simp [r1]
  · by_cases r2 : r = 2
    · cases up <;> cases down <;> cases car <;> cases A <;> cases B <;> simp [r2]
    · by_cases e1 : near = 1
      · rw [e1] at n1
        cases up <;> cases down <;> cases car <;> simp [r1, r2, e1] at n1 ⊢
        exact n1
      · by_cases e2 : near = 2
        · rw [e2] at n2
          cases up <;> cases down <;> cases car <;> simp [r1, r2, e2] at n2 ⊢
          exact n2
        · cases up <;> cases down <;> cases car <;> simp [r1, r2, e1, e2]
/-- Without a pending call, too, what is reached stays in order. -/
theorem decide_ok {n : Int} {H : CS} {c : CfgV} {s : RelV} (hH : HallOk n H) (hc : CfgOk c) (h : Pre n H s) : Ok n H c (decideV n c s) := by
  have h32 := hH.n32
  have hpr := proper_eq hH h
  obtain ⟨p, hpe⟩ := Int.eq_ofNat_of_zero_le h.fl.1
  have hflr := h.fl
  have hgd : guardS n s.dr s.op (p : Int) = false := by
    unfold guardS
    have := h.dr; have := h.op; have := hH.n2
    exact decide_eq_false (by omega)
  have hp32 : p < 32 := by omega
  obtain ⟨e1, e2⟩ := choose_eq (s := (s.car, s.calls)) hgd hpr
  obtain ⟨n0, n1, n2, n3⟩ := near_ok (aboveV (s.car, s.calls) p) (belowV (s.car, s.calls) p)
  have haL : (aboveV (s.car, s.calls) p).1 = true → (p : Int) + 1 < n := fun h' => by
    obtain ⟨g, h1, h2, h3⟩ := (above_iff hp32).1 h'
    have := any_low hH h h2 h3; omega
  have hbL : (belowV (s.car, s.calls) p).1 = true → 0 < (p : Int) := fun h' => by
    obtain ⟨g, h1, h3⟩ := below_iff.1 h'
    omega
  have hop := dec_op (r := s.dr) (cb := s.car.getLsbD p) (ub := s.calls.1.getLsbD p) (db := s.calls.2.getLsbD p) (A := (aboveV (s.car, s.calls) p).1) (B := (belowV (s.car, s.calls) p).1) (near := nearV (aboveV (s.car, s.calls) p) (belowV (s.car, s.calls) p)) h.op
  have hall : ∀ z, z = decC s.dr s.op (s.car.getLsbD p) (s.calls.1.getLsbD p) (s.calls.2.getLsbD p) (aboveV (s.car, s.calls) p).1 (belowV (s.car, s.calls) p).1 (nearV (aboveV (s.car, s.calls) p) (belowV (s.car, s.calls) p)) → (z.1.2.1 = 0 ∨ z.1.2.1 = 1 ∨ z.1.2.1 = 2) ∧ (z.1.1 = 1 → z.1.2.1 = 1 ∧ (aboveV (s.car, s.calls) p).1 = true) ∧ (z.1.1 = 2 → z.1.2.1 = 2 ∧ (belowV (s.car, s.calls) p).1 = true) := by
    rintro z rfl
    unfold decC
    exact ⟨choose_dir _ _ _ _ _ _ _ n0, choose_mv _ _ _ _ _ _ _ n1 n2⟩
  simp only at e1 e2
  generalize hz : decC s.dr s.op (s.car.getLsbD p) (s.calls.1.getLsbD p) (s.calls.2.getLsbD p) (aboveV (s.car, s.calls) p).1 (belowV (s.car, s.calls) p).1 (nearV (aboveV (s.car, s.calls) p) (belowV (s.car, s.calls) p)) = z at *
  obtain ⟨hdir, hm1, hm2⟩ := hall z rfl
  obtain ⟨⟨cs1, cs2⟩, ⟨ct1, ct2⟩, cd1, cd2⟩ := hc
  rw [hpe] at hflr
  by_cases h3 : z.1.1 = 3
  · have hd : decideV n c s = ⟨2, p, z.1.2.1, z.2, 0, c.t, s.calls, s.car⟩ := by
      simp only [decideV, hpe, e1, e2, h3, if_true]
    rw [hd]
    exact ⟨⟨by simp, by simp⟩, hflr, by simp only; omega, hop, rfl, .inr (.inr (.inl ⟨rfl, ct1, Int.le_refl _⟩)), fun e => by simp at e, h.calls, h.car⟩
  · by_cases h12 : z.1.1 = 1 ∨ z.1.1 = 2
    · have hd : decideV n c s = ⟨1, p, z.1.2.1, z.2, 2, c.s, s.calls, s.car⟩ := by
        simp only [decideV, hpe, e1, e2, h3, h12, if_true, if_false]
      rw [hd]
      refine ⟨⟨by simp, by simp⟩, hflr, by simp only; omega, hop, rfl, .inr (.inl ⟨rfl, cs1, Int.le_refl _⟩), fun _ => ?_, h.calls, h.car⟩
      simp only
      unfold nextF
      rcases h12 with e | e
      · obtain ⟨d1, d2⟩ := hm1 e
        have := haL d2
        rw [d1]; simp; omega
      · obtain ⟨d1, d2⟩ := hm2 e
        have := hbL d2
        rw [d1]; simp; omega
    · have hd : decideV n c s = ⟨0, p, z.1.2.1, z.2, 2, 0, s.calls, s.car⟩ := by
        simp only [decideV, hpe, e1, e2, h3, h12, if_false]
      rw [hd]
      exact ⟨⟨by simp, by simp⟩, hflr, by simp only; omega, hop, rfl, .inl ⟨rfl, rfl⟩, fun e => by simp at e, h.calls, h.car⟩
theorem tick_ok {n : Int} {H : CS} {c : CfgV} {s : RelV} (hH : HallOk n H) (hc : CfgOk c) (h : Ok n H c s) : Ok n H c (tickV n c s) := by
  obtain ⟨⟨cs1, cs2⟩, ⟨ct1, ct2⟩, cd1, cd2⟩ := hc
  unfold tickV
  by_cases ht : 1 < s.tm
  · rw [if_pos ht]
    refine served_ok ⟨h.st, h.fl, h.dr, h.op, h.dor, ?_, h.mv, h.calls, h.car⟩
    have := h.tm
    simp only
    omega
  · rw [if_neg ht]
    by_cases h1 : s.st = 1
    · rw [if_pos h1]
      obtain ⟨_, hn0, hn1⟩ := h.mv h1
      exact decide_ok hH ⟨⟨cs1, cs2⟩, ⟨ct1, ct2⟩, cd1, cd2⟩ ⟨⟨hn0, hn1⟩, h.dr, by simp, h.calls, h.car⟩
    · rw [if_neg h1]
      by_cases h2 : s.st = 2
      · rw [if_pos h2]
        exact served_ok ⟨⟨by simp, by simp⟩, h.fl, h.dr, h.op, rfl, .inr (.inr (.inr (.inl ⟨rfl, cd1, Int.le_refl _⟩))), fun e => by simp at e, h.calls, h.car⟩
      · rw [if_neg h2]
        by_cases h3 : s.st = 3
        · rw [if_pos h3]
          exact served_ok ⟨⟨by simp, by simp⟩, h.fl, h.dr, h.op, rfl, .inr (.inr (.inr (.inr ⟨rfl, ct1, Int.le_refl _⟩))), fun e => by simp at e, h.calls, h.car⟩
        · rw [if_neg h3]
          exact decide_ok hH ⟨⟨cs1, cs2⟩, ⟨ct1, ct2⟩, cd1, cd2⟩ h.pre
end Rel
end Go.Proofs.Ytfmmiafdlfdfoaa
