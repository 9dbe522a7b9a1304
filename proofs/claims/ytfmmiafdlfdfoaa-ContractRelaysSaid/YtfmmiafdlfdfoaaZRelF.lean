/- The plain law of ContractApart: calls do not influence each other. Conditions: those of each theorem. · A relay car keeps the contract of its promise: the plain law on traces. Conditions: those of each theorem. -/
import Derived.Test.YtfmmiafdlfdfoaaZSane18
import Derived.Test.YtfmmiafdlfdfoaaZRelE
namespace Go.Proofs.Ytfmmiafdlfdfoaa
open Go.RowKit
/-- A mark with one call's injections alone. -/
def onlyM (p : Int × Int) (m : MarkV) : MarkV := (both m.1 (one p.1 p.2), m.2)
def onlyK (p : Int × Int) (L : List MarkV) (k : Nat) : List MarkV := (L.take k).map (onlyM p) ++ L.drop k
theorem onlyK_len (p : Int × Int) (L : List MarkV) (k : Nat) : (onlyK p L k).length = L.length := by simp [onlyK]; omega
theorem onlyK_zero (p : Int × Int) (L : List MarkV) : onlyK p L 0 = L := by simp [onlyK]
theorem onlyK_all (p : Int × Int) (L : List MarkV) : onlyK p L L.length = L.map (onlyM p) := by simp [onlyK]
theorem onlyK_at (p : Int × Int) (L : List MarkV) (k : Nat) (m : MarkV) (h : L[k]? = some m) : (onlyK p L k)[k]? = some m := by
  have hk := (List.getElem?_eq_some_iff.1 h).1
  unfold onlyK
  rw [List.getElem?_append_right (by simp; omega)]
  simp only [List.length_map, List.length_take]
  rw [Nat.min_eq_left (by omega), List.getElem?_drop, Nat.sub_self, Nat.add_zero]
  exact h
theorem onlyK_set (p : Int × Int) (L : List MarkV) (k : Nat) (m : MarkV) (h : L[k]? = some m) : (onlyK p L k).set k (onlyM p m) = onlyK p L (k + 1) := by
  obtain ⟨hk, rfl⟩ := List.getElem?_eq_some_iff.1 h
  unfold onlyK
  rw [List.set_append_right _ _ (by simp; omega)]
  simp only [List.length_map, List.length_take]
  rw [Nat.min_eq_left (by omega), Nat.sub_self, List.drop_eq_getElem_cons hk, List.set_cons_zero, List.take_add_one, List.getElem?_eq_getElem hk, Option.toList_some, List.map_append, List.append_assoc]
  rfl
theorem has_one_nat : ∀ k : Nat, k < 32 → ∀ j : Nat, j < 32 → has (one (k : Int) 1) (j : Int) 1 = decide (k = j) ∧ has (one (k : Int) 2) (j : Int) 2 = decide (k = j) ∧ has (one (k : Int) 1) (j : Int) 2 = false ∧ has (one (k : Int) 2) (j : Int) 1 = false := by decide +kernel
theorem has_one (p q : Int × Int) (c : CS) (b : CS) (hp : p ∈ listC b) (hq : q ∈ listC b) : has (both c (one p.1 p.2)) q.1 q.2 = (has c q.1 q.2 && decide (p = q)) := by
  obtain ⟨k, hk, h1, h2, _⟩ := listC_mem _ p hp
  obtain ⟨j, hj, g1, g2, _⟩ := listC_mem _ q hq
  obtain ⟨p1, p2⟩ := p
  obtain ⟨q1, q2⟩ := q
  simp only at h1 h2 g1 g2 ⊢
  subst h1 g1
  rw [has_both _ _ j q2 hj g2]
  obtain ⟨e1, e2, e3, e4⟩ := has_one_nat k hk j hj
  congr 1
  rcases h2 with rfl | rfl <;> rcases g2 with rfl | rfl
  · rw [e1]; simp; omega
  · rw [e3]; simp
  · rw [e4]; simp
  · rw [e2]; simp; omega
theorem follow_only (b : BldV) (lim : Int) (h : CS) (p q : Int × Int) (hp : p ∈ listC h) (hq : q ∈ listC h) : ∀ (L : List MarkV) (i : Nat) (g : Int), (p = q → followV b lim q.1 q.2 i g (L.map (onlyM p)) = followV b lim q.1 q.2 i g L) ∧ (p ≠ q → g < 0 → (followV b lim q.1 q.2 i g (L.map (onlyM p))).1 = -1)
  | [], _, _ => ⟨fun _ => rfl, fun _ _ => rfl⟩
  | m :: L, i, g => by
    have e : ∀ l, followV b lim q.1 q.2 i g (m :: l) = if 0 ≤ g ∧ lim < (i : Int) - g then ((i : Int), g) else followV b lim q.1 q.2 (i + 1) (stepG b q.1 q.2 i g m) l := fun _ => rfl
    have e2 : ∀ l, followV b lim q.1 q.2 i g (onlyM p m :: l) = if 0 ≤ g ∧ lim < (i : Int) - g then ((i : Int), g) else followV b lim q.1 q.2 (i + 1) (stepG b q.1 q.2 i g (onlyM p m)) l := fun _ => rfl
    have hs : stepG b q.1 q.2 i g (onlyM p m) = if (if decide (0 ≤ g) && has (showsV b.fl m.2) q.1 q.2 then -1 else g) < 0 ∧ (has m.1 q.1 q.2 && decide (p = q)) = true then (i : Int) else (if decide (0 ≤ g) && has (showsV b.fl m.2) q.1 q.2 then -1 else g) := by
      have h1 := has_one p q m.1 h hp hq
      have h2 : has (onlyM p m).1 q.1 q.2 = (has m.1 q.1 q.2 && decide (p = q)) := h1
      have h3 : (onlyM p m).2 = m.2 := rfl
      unfold stepG
      simp only [h2, h3]
    rw [List.map_cons]
    refine ⟨fun hpq => ?_, fun hpq hg => ?_⟩
    · rw [e, e2, hs]
      have hs2 : stepG b q.1 q.2 i g m = if (if decide (0 ≤ g) && has (showsV b.fl m.2) q.1 q.2 then -1 else g) < 0 ∧ has m.1 q.1 q.2 = true then (i : Int) else (if decide (0 ≤ g) && has (showsV b.fl m.2) q.1 q.2 then -1 else g) := rfl
      rw [decide_eq_true hpq, Bool.and_true, ← hs2, (follow_only b lim h p q hp hq L (i + 1) _).1 hpq]
    · rw [e2, if_neg (by omega)]
      have h0 : stepG b q.1 q.2 i g (onlyM p m) < 0 := by
        rw [hs, decide_eq_false hpq, Bool.and_false, if_neg (by simp)]
        split <;> omega
      exact (follow_only b lim h p q hp hq L (i + 1) _).2 hpq h0
theorem run_fold (b : BldV) (L : List MarkV) (hv : validN b = 0) (hn : L.length ≤ 5000) : (runB b 0 L).1 = foldF (fun p => (followV b (dlOf b 0) p.1 p.2 0 (-1) L).1) (listC (hallC b)) (-1) := by
  rw [← ref_check]
  unfold refCheckB
  rw [properB_of b _ hv hn]
  rfl
theorem run_only (b : BldV) (L : List MarkV) (p : Int × Int) (hp : p ∈ listC (hallC b)) (hv : validN b = 0) (hn : L.length ≤ 5000) : (runB b 0 (L.map (onlyM p))).1 = (followV b (dlOf b 0) p.1 p.2 0 (-1) L).1 := by
  rw [run_fold b _ hv (by simpa using hn)]
  have hpp := (follow_only b (dlOf b 0) _ p p hp hp L 0 (-1)).1 rfl
  have hno : ∀ q ∈ listC (hallC b), q ≠ p → (followV b (dlOf b 0) q.1 q.2 0 (-1) (L.map (onlyM p))).1 = -1 := fun q hq hne => (follow_only b (dlOf b 0) _ p q hp hq L 0 (-1)).2 (fun h => hne h.symm) (by omega)
  rcases followV_ge b (dlOf b 0) p.1 p.2 L 0 (-1) with h | h
  · rw [h]
    refine foldF_none _ _ fun q hq => ?_
    by_cases hqp : q = p
    · subst hqp
      show (followV b (dlOf b 0) q.1 q.2 0 (-1) (L.map (onlyM q))).1 < 0
      rw [hpp, h]; omega
    · show (followV b (dlOf b 0) q.1 q.2 0 (-1) (L.map (onlyM p))).1 < 0
      rw [hno q hq hqp]; omega
  · rw [← hpp]
    have hm := foldF_min (fun q => (followV b (dlOf b 0) q.1 q.2 0 (-1) (L.map (onlyM p))).1) (listC (hallC b)) p hp (by show 0 ≤ (followV b (dlOf b 0) p.1 p.2 0 (-1) (L.map (onlyM p))).1; rw [hpp]; omega) (fun q hq => by
      by_cases hqp : q = p
      · subst hqp; right; exact Int.le_refl _
      · left
        show (followV b (dlOf b 0) q.1 q.2 0 (-1) (L.map (onlyM p))).1 < 0
        rw [hno q hq hqp]; omega)
    exact hm
/-- What the law's loop finds. -/
def apartF (b : BldV) (L : List MarkV) (all : List (Int × Int)) : Int := all.foldl (fun a p => firstI a (runB b 0 (L.map (onlyM p))).1) (-1)
theorem apartF_snoc (b : BldV) (L : List MarkV) (all : List (Int × Int)) (i : Nat) (p : Int × Int) (h : all[i]? = some p) : apartF b L (all.take (i + 1)) = firstI (apartF b L (all.take i)) (runB b 0 (L.map (onlyM p))).1 := by
  rw [List.take_add_one, h]
  simp [apartF]
theorem apart_law (b : BldV) (L : List MarkV) (hv : validN b = 0) (hn : L.length ≤ 5000) : (runB b 0 L).1 = apartF b L (listC (hallC b)) := by
  rw [run_fold b L hv hn]
  exact foldF_ext _ _ _ _ fun p hp => (run_only b L p hp hv hn).symm
end Go.Proofs.Ytfmmiafdlfdfoaa
namespace Go.Proofs.Ytfmmiafdlfdfoaa
namespace Rel
open Go.RowKit
theorem with_ok {n : Int} {H : CS} {c : CfgV} {s : RelV} {inj : CS} {press : BitVec 32} (hH : HallOk n H) (h : Ok n H c s) : Ok n H c (withV n H s inj press) := by
  refine ⟨h.st, h.fl, h.dr, h.op, h.dor, h.tm, h.mv, fun k hk => ?_, fun k hk hn => ?_⟩
  · show ((s.calls.1 ||| (inj.1 &&& H.1)).getLsbD k = true → _) ∧ ((s.calls.2 ||| (inj.2 &&& H.2)).getLsbD k = true → _)
    rw [BitVec.getLsbD_or, BitVec.getLsbD_or, BitVec.getLsbD_and, BitVec.getLsbD_and, Bool.or_eq_true, Bool.or_eq_true, Bool.and_eq_true, Bool.and_eq_true]
    exact ⟨fun hx => hx.elim (h.calls k hk).1 (fun y => y.2), fun hx => hx.elim (h.calls k hk).2 (fun y => y.2)⟩
  · show (s.car ||| (press &&& allM n)).getLsbD k = false
    have h2 := hH.n2
    rw [BitVec.getLsbD_or, BitVec.getLsbD_and, h.car k hk hn, allM_bit (by omega) hH.n32 k hk, decide_eq_false (by omega)]
    simp
theorem new_ok {n : Int} {H : CS} {c : CfgV} (hH : HallOk n H) : Ok n H c (newV 0) := by
  have := hH.n2
  refine ⟨⟨by simp [newV], by simp [newV]⟩, ⟨by simp [newV], by simp [newV]; omega⟩, ⟨by simp [newV], by simp [newV]⟩, ⟨by simp [newV], by simp [newV]⟩, rfl, .inl ⟨rfl, rfl⟩, fun e => by simp [newV] at e, fun k _ => ⟨fun h => by simp [newV] at h, fun h => by simp [newV] at h⟩, fun k _ _ => by simp [newV]⟩
theorem step_eq {n : Int} {H : CS} {c : CfgV} {s : RelV} {inj : CS} {press : BitVec 32} (hc : CfgOk c) (h : Ok n H c s) : stepV n H c s inj press = tickV n c (withV n H s inj press) := by
  obtain ⟨⟨_, cs2⟩, ⟨_, ct2⟩, _, cd2⟩ := hc
  unfold stepV
  rw [ok_isRel ⟨by omega, by omega, by omega⟩ h]; rfl
theorem step_ok {n : Int} {H : CS} {c : CfgV} {s : RelV} {inj : CS} {press : BitVec 32} (hH : HallOk n H) (hc : CfgOk c) (h : Ok n H c s) : Ok n H c (stepV n H c s inj press) := by
  rw [step_eq hc h]; exact tick_ok hH hc (with_ok hH h)
theorem psi_le {n : Int} {H : CS} {c : CfgV} {s : RelV} {f : Nat} {t : Int} (hH : HallOk n H) (hc : CfgOk c) (hf : CallOk n f t) (h : Ok n H c s) : psi n c f t s ≤ promise n c := by
  have hn := hH.n2
  have h1 := phi_le (r := s.dr) (o := s.op) hc hf h.fl
  obtain ⟨hC, hCt, _⟩ := cyc_pos hc
  have hW : wid c = 3 * cyc c + c.s + 2 := rfl
  obtain ⟨⟨cs1, cs2⟩, ⟨ct1, ct2⟩, cd1, cd2⟩ := hc
  have hcy : cyc c = 2 * c.t + c.d := rfl
  have hP : 2 * n * wid c + wid c ≤ promise n c := by
    unfold promise
    have e : 2 * n * wid c + wid c = (2 * n + 1) * wid c := by rw [Int.add_mul]; omega
    rw [e]
    exact Int.mul_le_mul_of_nonneg_right (by omega) (by omega)
  have htm := h.tm
  unfold psi
  split
  · omega
  · split
    · rename_i h1s
      have h2 := phi_le (r := s.dr) (o := 0) ⟨⟨cs1, cs2⟩, ⟨ct1, ct2⟩, cd1, cd2⟩ hf (h.mv h1s).2
      omega
    · split
      · split
        · have h3 := phi_nonneg (r := s.dr) (o := s.op) ⟨⟨cs1, cs2⟩, ⟨ct1, ct2⟩, cd1, cd2⟩ hf h.fl
          omega
        · omega
      · split <;> omega
theorem psi_pos {n : Int} {H : CS} {c : CfgV} {s : RelV} {f : Nat} {t : Int} (hc : CfgOk c) (hf : CallOk n f t) (h : Ok n H c s) : 1 ≤ psi n c f t s := by
  have h1 := phi_nonneg (r := s.dr) (o := s.op) hc hf h.fl
  have htm := h.tm
  obtain ⟨⟨cs1, cs2⟩, ⟨ct1, ct2⟩, cd1, cd2⟩ := hc
  unfold psi
  split
  · omega
  · split
    · rename_i h1s
      have h2 := phi_nonneg (r := s.dr) (o := 0) ⟨⟨cs1, cs2⟩, ⟨ct1, ct2⟩, cd1, cd2⟩ hf (h.mv h1s).2
      omega
    · split
      · split <;> omega
      · split <;> omega
theorem shown_has {n : Int} {H : CS} {c : CfgV} {s : RelV} {f : Nat} {t : Int} (hH : HallOk n H) (hf : CallOk n f t) (h : Ok n H c s) : has (showsV n (obsR s)) f t = true ↔ Shown f t s := by
  have h2 := hH.n2; have h32 := hH.n32
  rw [has_call hf h32]
  obtain ⟨p, hpe⟩ := Int.eq_ofNat_of_zero_le h.fl.1
  have hfl := h.fl; have hdr := h.dr; have hdo := h.dor; have hst := h.st
  have hd : s.dor = 1 ↔ s.st = 3 := by rw [hdo]; unfold doorOf; repeat' split <;> omega
  have hdr3 : 0 ≤ s.dor ∧ s.dor ≤ 3 := by rw [hdo]; unfold doorOf; repeat' split <;> omega
  have hob : obsB n (obsR s) = true := by
    unfold obsB okB obsR
    simp only [Bool.and_eq_true, decide_eq_true_eq, inR_iff]
    refine ⟨⟨⟨⟨h2, h32⟩, ?_⟩, by omega⟩, hdr3⟩
    split <;> omega
  unfold showsV Shown
  rw [hob]
  by_cases h3 : s.st = 3
  · have e1 : (obsR s).1 = (p : Int) := by unfold obsR; simp only; rw [if_neg (by omega), hpe]
    have e2 : (obsR s).2.1 = s.dr := rfl
    have e3 : (obsR s).2.2 = 1 := hd.2 h3
    rw [e1, e2, e3, if_pos ⟨rfl, rfl, by omega⟩, hpe]
    have hpb := fun i => bitp (p := p) (by omega) i
    unfold callBit
    rcases hf with ⟨rfl, hf⟩ | ⟨rfl, hf1, hf2⟩
    · rw [if_pos rfl]
      by_cases g1 : s.dr = 1 ∧ (p : Int) < n - 1
      · rw [if_pos g1]
        simp only [hpb, decide_eq_true_eq]
        exact ⟨fun e => ⟨h3, by rw [e], g1.1⟩, fun ⟨_, e, _⟩ => by omega⟩
      · rw [if_neg g1]
        have : (if s.dr = 2 ∧ 0 < (p : Int) then (0#32, bit (p : Int)) else (0#32, 0#32)).1.getLsbD f = false := by split <;> simp
        rw [this]
        exact ⟨fun e => by simp at e, fun ⟨_, e, e'⟩ => absurd ⟨e', by omega⟩ g1⟩
    · rw [if_neg (by decide)]
      by_cases g1 : s.dr = 1 ∧ (p : Int) < n - 1
      · rw [if_pos g1]
        exact ⟨fun e => by simp at e, fun ⟨_, e, e'⟩ => by omega⟩
      · rw [if_neg g1]
        by_cases g2 : s.dr = 2 ∧ 0 < (p : Int)
        · rw [if_pos g2]
          simp only [hpb, decide_eq_true_eq]
          exact ⟨fun e => ⟨h3, by rw [e], g2.1⟩, fun ⟨_, e, _⟩ => by omega⟩
        · rw [if_neg g2]
          exact ⟨fun e => by simp at e, fun ⟨_, e, e'⟩ => absurd ⟨e', by omega⟩ g2⟩
  · have : ¬ (True ∧ (obsR s).2.2 = 1 ∧ 0 ≤ (obsR s).1) := fun h => h3 (hd.1 h.2.1)
    rw [if_neg (by simpa using this)]
    unfold callBit
    exact ⟨fun e => by split at e <;> simp at e, fun ⟨e, _⟩ => absurd e h3⟩
/-! ### Traces -/
def stR (n : Int) (H : CS) (c : CfgV) (cI : Nat → CS) (pI : Nat → BitVec 32) : Nat → RelV
  | 0 => newV 0
  | i + 1 => stepV n H c (stR n H c cI pI i) (cI i) (pI i)
def markR (n : Int) (H : CS) (c : CfgV) (cI : Nat → CS) (pI : Nat → BitVec 32) (i : Nat) : MarkV := (cI i, obsR (stR n H c cI pI i))
def trR (n : Int) (H : CS) (c : CfgV) (cI : Nat → CS) (pI : Nat → BitVec 32) (N : Nat) : List MarkV := (List.range N).map (markR n H c cI pI)
theorem stR_ok {n : Int} {H : CS} {c : CfgV} {cI : Nat → CS} {pI : Nat → BitVec 32} (hH : HallOk n H) (hc : CfgOk c) : ∀ i, Ok n H c (stR n H c cI pI i)
  | 0 => new_ok hH
  | i + 1 => step_ok hH hc (stR_ok hH hc i)
theorem trR_at {n : Int} {H : CS} {c : CfgV} {cI : Nat → CS} {pI : Nat → BitVec 32} {N i : Nat} (h : i < N) : (trR n H c cI pI N)[i]? = some (markR n H c cI pI i) := by
  unfold trR
  rw [List.getElem?_map, List.getElem?_range h]; rfl
/-- What holds of a duty that began in tick g. -/
def Duty1 (n : Int) (c : CfgV) (f : Nat) (t : Int) (s : RelV) (i : Nat) (g : Int) : Prop :=
  g = -1 ∨ (0 ≤ g ∧ g < (i : Int) ∧ ((Shown f t s ∧ (i : Int) - g - 1 ≤ promise n c) ∨ (callBit s.calls f t = true ∧ psi n c f t s ≤ promise n c - ((i : Int) - g - 1))))
theorem follow_keeps {b : BldV} {n : Int} {H : CS} {c : CfgV} {cI : Nat → CS} {pI : Nat → BitVec 32} {N : Nat} {f : Nat} {t : Int} (hn : b.fl = n) (hH : HallOk n H) (hc : CfgOk c) (hf : CallOk n f t) :
    ∀ k i g, i + k = N → Duty1 n c f t (stR n H c cI pI i) i g → (followV b (promise n c + 1) f t i g ((trR n H c cI pI N).drop i)).1 = -1 := by
  intro k
  induction k with
  | zero =>
    intro i g hi _
    rw [List.drop_eq_nil_of_le (by unfold trR; simp; omega)]; rfl
  | succ k ih =>
    intro i g hi hD
    have hok := stR_ok (cI := cI) (pI := pI) hH hc i
    have hat := trR_at (n := n) (H := H) (c := c) (cI := cI) (pI := pI) (show i < N by omega)
    have hpp := psi_pos hc hf hok
    have hnl : ¬ (0 ≤ g ∧ promise n c + 1 < (i : Int) - g) := by
      rcases hD with h | ⟨h1, h2, ⟨_, h3⟩ | ⟨_, h3⟩⟩ <;> omega
    rw [followV_step _ _ _ _ _ _ _ _ hat hnl]
    refine ih (i + 1) _ (by omega) ?_
    have hsh := shown_has hH hf hok
    have hwok := with_ok (inj := cI i) (press := pI i) hH hok
    have hpsiw : psi n c f t (withV n H (stR n H c cI pI i) (cI i) (pI i)) = psi n c f t (stR n H c cI pI i) := rfl
    have hse : stR n H c cI pI (i + 1) = tickV n c (withV n H (stR n H c cI pI i) (cI i) (pI i)) := step_eq hc hok
    have hshw : Shown f t (withV n H (stR n H c cI pI i) (cI i) (pI i)) ↔ Shown f t (stR n H c cI pI i) := Iff.rfl
    have hok1 := stR_ok (cI := cI) (pI := pI) hH hc (i + 1)
    have hf32 : f < 32 := by have := hH.n32; rcases hf with ⟨_, h⟩ | ⟨_, h⟩ <;> omega
    unfold stepG
    rw [hn]
    have e1 : (markR n H c cI pI i).2 = obsR (stR n H c cI pI i) := rfl
    have e2 : (markR n H c cI pI i).1 = cI i := rfl
    rw [e1, e2]
    obtain ⟨g1, hg1⟩ : ∃ g1, (if (decide (0 ≤ g) && has (showsV n (obsR (stR n H c cI pI i))) f t) = true then -1 else g) = g1 := ⟨_, rfl⟩
    rw [hg1]
    have hg1' : g1 = -1 ∨ (g1 = g ∧ 0 ≤ g ∧ ¬ Shown f t (stR n H c cI pI i)) := by
      rw [← hg1]
      by_cases h0 : 0 ≤ g
      · by_cases hs : Shown f t (stR n H c cI pI i)
        · left; rw [if_pos]; rw [decide_eq_true h0, hsh.2 hs]; rfl
        · right
          refine ⟨?_, h0, hs⟩
          rw [if_neg]
          intro h
          rw [Bool.and_eq_true] at h
          exact hs (hsh.1 h.2)
      · left
        rw [if_neg (by simp [h0])]
        rcases hD with h | h
        · exact h
        · omega
    clear hg1
    by_cases hinj : g1 < 0 ∧ has (cI i) f t = true
    · rw [if_pos hinj]
      right
      refine ⟨by omega, by omega, ?_⟩
      have hpend : callBit (withV n H (stR n H c cI pI i) (cI i) (pI i)).calls f t = true := by
        have hh := hinj.2
        rw [has_call hf hH.n32] at hh
        have hH2 : callBit H f t = true := by
          unfold callBit
          rcases hf with ⟨rfl, hf⟩ | ⟨rfl, hf1, hf2⟩
          · rw [if_pos rfl]; exact (hH.up f hf32).2 hf
          · rw [if_neg (by decide)]; exact (hH.dn f hf32).2 ⟨hf1, hf2⟩
        unfold callBit at hh hH2 ⊢
        show (if t = 1 then ((stR n H c cI pI i).calls.1 ||| ((cI i).1 &&& H.1)).getLsbD f else ((stR n H c cI pI i).calls.2 ||| ((cI i).2 &&& H.2)).getLsbD f) = true
        split
        · rename_i ht; rw [if_pos ht] at hh hH2; rw [BitVec.getLsbD_or, BitVec.getLsbD_and, hh, hH2]; simp
        · rename_i ht; rw [if_neg ht] at hh hH2; rw [BitVec.getLsbD_or, BitVec.getLsbD_and, hh, hH2]; simp
      obtain ⟨l1, l2⟩ := tick_law hH hc hf hwok hpend
      rw [← hse] at l1 l2
      have hle := psi_le hH hc hf hok1
      have hP0 : 0 ≤ promise n c := by have := psi_le hH hc hf hok; omega
      by_cases hs : Shown f t (stR n H c cI pI i)
      · rcases l2 hs with h | h
        · exact .inl ⟨h, by omega⟩
        · exact .inr ⟨h, by omega⟩
      · rcases l1 hs with h | h
        · exact .inl ⟨h, by omega⟩
        · exact .inr ⟨h.1, by omega⟩
    · rw [if_neg hinj]
      rcases hg1' with h | ⟨h, h0, hns⟩
      · exact .inl h
      · rw [h]
        rcases hD with hD | ⟨_, hlt, hD⟩
        · omega
        · right
          refine ⟨h0, by omega, ?_⟩
          rcases hD with hD | ⟨hp, hps⟩
          · exact absurd hD.1 hns
          · have hpend : callBit (withV n H (stR n H c cI pI i) (cI i) (pI i)).calls f t = true := by
              unfold callBit at hp ⊢
              show (if t = 1 then ((stR n H c cI pI i).calls.1 ||| ((cI i).1 &&& H.1)).getLsbD f else ((stR n H c cI pI i).calls.2 ||| ((cI i).2 &&& H.2)).getLsbD f) = true
              split
              · rename_i ht; rw [if_pos ht] at hp; rw [BitVec.getLsbD_or, hp]; simp
              · rename_i ht; rw [if_neg ht] at hp; rw [BitVec.getLsbD_or, hp]; simp
            obtain ⟨l1, _⟩ := tick_law hH hc hf hwok hpend
            rw [← hse, hpsiw] at l1
            rcases l1 hns with h | h
            · exact .inl ⟨h, by omega⟩
            · exact .inr ⟨h.1, by omega⟩
theorem hall_ok {b : BldV} (hv : validN b = 0) : HallOk b.fl (hallC b) := by
  obtain ⟨h2, h32, _⟩ := valid_range b hv
  refine ⟨h2, h32, fun k hk => ?_, fun k hk => ?_⟩
  · show (hUp b 1 32).getLsbD k = true ↔ _
    rw [hUp_bit b 1 k 32 hk (by omega)]
    simp [callB, hv, isCallB, inR_iff, hk]
  · show (hUp b 2 32).getLsbD k = true ↔ _
    rw [hUp_bit b 2 k 32 hk (by omega)]
    simp [callB, hv, isCallB, inR_iff, hk]
/-- A relay car keeps the contract of its promise and one tick more, whatever is injected and pressed. -/
theorem relay_keeps {b : BldV} {c : CfgV} {cI : Nat → CS} {pI : Nat → BitVec 32} {N : Nat} (hv : validN b = 0) (hc : CfgOk c) (hd : dlOf b 0 = promise b.fl c + 1) (hN : N ≤ 5000) : keepsB b 0 (trR b.fl (hallC b) c cI pI N) = true := by
  have hH := hall_ok hv
  have hlen : (trR b.fl (hallC b) c cI pI N).length = N := by unfold trR; simp
  unfold keepsB
  rw [run_fold b _ hv (by rw [hlen]; exact hN), properB_of b _ hv (by rw [hlen]; exact hN), foldF_none]
  · rfl
  · intro p hp
    obtain ⟨k, hk, h1, h2, h3⟩ := listC_mem _ p hp
    have hf : CallOk b.fl k p.2 := by
      rw [h1, hall_has b k p.2 hk (by omega) (by omega)] at h3
      simp only [callB, hv, isCallB, Bool.and_eq_true, Bool.or_eq_true, decide_eq_true_eq, inR_iff] at h3
      unfold CallOk
      omega
    rw [h1, hd]
    have h := follow_keeps (cI := cI) (pI := pI) (N := N) (b := b) rfl hH hc hf N 0 (-1) (by omega) (.inl rfl)
    rw [List.drop_zero] at h
    rw [h]; omega
end Rel
end Go.Proofs.Ytfmmiafdlfdfoaa
