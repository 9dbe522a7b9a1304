/- The plain law of BeliefFollows: a belief's duties are the contract's. Conditions: those of each theorem. -/
import Derived.Test.YtnnkldidlgiipaaRunLaw
namespace Go.Proofs.Ytnnkldidlgiipaa
open Go.RowKit
/-- Behind k ticks the belief has the contract's duties, and the contract is not broken. -/
structure Fol (b : BldV) (L : List MarkV) (k : Nat) (V : BelV) : Prop where
  st : stateB b 0 V = true
  len : V.du.length ≤ 64
  pre : runB b 0 (L.take k) = (-1, V.du)
  rest : runB b 0 L = runV b (dlOf b 0) k V.du (L.drop k)
theorem fol_start (b : BldV) (L : List MarkV) (V : BelV) (hv : validN b = 0) (hn : L.length ≤ 5000) (hs : stateB b 0 V = true) (hd : V.du = []) : Fol b L 0 V :=
  ⟨hs, by simp [hd], by rw [hd, runB_of b _ hv (by simp)]; rfl, by rw [hd, runB_of b _ hv hn]; rfl⟩
theorem fol_late (b : BldV) (L : List MarkV) (k : Nat) (V : BelV) (m : MarkV) (h : Fol b L k V) (hm : L[k]? = some m) : agedLate (dlOf b 0) V.du = ((k : Int) == (runB b 0 L).1) := by
  cases hl : agedLate (dlOf b 0) V.du
  · rw [h.rest, runV_step b _ k V.du L m hm hl]
    symm
    rw [beq_eq_false_iff_ne]
    rcases runV_ge b (dlOf b 0) (L.drop (k + 1)) (k + 1) (tickD b V.du m) with h2 | h2
    · rw [h2]; omega
    · omega
  · rw [h.rest, runV_late b _ k V.du L m hm hl]
    simp
theorem fol_obs (b : BldV) (L : List MarkV) (k : Nat) (V : BelV) (m : MarkV) (h : Fol b L k V) (ho : obsB b.fl m.2 = true) : obsOk b 0 V m.2 = true ∧ (observeV b 0 V m.2).late = agedLate (dlOf b 0) V.du ∧ (observeV b 0 V m.2).du = (if agedLate (dlOf b 0) V.du then [] else agedL (showsV b.fl m.2) V.du) := by
  have hok : obsOk b 0 V m.2 = true := by unfold obsOk; rw [h.st, ho]; rfl
  refine ⟨hok, ?_, ?_⟩ <;> (unfold observeV; rw [if_pos hok]; rfl)
theorem fol_step (b : BldV) (L : List MarkV) (k : Nat) (V : BelV) (m : MarkV) (hv : validN b = 0) (hn : L.length ≤ 5000) (h : Fol b L k V) (hm : L[k]? = some m) (ho : obsB b.fl m.2 = true) (hl : agedLate (dlOf b 0) V.du = false) :
    stateB b 0 (observeV b 0 V m.2) = true ∧ Fol b L (k + 1) (injectV b 0 (observeV b 0 V m.2) m.1) ∧ (runB b 0 (L.take (k + 1))).2 = (injectV b 0 (observeV b 0 V m.2) m.1).du := by
  obtain ⟨hok, _, hdu⟩ := fol_obs b L k V m h ho
  rw [hl] at hdu
  have hs := observe_state b 0 V m.2 hok
  have hi := inject_state b 0 _ m.1 hs
  have hd : (injectV b 0 (observeV b 0 V m.2) m.1).du = tickD b V.du m := by
    have he := inject_eq b 0 (observeV b 0 V m.2) m.1 hs
    rw [hdu] at he
    unfold tickD injectV
    rw [if_pos hs, hdu]
    exact he.symm
  have hp := runB_snoc b L k V.du m hv hn hm h.pre hl
  refine ⟨hs, ⟨hi, inj_len b 0 _ _, by rw [hd]; exact hp, by rw [hd, h.rest, runV_step b _ k V.du L m hm hl]⟩, by rw [hp, hd]⟩
end Go.Proofs.Ytnnkldidlgiipaa
