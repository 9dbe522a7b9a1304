/- The plain law of ContractMeans: what a contract says, by all pairs of ticks. Conditions: those of each theorem. -/
import Derived.Test.YtfmmiafdlfdfoaaApartLaw
namespace Go.Proofs.Ytfmmiafdlfdfoaa
open Go.RowKit
/-- The call is shown in tick v. -/
def hitB (b : BldV) (p : Int × Int) (L : List MarkV) (v : Nat) : Bool := match L[v]? with
  | some m => has (showsV b.fl m.2) p.1 p.2
  | none => false
/-- The first of the ticks u + 1 to u + j in which the call is shown, or -1. -/
def scanV (b : BldV) (p : Int × Int) (L : List MarkV) (u : Nat) : Nat → Int
  | 0 => -1
  | j + 1 => if 0 ≤ scanV b p L u j then scanV b p L u j else if hitB b p L (u + j + 1) then ((u + j + 1 : Nat) : Int) else -1
theorem scan_spec (b : BldV) (p : Int × Int) (L : List MarkV) (u : Nat) : ∀ j, (scanV b p L u j = -1 ∧ ∀ v, u < v → v ≤ u + j → hitB b p L v = false) ∨ ∃ s : Nat, scanV b p L u j = (s : Int) ∧ u < s ∧ s ≤ u + j ∧ hitB b p L s = true ∧ ∀ v, u < v → v < s → hitB b p L v = false
  | 0 => Or.inl ⟨rfl, fun v h1 h2 => by omega⟩
  | j + 1 => by
    have e : scanV b p L u (j + 1) = if 0 ≤ scanV b p L u j then scanV b p L u j else if hitB b p L (u + j + 1) then ((u + j + 1 : Nat) : Int) else -1 := rfl
    rcases scan_spec b p L u j with ⟨h1, h2⟩ | ⟨s, h1, h2, h3, h4, h5⟩
    · rw [e, h1, if_neg (by omega)]
      cases hh : hitB b p L (u + j + 1)
      · refine Or.inl ⟨by simp, fun v h3 h4 => ?_⟩
        by_cases hv : v = u + j + 1
        · rw [hv]; exact hh
        · exact h2 v h3 (by omega)
      · exact Or.inr ⟨u + j + 1, by simp, by omega, by omega, hh, fun v h3 h4 => h2 v h3 (by omega)⟩
    · rw [e, h1, if_pos (by omega)]
      exact Or.inr ⟨s, rfl, h2, by omega, h4, h5⟩
theorem hit_some (b : BldV) (p : Int × Int) (L : List MarkV) (v : Nat) (m : MarkV) (h : L[v]? = some m) : hitB b p L v = has (showsV b.fl m.2) p.1 p.2 := by unfold hitB; rw [h]
/-- A duty that is not shown and not late stays. -/
theorem fol_wait (b : BldV) (lim : Int) (p : Int × Int) (L : List MarkV) (i t : Nat) (hi : i < L.length) (hl : (i : Int) - t ≤ lim) (hh : hitB b p L i = false) : followV b lim p.1 p.2 i (t : Int) (L.drop i) = followV b lim p.1 p.2 (i + 1) (t : Int) (L.drop (i + 1)) := by
  have hm : L[i]? = some L[i] := List.getElem?_eq_getElem hi
  rw [followV_step b lim p.1 p.2 i (t : Int) L _ hm (by omega)]
  rw [hit_some b p L i _ hm] at hh
  have : stepG b p.1 p.2 i (t : Int) L[i] = (t : Int) := by
    unfold stepG
    rw [hh]
    simp only [Bool.and_false, Bool.false_eq_true, if_false]
    rw [if_neg (by omega)]
  rw [this]
theorem fol_waits (b : BldV) (lim : Int) (p : Int × Int) (L : List MarkV) (t : Nat) : ∀ (n i : Nat), i + n ≤ L.length → ((i + n : Nat) : Int) - 1 - t ≤ lim → (∀ v, i ≤ v → v < i + n → hitB b p L v = false) → followV b lim p.1 p.2 i (t : Int) (L.drop i) = followV b lim p.1 p.2 (i + n) (t : Int) (L.drop (i + n))
  | 0, _, _, _, _ => rfl
  | n + 1, i, h1, h2, h3 => by
    rw [fol_wait b lim p L i t (by omega) (by omega) (h3 i (Nat.le_refl _) (by omega)), fol_waits b lim p L t n (i + 1) (by omega) (by omega) (fun v hv1 hv2 => h3 v (by omega) (by omega)), show i + 1 + n = i + (n + 1) by omega]
/-- A duty that is shown has ended. -/
theorem fol_shown (b : BldV) (lim : Int) (p : Int × Int) (L : List MarkV) (s t : Nat) (hs : s < L.length) (hl : (s : Int) - t ≤ lim) (hh : hitB b p L s = true) : followV b lim p.1 p.2 s (t : Int) (L.drop s) = followV b lim p.1 p.2 s (-1) (L.drop s) := by
  have hm : L[s]? = some L[s] := List.getElem?_eq_getElem hs
  rw [followV_step b lim p.1 p.2 s (t : Int) L _ hm (by omega), followV_step b lim p.1 p.2 s (-1) L _ hm (by omega)]
  rw [hit_some b p L s _ hm] at hh
  have : stepG b p.1 p.2 s (t : Int) L[s] = stepG b p.1 p.2 s (-1) L[s] := by
    unfold stepG
    rw [hh, decide_eq_true (show (0 : Int) ≤ (t : Int) by omega), decide_eq_false (show ¬ (0 : Int) ≤ -1 by omega)]
    rfl
  rw [this]
/-- Without a duty and an injection, nothing happens; with an injection the duty begins. -/
theorem fol_free (b : BldV) (lim : Int) (p : Int × Int) (L : List MarkV) (i : Nat) (m : MarkV) (hm : L[i]? = some m) : followV b lim p.1 p.2 i (-1) (L.drop i) = followV b lim p.1 p.2 (i + 1) (if has m.1 p.1 p.2 then (i : Int) else -1) (L.drop (i + 1)) := by
  rw [followV_step b lim p.1 p.2 i (-1) L _ hm (by omega)]
  have : stepG b p.1 p.2 i (-1) m = if has m.1 p.1 p.2 then (i : Int) else -1 := by
    unfold stepG
    rw [decide_eq_false (show ¬ (0 : Int) ≤ -1 by omega)]
    simp only [Bool.false_and, Bool.false_eq_true, if_false]
    by_cases h : has m.1 p.1 p.2 = true
    · rw [if_pos ⟨by omega, h⟩, if_pos h]
    · rw [if_neg (fun hh => h hh.2), if_neg h]
  rw [this]
/-- A duty that begins in tick u and is shown in tick s. -/
theorem fol_hit (b : BldV) (dn : Nat) (p : Int × Int) (L : List MarkV) (u s : Nat) (m : MarkV) (hm : L[u]? = some m) (hin : has m.1 p.1 p.2 = true) (h1 : u < s) (h2 : s ≤ u + dn) (h3 : s < L.length) (h4 : hitB b p L s = true) (h5 : ∀ v, u < v → v < s → hitB b p L v = false) : followV b (dn : Int) p.1 p.2 u (-1) (L.drop u) = followV b (dn : Int) p.1 p.2 s (-1) (L.drop s) := by
  rw [fol_free b _ p L u m hm, if_pos hin, fol_waits b _ p L u (s - (u + 1)) (u + 1) (by omega) (by omega) (fun v hv1 hv2 => h5 v (by omega) (by omega)), show u + 1 + (s - (u + 1)) = s by omega]
  exact fol_shown b _ p L s u h3 (by omega) h4
/-- A duty that begins in tick u and is not shown in time. -/
theorem fol_miss (b : BldV) (dn : Nat) (p : Int × Int) (L : List MarkV) (u : Nat) (m : MarkV) (hm : L[u]? = some m) (hin : has m.1 p.1 p.2 = true) (h : ∀ v, u < v → v ≤ u + dn → v < L.length → hitB b p L v = false) : (followV b (dn : Int) p.1 p.2 u (-1) (L.drop u)).1 = if u + dn + 1 < L.length then ((u + dn + 1 : Nat) : Int) else -1 := by
  have hu := (List.getElem?_eq_some_iff.1 hm).1
  rw [fol_free b _ p L u m hm, if_pos hin]
  by_cases hl : u + dn + 1 < L.length
  · rw [if_pos hl, fol_waits b _ p L u dn (u + 1) (by omega) (by omega) (fun v hv1 hv2 => h v (by omega) (by omega) (by omega)), show u + 1 + dn = u + dn + 1 by omega]
    have hm2 : L[u + dn + 1]? = some L[u + dn + 1] := List.getElem?_eq_getElem hl
    rw [followV_late b _ p.1 p.2 (u + dn + 1) (u : Int) L _ hm2 (by omega)]
  · rw [if_neg hl, fol_waits b _ p L u (L.length - (u + 1)) (u + 1) (by omega) (by omega) (fun v hv1 hv2 => h v (by omega) (by omega) (by omega)), show u + 1 + (L.length - (u + 1)) = L.length by omega, List.drop_length]
    rfl
/-- What the law's second loop keeps: F is the tick in which the call breaks the contract. -/
inductive MeanI (b : BldV) (dn : Nat) (p : Int × Int) (L : List MarkV) (W0 : Int) (u : Nat) (free want : Int) : Prop
  | open_ (hf : free ≤ (u : Int)) (hw : want = W0) (hF : (followV b (dn : Int) p.1 p.2 0 (-1) L).1 = (followV b (dn : Int) p.1 p.2 u (-1) (L.drop u)).1)
  | wait (s : Nat) (hs : free = (s : Int)) (hu : u ≤ s) (hl : s < L.length) (hw : want = W0) (hF : (followV b (dn : Int) p.1 p.2 0 (-1) L).1 = (followV b (dn : Int) p.1 p.2 s (-1) (L.drop s)).1)
  | over (hs : free = (L.length : Int)) (hw : want = firstI W0 (followV b (dn : Int) p.1 p.2 0 (-1) L).1)
theorem mean_start (b : BldV) (dn : Nat) (p : Int × Int) (L : List MarkV) (W0 : Int) : MeanI b dn p L W0 0 0 W0 := .open_ (Int.le_refl _) rfl rfl
/-- In the end the law's loop has found the earlier of the two. -/
theorem mean_end (b : BldV) (dn : Nat) (p : Int × Int) (L : List MarkV) (W0 : Int) (u : Nat) (free want : Int) (h : MeanI b dn p L W0 u free want) (hu : u ≤ L.length) (he : ¬ (u < L.length ∧ (want < 0 ∨ (u : Int) < want))) : want = firstI W0 (followV b (dn : Int) p.1 p.2 0 (-1) L).1 := by
  cases h with
  | open_ hf hw hF =>
    rw [hF, hw]
    unfold firstI
    by_cases hN : u < L.length
    · rcases followV_ge b (dn : Int) p.1 p.2 (L.drop u) u (-1) with h | h
      · rw [if_neg (by omega)]
      · rw [if_neg (by rw [hw] at he; omega)]
    · have : u = L.length := by omega
      rw [this, List.drop_length]
      have e : (followV b (dn : Int) p.1 p.2 L.length (-1) []).1 = -1 := rfl
      rw [e, if_neg (by omega)]
  | wait s hs hus hl hw hF =>
    rw [hF, hw]
    unfold firstI
    rcases followV_ge b (dn : Int) p.1 p.2 (L.drop s) s (-1) with h | h
    · rw [if_neg (by omega)]
    · rw [if_neg (by rw [hw] at he; omega)]
  | over hs hw => exact hw
/-- A tick in which no duty of the call begins. -/
theorem mean_skip (b : BldV) (dn : Nat) (p : Int × Int) (L : List MarkV) (W0 : Int) (u : Nat) (free want : Int) (m : MarkV) (h : MeanI b dn p L W0 u free want) (hm : L[u]? = some m) (hsk : (u : Int) < free ∨ has m.1 p.1 p.2 = false) : MeanI b dn p L W0 (u + 1) free want := by
  cases h with
  | open_ hf hw hF =>
    have hn : has m.1 p.1 p.2 = false := by
      rcases hsk with h | h
      · omega
      · exact h
    refine .open_ (by omega) hw ?_
    rw [hF, fol_free b _ p L u m hm, hn]
    rfl
  | wait s hs hus hl hw hF =>
    by_cases he : u = s
    · subst he
      have hn : has m.1 p.1 p.2 = false := by
        rcases hsk with h | h
        · omega
        · exact h
      refine .open_ (by omega) hw ?_
      rw [hF, fol_free b _ p L u m hm, hn]
      rfl
    · exact .wait s hs (by omega) hl hw hF
  | over hs hw => exact .over hs hw
/-- A tick in which a duty of the call begins. -/
theorem mean_duty (b : BldV) (dn : Nat) (p : Int × Int) (L : List MarkV) (W0 : Int) (u : Nat) (free want : Int) (m : MarkV) (h : MeanI b dn p L W0 u free want) (hm : L[u]? = some m) (hf : ¬ (u : Int) < free) (hin : has m.1 p.1 p.2 = true) (K : Nat) (hK : K ≤ dn) (hK2 : u + K < L.length) (hK3 : K = dn ∨ u + K + 1 = L.length) :
    MeanI b dn p L W0 (u + 1) (if scanV b p L u K < 0 then (L.length : Int) else scanV b p L u K) (if scanV b p L u K < 0 ∧ u + dn + 1 < L.length ∧ (want < 0 ∨ ((u + dn + 1 : Nat) : Int) < want) then ((u + dn + 1 : Nat) : Int) else want) := by
  have hu := (List.getElem?_eq_some_iff.1 hm).1
  have hF : (followV b (dn : Int) p.1 p.2 0 (-1) L).1 = (followV b (dn : Int) p.1 p.2 u (-1) (L.drop u)).1 ∧ want = W0 := by
    cases h with
    | open_ hf2 hw hF => exact ⟨hF, hw⟩
    | wait s hs hus hl hw hF =>
      have : u = s := by omega
      subst this
      exact ⟨hF, hw⟩
    | over hs hw => omega
  obtain ⟨hF, hw⟩ := hF
  rcases scan_spec b p L u K with ⟨h1, h2⟩ | ⟨s, h1, h2, h3, h4, h5⟩
  · rw [h1, if_pos (by omega)]
    have hmiss := fol_miss b dn p L u m hm hin (fun v hv1 hv2 hv3 => h2 v hv1 (by omega))
    refine .over rfl ?_
    rw [hF, hmiss, hw]
    unfold firstI
    by_cases hl : u + dn + 1 < L.length
    · rw [if_pos hl]
      by_cases hc : W0 < 0 ∨ ((u + dn + 1 : Nat) : Int) < W0
      · rw [if_pos ⟨by omega, hl, hc⟩, if_pos ⟨by omega, hc⟩]
      · rw [if_neg (fun h => hc h.2.2), if_neg (fun h => hc h.2)]
    · rw [if_neg hl, if_neg (fun h => hl h.2.1), if_neg (by omega)]
  · rw [h1, if_neg (by omega), if_neg (by omega)]
    refine .wait s rfl (by omega) (by omega) hw ?_
    rw [hF, fol_hit b dn p L u s m hm hin h2 (by omega) (by omega) h4 h5]
end Go.Proofs.Ytfmmiafdlfdfoaa
