/- The lit lanterns do not depend on those before; a lantern that stays lit sounds no more: the plain law. Conditions: none. -/
import Derived.Test.YtpgcpalemnnbaaaLitLaw
import Derived.Test.YtpgcpalemnnbaaaViews23
namespace Go.Proofs.Ytpgcpalemnnbaaa
open Go.RowKit
theorem called_eq (b : BldV) (v v' : ViewV) (h1 : v.sv = v'.sv) (h2 : v.sh = v'.sh) : calledC b v = calledC b v' := by
  unfold calledC; rw [h1, h2]
theorem lit_indep (b : BldV) (V V' : List ViewV) (B B' : List CS) (hl : V.length = V'.length) (hB : V.length = B.length) (hB' : V.length = B'.length) (h : ∀ (i : Nat) v v', V[i]? = some v → V'[i]? = some v' → calledC b v = calledC b v') :
    ∀ n, n ≤ V.length → (lightK b V B n).lit = (lightK b V' B' n).lit ∧ (lightK b V B n).clr = (lightK b V' B' n).clr := by
  intro n hn
  induction n with
  | zero => exact ⟨rfl, rfl⟩
  | succ n ih =>
    obtain ⟨i1, i2⟩ := ih (by omega)
    obtain ⟨v, hv⟩ : ∃ v, V[n]? = some v := ⟨_, List.getElem?_eq_getElem (by omega)⟩
    obtain ⟨v', hv'⟩ : ∃ v, V'[n]? = some v := ⟨_, List.getElem?_eq_getElem (by omega)⟩
    obtain ⟨p, hp⟩ : ∃ p, B[n]? = some p := ⟨_, List.getElem?_eq_getElem (by omega)⟩
    obtain ⟨p', hp'⟩ : ∃ p, B'[n]? = some p := ⟨_, List.getElem?_eq_getElem (by omega)⟩
    rw [lightK_succ b V B n v p hv hp, lightK_succ b V' B' n v' p' hv' hp']
    unfold stepL
    simp only [i1, i2, h n v v' hv hv']
    exact ⟨trivial, trivial⟩
/-- The views that numbers make, as far as they matter. -/
def vwL (fl : Int) (l : List Nat) (k : Nat) : List ViewV := (List.range k).map fun j => ⟨false, svL l j, false, false, 0, 0, 0, shL fl l j, 0, 0, 0⟩
def litL (b : BldV) (l : List Nat) (k : Nat) : List CS := (lightK b (vwL b.fl l k) (List.replicate k (0#32, 0#32)) k).lit
theorem vwL_len (fl : Int) (l : List Nat) (k : Nat) : (vwL fl l k).length = k := by simp [vwL]
theorem litL_of (b : BldV) (l : List Nat) (k : Nat) (V : List ViewV) (B : List CS) (hV : V.length = k) (hB : B.length = k) (hP : ∀ (i : Nat) m, V[i]? = some m → m.sv = svL l i ∧ m.sh = shL b.fl l i) : (lightK b V B k).lit = litL b l k := by
  refine (lit_indep b V (vwL b.fl l k) B (List.replicate k (0#32, 0#32)) (by rw [hV, vwL_len]) (by omega) (by simp [hV]) (fun i v v' hv hv' => ?_) k (by omega)).1
  obtain ⟨h1, h2⟩ := hP i v hv
  have hi : i < k := by rw [← hV]; exact (List.getElem?_eq_some_iff.1 hv).1
  have e : v' = ⟨false, svL l i, false, false, 0, 0, 0, shL b.fl l i, 0, 0, 0⟩ := by
    have := hv'
    simp [vwL, hi] at this
    exact this.symm
  rw [e]
  exact called_eq b _ _ h1 h2
theorem minus_self (c : CS) : minus c c = (0#32, 0#32) := by
  unfold minus
  exact Prod.ext (by simp) (by simp)
theorem newB_self (c : CS) : newB c c = false := by
  unfold newB
  rw [minus_self]; rfl
theorem RdU.drop {w : World} {A : Addr} {l : List Nat} (h : RdU w (some A) l) (k : Nat) : RdU w (some (A.add k)) (l.drop k) := by
  intro i x hx
  rw [List.getElem?_drop] at hx
  obtain ⟨h1, A', hA, h2, h3⟩ := h (k + i) x hx
  obtain rfl : A = A' := by simpa using hA
  refine ⟨h1, A.add k, rfl, by rw [addr_block]; exact h2, ?_⟩
  have e : (A.add k).add i = A.add (k + i) := by
    unfold Addr.add
    split
    · rename_i hi; subst hi; simp
    · rename_i hi
      have : ¬ (k + i = 0) := by omega
      simp only [this, if_false]
      split
      · rename_i hk; subst hk; simp
      · simp; omega
  rw [e]
  exact h3
end Go.Proofs.Ytpgcpalemnnbaaa
