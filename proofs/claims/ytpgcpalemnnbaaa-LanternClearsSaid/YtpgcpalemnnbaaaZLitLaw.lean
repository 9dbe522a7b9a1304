/- At each floor and in each direction at most one lantern is lit: the plain law. Conditions: none. -/
import Derived.Test.YtpgcpalemnnbaaaZLightV
import Derived.Test.YtpgcpalemnnbaaaZBld10
import Derived.Test.YtpgcpalemnnbaaaZCallsPlain
namespace Go.Proofs.Ytpgcpalemnnbaaa
open Go.RowKit
theorem has_both3 (c h : CS) (k : Nat) (d : Int) (hk : k < 32) (hd : d = 1 ∨ d = 2) : has (both c h) k d = (has c k d && has h k d) := by
  rcases hd with rfl | rfl
  · rw [has_up _ _ (by omega) (by omega), has_up _ _ (by omega) (by omega), has_up _ _ (by omega) (by omega)]; simp [both]
  · rw [has_down _ _ (by omega) (by omega), has_down _ _ (by omega) (by omega), has_down _ _ (by omega) (by omega)]; simp [both]
theorem has_union3 (c h : CS) (k : Nat) (d : Int) (hk : k < 32) (hd : d = 1 ∨ d = 2) : has (union c h) k d = (has c k d || has h k d) := by
  rcases hd with rfl | rfl
  · rw [has_up _ _ (by omega) (by omega), has_up _ _ (by omega) (by omega), has_up _ _ (by omega) (by omega)]; simp [union]
  · rw [has_down _ _ (by omega) (by omega), has_down _ _ (by omega) (by omega), has_down _ _ (by omega) (by omega)]; simp [union]
theorem has_minus3 (c h : CS) (k : Nat) (d : Int) (hk : k < 32) (hd : d = 1 ∨ d = 2) : has (minus c h) k d = (has c k d && !has h k d) := by
  rcases hd with rfl | rfl
  · rw [has_up _ _ (by omega) (by omega), has_up _ _ (by omega) (by omega), has_up _ _ (by omega) (by omega)]; simp [minus, hk]
  · rw [has_down _ _ (by omega) (by omega), has_down _ _ (by omega) (by omega), has_down _ _ (by omega) (by omega)]; simp [minus, hk]
theorem has_zero3 (f d : Int) : has (0#32, 0#32) f d = false := by simp [has, both]
theorem hUp_bit3 (b : BldV) (d : Int) (k n : Nat) (hk : k < 32) (hn : n ≤ 32) : (hUp b d n).getLsbD k = (decide (k < n) && callB b k d) := by
  induction n with
  | zero => simp [hUp]
  | succ n ih =>
    have hb : (bit (n : Int)).getLsbD k = decide (k = n) := by
      unfold bit
      rw [Int.toNat_natCast, BitVec.getLsbD_shiftLeft]
      by_cases h : k = n
      · subst h; simp [hk]
      · by_cases h2 : k < n
        · simp [h, h2]
        · have h3 : 0 < k - n := by omega
          have : (1#32).getLsbD (k - n) = false := by
            rw [BitVec.getLsbD_ofNat]
            have : Nat.testBit 1 (k - n) = false := by
              rw [show (1 : Nat) = 2 ^ 0 by rfl, Nat.testBit_two_pow]; simp; omega
            simp [this]
          simp [h, this]
    have ih' := ih (by omega)
    unfold hUp
    by_cases hc : callB b n d = true
    · rw [if_pos hc, BitVec.getLsbD_or, ih', hb]
      by_cases h : k = n
      · subst h; simp [hc]
      · have : (k < n + 1) ↔ k < n := by omega
        simp [h, this]
    · rw [if_neg hc, ih']
      by_cases h : k = n
      · subst h; simp [hc]
      · have : (k < n + 1) ↔ k < n := by omega
        simp [this]
theorem hall_has3 (b : BldV) (k : Nat) (d : Int) (hk : k < 32) (h1 : 1 ≤ d) (h2 : d ≤ 2) : has (hallC b) k d = callB b k d := by
  rcases (show d = 1 ∨ d = 2 by omega) with rfl | rfl
  · rw [has_up _ _ (by omega) (by omega), Int.toNat_natCast]
    show (hUp b 1 32).getLsbD k = _
    rw [hUp_bit3 b 1 k 32 hk (by omega)]; simp [hk]
  · rw [has_down _ _ (by omega) (by omega), Int.toNat_natCast]
    show (hUp b 2 32).getLsbD k = _
    rw [hUp_bit3 b 2 k 32 hk (by omega)]; simp [hk]
/-- Whether one of the first i cars that serve shows the call. -/
def shB (V : List ViewV) (f d : Int) (i : Nat) : Bool := (V.take i).any fun v => v.sv && has v.sh f d
theorem shB_succ (V : List ViewV) (f d : Int) (i : Nat) (v : ViewV) (h : V[i]? = some v) : shB V f d (i + 1) = (shB V f d i || (v.sv && has v.sh f d)) := by
  unfold shB
  rw [List.take_add_one, h, List.any_append]; simp
theorem called_has (b : BldV) (v : ViewV) (k : Nat) (d : Int) (hk : k < 32) (hd : d = 1 ∨ d = 2) (hc : callB b k d = true) : has (calledC b v) k d = (v.sv && has v.sh k d) := by
  unfold calledC
  cases v.sv
  · simp [has_zero3]
  · simp only [if_true, Bool.true_and]
    rw [has_both3 _ _ k d hk hd, hall_has3 b k d hk (by omega) (by omega), hc, Bool.and_true]
theorem clr_has (b : BldV) (V : List ViewV) (B : List CS) (k : Nat) (d : Int) (hk : k < 32) (hd : d = 1 ∨ d = 2) (hc : callB b k d = true) (hB : V.length = B.length) : ∀ i, i ≤ V.length → has (lightK b V B i).clr k d = shB V k d i := by
  intro i hi
  induction i with
  | zero => exact has_zero3 _ _
  | succ i ih =>
    obtain ⟨v, hv⟩ : ∃ v, V[i]? = some v := ⟨_, List.getElem?_eq_getElem (by omega)⟩
    obtain ⟨p, hp⟩ : ∃ p, B[i]? = some p := ⟨_, List.getElem?_eq_getElem (by omega)⟩
    rw [lightK_succ b V B i v p hv hp, shB_succ V k d i v hv]
    show has (union (lightK b V B i).clr (minus (calledC b v) (lightK b V B i).clr)) k d = _
    rw [has_union3 _ _ k d hk hd, has_minus3 _ _ k d hk hd, called_has b v k d hk hd hc, ih (by omega)]
    cases shB V k d i <;> simp
theorem lit_at (b : BldV) (V : List ViewV) (B : List CS) (hB : V.length = B.length) : ∀ n, n ≤ V.length → ∀ (i : Nat) v p, i < n → V[i]? = some v → B[i]? = some p → (lightK b V B n).lit[i]? = some (minus (calledC b v) (lightK b V B i).clr) ∧ (lightK b V B n).gong[i]? = some (newB (minus (calledC b v) (lightK b V B i).clr) p) := by
  intro n hn
  induction n with
  | zero => intro i _ _ h; omega
  | succ n ih =>
    intro i v p hi hv hp
    obtain ⟨v', hv'⟩ : ∃ v, V[n]? = some v := ⟨_, List.getElem?_eq_getElem (by omega)⟩
    obtain ⟨p', hp'⟩ : ∃ p, B[n]? = some p := ⟨_, List.getElem?_eq_getElem (by omega)⟩
    obtain ⟨l1, l2⟩ := lightK_len b V B n (by omega) (by omega)
    rw [lightK_succ b V B n v' p' hv' hp']
    show ((lightK b V B n).lit ++ [minus (calledC b v') (lightK b V B n).clr])[i]? = _ ∧ ((lightK b V B n).gong ++ [newB (minus (calledC b v') (lightK b V B n).clr) p'])[i]? = _
    by_cases h : i < n
    · rw [List.getElem?_append_left (by omega), List.getElem?_append_left (by omega)]
      exact ih (by omega) i v p h hv hp
    · obtain rfl : i = n := by omega
      rw [hv] at hv'; rw [hp] at hp'
      cases hv'; cases hp'
      rw [List.getElem?_append_right (by omega), List.getElem?_append_right (by omega), l1, l2, Nat.sub_self]
      exact ⟨rfl, rfl⟩
theorem newB_zero (c : CS) : newB c (0#32, 0#32) = (!((c.1.toNat : Int) == 0) || !((c.2.toNat : Int) == 0)) := by
  have h : minus c (0#32, 0#32) = c := Prod.ext (BitVec.eq_of_getLsbD_eq fun i hi => by
    show (c.1 &&& ~~~(0#32)).getLsbD i = _
    rw [BitVec.getLsbD_and, BitVec.getLsbD_not, BitVec.getLsbD_zero, decide_eq_true hi]; simp) (BitVec.eq_of_getLsbD_eq fun i hi => by
    show (c.2 &&& ~~~(0#32)).getLsbD i = _
    rw [BitVec.getLsbD_and, BitVec.getLsbD_not, BitVec.getLsbD_zero, decide_eq_true hi]; simp)
  rw [newB, h]
end Go.Proofs.Ytpgcpalemnnbaaa
