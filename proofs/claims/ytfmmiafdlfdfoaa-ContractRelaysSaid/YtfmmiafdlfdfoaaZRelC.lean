/- A relay car shows each of its calls within its promise: the plain law. Conditions: those of each theorem. -/
import Derived.Test.YtfmmiafdlfdfoaaZRelB
import Derived.Test.YtfmmiafdlfdfoaaZValid18
import Derived.Test.YtfmmiafdlfdfoaaZSmall
namespace Go.Proofs.Ytfmmiafdlfdfoaa
namespace Rel
open Go.RowKit
/-- A simulated relay car. -/
structure RelV where
  st : Int
  fl : Int
  dr : Int
  op : Int
  dor : Int
  tm : Int
  calls : CS
  car : BitVec 32
/-- Its times: step, travel, dwell. -/
structure CfgV where
  s : Int
  t : Int
  d : Int
def nextF (fl d : Int) : Int := if d = 1 then fl + 1 else fl - 1
def doorOf (st : Int) : Int := if st = 0 then 2 else if st = 1 then 2 else if st = 2 then 0 else if st = 3 then 1 else 0
def newV (fl : Int) : RelV := ⟨0, fl, 0, 0, 2, 0, (0#32, 0#32), 0#32⟩
def isRelB (n : Int) (H : CS) (s : RelV) : Bool :=
  decide (0 ≤ s.st) && decide (s.st ≤ 4) && decide (0 ≤ s.fl) && decide (s.fl < n) && decide (0 ≤ s.dr) && decide (s.dr ≤ 2) && decide (0 ≤ s.op) && decide (s.op ≤ 7) && decide (0 ≤ s.tm) && decide (s.tm ≤ 1000000)
  && decide (s.dor = doorOf s.st) && (decide (s.tm = 0) == decide (s.st = 0)) && !(decide (s.st = 1) && (decide (s.dr = 0) || decide (nextF s.fl s.dr < 0) || decide (n ≤ nextF s.fl s.dr)))
  && decide (minus s.calls H = (0#32, 0#32)) && decide (s.car.toNat / 2 ^ n.toNat = 0)
def decideV (n : Int) (c : CfgV) (s : RelV) : RelV :=
  let x := chooseV n s.dr s.op s.fl (s.car, s.calls)
  let w := nextV n s.dr s.op s.fl (s.car, s.calls)
  ⟨if x.1 = 3 then 2 else if x.1 = 1 ∨ x.1 = 2 then 1 else 0, s.fl, w.1, w.2, if x.1 = 3 then 0 else 2, if x.1 = 3 then c.t else if x.1 = 1 ∨ x.1 = 2 then c.s else 0, s.calls, s.car⟩
def servedV (s : RelV) : RelV := if s.st = 3 then { s with car := s.car &&& ~~~bit s.fl, calls := minus s.calls (one s.fl s.dr) } else s
/-- The state with what is injected and pressed. -/
def withV (n : Int) (H : CS) (s : RelV) (inj : CS) (press : BitVec 32) : RelV := { s with calls := union s.calls (both inj H), car := s.car ||| (press &&& allM n) }
def tickV (n : Int) (c : CfgV) (s : RelV) : RelV :=
  if 1 < s.tm then servedV { s with tm := s.tm - 1 }
  else if s.st = 1 then decideV n c { s with fl := nextF s.fl s.dr, op := 0 }
  else if s.st = 2 then servedV { s with st := 3, dor := 1, tm := c.d }
  else if s.st = 3 then servedV { s with st := 4, dor := 0, tm := c.t }
  else decideV n c s
def stepV (n : Int) (H : CS) (c : CfgV) (s : RelV) (inj : CS) (press : BitVec 32) : RelV := if isRelB n H s then tickV n c (withV n H s inj press) else newV 0
/-- What is seen of it. -/
def obsR (s : RelV) : ObsV := (if s.st = 1 then -1 else s.fl, s.dr, s.dor)
/-! ### States that are reached -/
structure Ok (n : Int) (H : CS) (c : CfgV) (s : RelV) : Prop where
  st : 0 ≤ s.st ∧ s.st ≤ 4
  fl : 0 ≤ s.fl ∧ s.fl < n
  dr : 0 ≤ s.dr ∧ s.dr ≤ 2
  op : 0 ≤ s.op ∧ s.op ≤ 7
  dor : s.dor = doorOf s.st
  tm : (s.st = 0 ∧ s.tm = 0) ∨ (s.st = 1 ∧ 1 ≤ s.tm ∧ s.tm ≤ c.s) ∨ (s.st = 2 ∧ 1 ≤ s.tm ∧ s.tm ≤ c.t) ∨ (s.st = 3 ∧ 1 ≤ s.tm ∧ s.tm ≤ c.d) ∨ (s.st = 4 ∧ 1 ≤ s.tm ∧ s.tm ≤ c.t)
  mv : s.st = 1 → (s.dr = 1 ∨ s.dr = 2) ∧ 0 ≤ nextF s.fl s.dr ∧ nextF s.fl s.dr < n
  calls : ∀ k : Nat, k < 32 → (s.calls.1.getLsbD k = true → H.1.getLsbD k = true) ∧ (s.calls.2.getLsbD k = true → H.2.getLsbD k = true)
  car : ∀ k : Nat, k < 32 → n ≤ k → s.car.getLsbD k = false
/-- Which calls a building has. -/
structure HallOk (n : Int) (H : CS) : Prop where
  n2 : 2 ≤ n
  n32 : n ≤ 32
  up : ∀ k : Nat, k < 32 → (H.1.getLsbD k = true ↔ (k : Int) ≤ n - 2)
  dn : ∀ k : Nat, k < 32 → (H.2.getLsbD k = true ↔ 1 ≤ (k : Int) ∧ (k : Int) ≤ n - 1)
theorem allM_bit {n : Int} (h2 : 0 ≤ n) (h32 : n ≤ 32) (i : Nat) (hi : i < 32) : (allM n).getLsbD i = decide ((i : Int) < n) := by
  have h : ∀ m : Nat, m < 33 → ∀ i : Nat, i < 32 → (1#32 <<< m - 1#32).getLsbD i = decide (i < m) := by decide +kernel
  obtain ⟨m, rfl⟩ := Int.eq_ofNat_of_zero_le h2
  unfold allM
  rw [Int.toNat_natCast, h m (by omega) i hi]
  congr 1
  exact propext ⟨fun h => by omega, fun h => by omega⟩
theorem ok_isRel {n : Int} {H : CS} {c : CfgV} {s : RelV} (hc : c.s ≤ 1000000 ∧ c.t ≤ 1000000 ∧ c.d ≤ 1000000) (h : Ok n H c s) : isRelB n H s = true := by
  have h1 : minus s.calls H = (0#32, 0#32) := by
    have key : ∀ x y : BitVec 32, (∀ k : Nat, k < 32 → x.getLsbD k = true → y.getLsbD k = true) → x &&& ~~~y = 0#32 := by
      intro x y hxy
      refine bv_ext fun i hi => ?_
      rw [BitVec.getLsbD_and, BitVec.getLsbD_not, BitVec.getLsbD_zero]
      cases hx : x.getLsbD i
      · simp
      · rw [hxy i hi hx]; simp
    exact Prod.ext (key _ _ fun k hk => (h.calls k hk).1) (key _ _ fun k hk => (h.calls k hk).2)
  have h2 : s.car.toNat / 2 ^ n.toNat = 0 := by
    apply Nat.div_eq_of_lt
    apply Nat.lt_pow_two_of_testBit
    intro i hi
    by_cases h32 : i < 32
    · exact h.car i h32 (by omega)
    · exact BitVec.getLsbD_of_ge _ _ (by omega)
  obtain ⟨a1, a2⟩ := h.st; obtain ⟨b1, b2⟩ := h.fl; obtain ⟨c1, c2⟩ := h.dr; obtain ⟨d1, d2⟩ := h.op
  have ht : 0 ≤ s.tm ∧ s.tm ≤ 1000000 ∧ (s.tm = 0 ↔ s.st = 0) := by
    have := h.tm; omega
  have h3 : (decide (s.tm = 0) == decide (s.st = 0)) = true := by
    rw [beq_iff_eq]; exact decide_eq_decide.2 ht.2.2
  have h4 : (decide (s.st = 1) && (decide (s.dr = 0) || decide (nextF s.fl s.dr < 0) || decide (n ≤ nextF s.fl s.dr))) = false := by
    by_cases e : s.st = 1
    · obtain ⟨e1, e2, e3⟩ := h.mv e
      simp; intro _; omega
    · simp [e]
  unfold isRelB
  rw [h3, h4]
  simp [a1, a2, b1, b2, c1, c2, d1, d2, ht.1, ht.2.1, h.dor, h1, h2]
end Rel
end Go.Proofs.Ytfmmiafdlfdfoaa
