/- The walks over package calls and its reference: sets of calls as pairs of bit vectors. Conditions: none but the ranges that each contract names. -/
import Derived.Test.YtgoojlfpngmdlaaRows
import Derived.Test.YtgoojlfpngmdlaaZGrow
import Derived.WalkKit
import Derived.WalkSpells
import Derived.WalkLawsBesides
import Derived.Lib.Hide
namespace Go.Proofs.Ytgoojlfpngmdlaa
open Go.RowKit

/-- A set of calls: up, down. -/
abbrev CS : Type := BitVec 32 × BitVec 32
abbrev cv (c : CS) : Value := .agg #[.int .u32 (c.1.toNat : Int), .int .u32 (c.2.toNat : Int)]
def union (a b : CS) : CS := (a.1 ||| b.1, a.2 ||| b.2)
def both (a b : CS) : CS := (a.1 &&& b.1, a.2 &&& b.2)
def minus (a b : CS) : CS := (a.1 &&& ~~~b.1, a.2 &&& ~~~b.2)
def bit (f : Int) : BitVec 32 := 1#32 <<< f.toNat
def one (f d : Int) : CS := if 0 ≤ f ∧ f < 32 then (if d = 1 then (bit f, 0#32) else if d = 2 then (0#32, bit f) else (0#32, 0#32)) else (0#32, 0#32)
def has (c : CS) (f d : Int) : Bool := both c (one f d) != (0#32, 0#32)

theorem and32 (x y : BitVec 32) : bits .and .u32 (x.toNat : Int) (y.toNat : Int) = ((x &&& y).toNat : Int) := by
  rw [u32_and_nat _ _ x.isLt y.isLt, BitVec.toNat_and]
theorem or32 (x y : BitVec 32) : bits .or .u32 (x.toNat : Int) (y.toNat : Int) = ((x ||| y).toNat : Int) := by
  rw [u32_or_nat _ _ x.isLt y.isLt, BitVec.toNat_or]
theorem andNot32 (x y : BitVec 32) : bits .andNot .u32 (x.toNat : Int) (y.toNat : Int) = ((x &&& ~~~y).toNat : Int) := by
  have e : ∀ z : BitVec 32, BitVec.ofInt 32 (z.toNat : Int) = z := fun z => by
    apply BitVec.eq_of_toNat_eq; rw [BitVec.ofInt_natCast, BitVec.toNat_ofNat, Nat.mod_eq_of_lt z.isLt]
  show IntKind.u32.wrap ((BitVec.ofInt 32 (x.toNat : Int) &&& ~~~BitVec.ofInt 32 (y.toNat : Int)).toNat : Int) = _
  rw [e, e, IntKind.wrap_u32]
  have := (x &&& ~~~y).isLt
  omega

theorem cell2_0 (w : World) (x y : Value) (t : TypeId) : (w.alloc (.cells #[x, y] t)).cell? ⟨w.heap.size, 0, none⟩ = some x := by simp [World.cell?, World.alloc, -World.alloc_eq]
theorem cell2_1 (w : World) (x y : Value) (t : TypeId) : (w.alloc (.cells #[x, y] t)).cell? ⟨w.heap.size, 1, none⟩ = some y := by simp [World.cell?, World.alloc, -World.alloc_eq]
/-- Three blocks more. -/
theorem below3 (w : World) (x y z : Obj) : Below w.heap.size w (((w.alloc x).alloc y).alloc z) :=
  (((Below.refl _ _).alloc (Nat.le_refl _) _).alloc (by simp) _).alloc (by simp; omega) _
theorem below2 (w : World) (x y : Obj) : Below w.heap.size w ((w.alloc x).alloc y) := ((Below.refl _ _).alloc (Nat.le_refl _) _).alloc (by simp) _
theorem below1 (w : World) (x : Obj) : Below w.heap.size w (w.alloc x) := (Below.refl _ _).alloc (Nat.le_refl _) _







theorem pow_bit (f : Int) (h0 : 0 ≤ f) (h1 : f < 32) : (2 : Int) ^ f.toNat % 4294967296 = ((bit f).toNat : Int) := by
  obtain ⟨n, rfl⟩ := Int.eq_ofNat_of_zero_le h0
  have hn : n < 32 := by omega
  have : ∀ n, n < 32 → (2 : Int) ^ n % 4294967296 = (((1#32 <<< n).toNat : Nat) : Int) := by decide
  simpa [bit] using this n hn
theorem one_up (f : Int) (h0 : 0 ≤ f) (h1 : f < 32) : one f 1 = (bit f, 0#32) := by simp [one, h0, h1]
theorem one_down (f : Int) (h0 : 0 ≤ f) (h1 : f < 32) : one f 2 = (0#32, bit f) := by simp [one, h0, h1]
theorem one_dir (f d : Int) (h1 : ¬ d = 1) (h2 : ¬ d = 2) : one f d = (0#32, 0#32) := by simp [one, h1, h2]
theorem one_out (f d : Int) (h : ¬ (0 ≤ f ∧ f < 32)) : one f d = (0#32, 0#32) := by rw [one, if_neg h]



/-- The test of a set. -/
theorem cv_ne (c : CS) : (!((c.1.toNat : Int) == 0) || !((c.2.toNat : Int) == 0)) = (c != (0#32, 0#32)) := by
  have h : ∀ x : BitVec 32, ((x.toNat : Int) == 0) = (x == 0#32) := fun x => by
    rw [Bool.eq_iff_iff, beq_iff_eq, beq_iff_eq]
    exact ⟨fun h => BitVec.eq_of_toNat_eq (by simpa using h), fun h => by rw [h]; rfl⟩
  rw [h, h]; show _ = !(c.1 == 0#32 && c.2 == 0#32); rw [Bool.not_and]

theorem and_bit (x : BitVec 32) (n : Nat) (hn : n < 32) : (x &&& (1#32 <<< n) != 0#32) = x.getLsbD n := by
  cases hb : x.getLsbD n
  · have : x &&& (1#32 <<< n) = 0#32 := by
      apply BitVec.eq_of_getLsbD_eq
      intro i hi
      simp only [BitVec.getLsbD_and, BitVec.getLsbD_shiftLeft, BitVec.getLsbD_zero]
      by_cases e : i = n
      · subst e; simp [hb]
      · by_cases h1 : i < n
        · simp [h1]
        · have : ∀ k, 0 < k → (1#32).getLsbD k = false := fun k hk => by
            rw [BitVec.getLsbD_ofNat]
            match k, hk with
            | k + 1, _ => simp [Nat.testBit_succ]
          simp [this (i - n) (by omega)]
    simp [this]
  · rw [bne_iff_ne]
    intro h
    have h2 : (x &&& (1#32 <<< n)).getLsbD n = true := by
      rw [BitVec.getLsbD_and, hb, BitVec.getLsbD_shiftLeft]; simp [hn]
    rw [h] at h2
    simp at h2
theorem has_up (c : CS) (f : Int) (h0 : 0 ≤ f) (h1 : f < 32) : has c f 1 = c.1.getLsbD f.toNat := by
  rw [has, one_up f h0 h1]
  show (!(c.1 &&& bit f == 0#32 && c.2 &&& 0#32 == 0#32)) = _
  rw [← and_bit c.1 f.toNat (by omega)]
  simp [bit, bne]
theorem has_down (c : CS) (f : Int) (h0 : 0 ≤ f) (h1 : f < 32) : has c f 2 = c.2.getLsbD f.toNat := by
  rw [has, one_down f h0 h1]
  show (!(c.1 &&& 0#32 == 0#32 && c.2 &&& bit f == 0#32)) = _
  rw [← and_bit c.2 f.toNat (by omega)]
  simp [bit, bne]
theorem has_dir (c : CS) (f d : Int) (h1 : ¬ d = 1) (h2 : ¬ d = 2) : has c f d = false := by
  rw [has, one_dir f d h1 h2]; simp [both]
theorem has_out (c : CS) (f d : Int) (h : ¬ (0 ≤ f ∧ f < 32)) : has c f d = false := by
  rw [has, one_out f d h]; simp [both]
theorem bit32 (x : BitVec 32) (f : Int) : (bits BinOp.and IntKind.u32 ((x.toNat : Int) / 2 ^ f.toNat) 1 == 1) = x.getLsbD f.toNat := by
  have e : ((x.toNat : Int) / 2 ^ f.toNat) = ((x.toNat / 2 ^ f.toNat : Nat) : Int) := by simp
  have hb : x.toNat / 2 ^ f.toNat < 4294967296 := Nat.lt_of_le_of_lt (Nat.div_le_self _ _) x.isLt
  have h := u32_and_nat (x.toNat / 2 ^ f.toNat) 1 hb (by omega)
  rw [e]
  have h' : bits BinOp.and IntKind.u32 ((x.toNat / 2 ^ f.toNat : Nat) : Int) 1 = ((x.toNat / 2 ^ f.toNat &&& 1 : Nat) : Int) := h
  rw [h', BitVec.getLsbD, Nat.testBit, Nat.shiftRight_eq_div_pow, Nat.and_comm 1]
  have hz : x.toNat / 2 ^ f.toNat &&& 1 ≤ 1 := Nat.and_le_right
  generalize x.toNat / 2 ^ f.toNat &&& 1 = z at hz
  match z, hz with
  | 0, _ => rfl
  | 1, _ => rfl

end Go.Proofs.Ytgoojlfpngmdlaa
