/- The walks over package calls and its reference: sets of calls as pairs of bit vectors. Conditions: none but the ranges that each contract names. · The walks over the lists of calls: the list of a set, in the code and in its reference. Conditions: none. · The walk over calls.List: a range over a function. Conditions: none. -/
import Derived.Test.YtgoojlfpngmdlaaRows
import Derived.Test.YtgoojlfpngmdlaaZGrow
import Derived.WalkKit
import Derived.WalkSpells
import Derived.WalkLawsBesides
import Derived.Lib.Hide
import Derived.OneCell
import Derived.RangeFuncNested
import Derived.RangeFuncBound
import Derived.RangeFuncCalls
import Derived.RangeFuncLeaves
import Derived.RangeFuncBox
import Derived.Shelf.Abstract
import Derived.Shelf.RegionOpen
import Derived.OwnWalkIn
import Derived.TacticsInMore
import Derived.LoopNIn
import Derived.LoopIn
import Derived.Maps.AppendAt
namespace Go.Proofs.Ytgoojlfpngmdlaa
open Go.RowKit

/-- A set of calls: up, down. -/
abbrev CS : Type := BitVec 32 × BitVec 32
abbrev cv (c : CS) : Value := .agg #[.int .u32 (c.1.toNat : Int), .int .u32 (c.2.toNat : Int)]
def union (a b : CS) : CS := (a.1 ||| b.1, a.2 ||| b.2)
def both (a b : CS) : CS := (a.1 &&& b.1, a.2 &&& b.2)
def minus (a b : CS) : CS := (a.1 &&& ~~~b.1, a.2 &&& ~~~b.2)
def bit (f : Int) : BitVec 32 := 1#32 <<< f.toNat
def one (f d : Int) : CS := if 0 ≤ f ∧ f < 32 then (if d = 1 then (bit f, 0#32) else if d = 2 then (0#32, bit f) else (0#32, 0#32)) else (0#32, 0#32)
def has (c : CS) (f d : Int) : Bool := both c (one f d) != (0#32, 0#32)

theorem and32 (x y : BitVec 32) : bits .and .u32 (x.toNat : Int) (y.toNat : Int) = ((x &&& y).toNat : Int) := by
  rw [u32_and_nat _ _ x.isLt y.isLt, BitVec.toNat_and]
theorem or32 (x y : BitVec 32) : bits .or .u32 (x.toNat : Int) (y.toNat : Int) = ((x ||| y).toNat : Int) := by
  rw [u32_or_nat _ _ x.isLt y.isLt, BitVec.toNat_or]
theorem andNot32 (x y : BitVec 32) : bits .andNot .u32 (x.toNat : Int) (y.toNat : Int) = ((x &&& ~~~y).toNat : Int) := by
  have e : ∀ z : BitVec 32, BitVec.ofInt 32 (z.toNat : Int) = z := fun z => by
    apply BitVec.eq_of_toNat_eq; rw [BitVec.ofInt_natCast, BitVec.toNat_ofNat, Nat.mod_eq_of_lt z.isLt]
  show IntKind.u32.wrap ((BitVec.ofInt 32 (x.toNat : Int) &&& ~~~BitVec.ofInt 32 (y.toNat : Int)).toNat : Int) = _
  rw [e, e, IntKind.wrap_u32]
  have := (x &&& ~~~y).isLt
  omega

theorem cell2_0 (w : World) (x y : Value) (t : TypeId) : (w.alloc (.cells #[x, y] t)).cell? ⟨w.heap.size, 0, none⟩ = some x := by simp [World.cell?, World.alloc, -World.alloc_eq]
theorem cell2_1 (w : World) (x y : Value) (t : TypeId) : (w.alloc (.cells #[x, y] t)).cell? ⟨w.heap.size, 1, none⟩ = some y := by simp [World.cell?, World.alloc, -World.alloc_eq]
/-- Three blocks more. -/
theorem below3 (w : World) (x y z : Obj) : Below w.heap.size w (((w.alloc x).alloc y).alloc z) :=
  (((Below.refl _ _).alloc (Nat.le_refl _) _).alloc (by simp) _).alloc (by simp; omega) _
theorem below2 (w : World) (x y : Obj) : Below w.heap.size w ((w.alloc x).alloc y) := ((Below.refl _ _).alloc (Nat.le_refl _) _).alloc (by simp) _
theorem below1 (w : World) (x : Obj) : Below w.heap.size w (w.alloc x) := (Below.refl _ _).alloc (Nat.le_refl _) _







theorem pow_bit (f : Int) (h0 : 0 ≤ f) (h1 : f < 32) : (2 : Int) ^ f.toNat % 4294967296 = ((bit f).toNat : Int) := by
  obtain ⟨n, rfl⟩ := Int.eq_ofNat_of_zero_le h0
  have hn : n < 32 := by omega
  have : ∀ n, n < 32 → (2 : Int) ^ n % 4294967296 = (((1#32 <<< n).toNat : Nat) : Int) := by decide
  simpa [bit] using this n hn
theorem one_up (f : Int) (h0 : 0 ≤ f) (h1 : f < 32) : one f 1 = (bit f, 0#32) := by simp [one, h0, h1]
theorem one_down (f : Int) (h0 : 0 ≤ f) (h1 : f < 32) : one f 2 = (0#32, bit f) := by simp [one, h0, h1]
theorem one_dir (f d : Int) (h1 : ¬ d = 1) (h2 : ¬ d = 2) : one f d = (0#32, 0#32) := by simp [one, h1, h2]
theorem one_out (f d : Int) (h : ¬ (0 ≤ f ∧ f < 32)) : one f d = (0#32, 0#32) := by rw [one, if_neg h]



/-- The test of a set. -/
theorem cv_ne (c : CS) : (!((c.1.toNat : Int) == 0) || !((c.2.toNat : Int) == 0)) = (c != (0#32, 0#32)) := by
  have h : ∀ x : BitVec 32, ((x.toNat : Int) == 0) = (x == 0#32) := fun x => by
    rw [Bool.eq_iff_iff, beq_iff_eq, beq_iff_eq]
    exact ⟨fun h => BitVec.eq_of_toNat_eq (by simpa using h), fun h => by rw [h]; rfl⟩
  rw [h, h]; show _ = !(c.1 == 0#32 && c.2 == 0#32); rw [Bool.not_and]

theorem and_bit (x : BitVec 32) (n : Nat) (hn : n < 32) : (x &&& (1#32 <<< n) != 0#32) = x.getLsbD n := by
  cases hb : x.getLsbD n
  · have : x &&& (1#32 <<< n) = 0#32 := by
      apply BitVec.eq_of_getLsbD_eq
      intro i hi
      simp only [BitVec.getLsbD_and, BitVec.getLsbD_shiftLeft, BitVec.getLsbD_zero]
      by_cases e : i = n
      · subst e; simp [hb]
      · by_cases h1 : i < n
        · simp [h1]
        · have : ∀ k, 0 < k → (1#32).getLsbD k = false := fun k hk => by
            rw [BitVec.getLsbD_ofNat]
            match k, hk with
            | k + 1, _ => simp [Nat.testBit_succ]
          simp [this (i - n) (by omega)]
    simp [this]
  · rw [bne_iff_ne]
    intro h
    have h2 : (x &&& (1#32 <<< n)).getLsbD n = true := by
      rw [BitVec.getLsbD_and, hb, BitVec.getLsbD_shiftLeft]; simp [hn]
    rw [h] at h2
    simp at h2
theorem has_up (c : CS) (f : Int) (h0 : 0 ≤ f) (h1 : f < 32) : has c f 1 = c.1.getLsbD f.toNat := by
  rw [has, one_up f h0 h1]
  show (!(c.1 &&& bit f == 0#32 && c.2 &&& 0#32 == 0#32)) = _
  rw [← and_bit c.1 f.toNat (by omega)]
  simp [bit, bne]
theorem has_down (c : CS) (f : Int) (h0 : 0 ≤ f) (h1 : f < 32) : has c f 2 = c.2.getLsbD f.toNat := by
  rw [has, one_down f h0 h1]
  show (!(c.1 &&& 0#32 == 0#32 && c.2 &&& bit f == 0#32)) = _
  rw [← and_bit c.2 f.toNat (by omega)]
  simp [bit, bne]
theorem has_dir (c : CS) (f d : Int) (h1 : ¬ d = 1) (h2 : ¬ d = 2) : has c f d = false := by
  rw [has, one_dir f d h1 h2]; simp [both]
theorem has_out (c : CS) (f d : Int) (h : ¬ (0 ≤ f ∧ f < 32)) : has c f d = false := by
  rw [has, one_out f d h]; simp [both]
theorem bit32 (x : BitVec 32) (f : Int) : (bits BinOp.and IntKind.u32 ((x.toNat : Int) / 2 ^ f.toNat) 1 == 1) = x.getLsbD f.toNat := by
  have e : ((x.toNat : Int) / 2 ^ f.toNat) = ((x.toNat / 2 ^ f.toNat : Nat) : Int) := by simp
  have hb : x.toNat / 2 ^ f.toNat < 4294967296 := Nat.lt_of_le_of_lt (Nat.div_le_self _ _) x.isLt
  have h := u32_and_nat (x.toNat / 2 ^ f.toNat) 1 hb (by omega)
  rw [e]
  have h' : bits BinOp.and IntKind.u32 ((x.toNat / 2 ^ f.toNat : Nat) : Int) 1 = ((x.toNat / 2 ^ f.toNat &&& 1 : Nat) : Int) := h
  rw [h', BitVec.getLsbD, Nat.testBit, Nat.shiftRight_eq_div_pow, Nat.and_comm 1]
  have hz : x.toNat / 2 ^ f.toNat &&& 1 ≤ 1 := Nat.and_le_right
  generalize x.toNat / 2 ^ f.toNat &&& 1 = z at hz
  match z, hz with
  | 0, _ => rfl
  | 1, _ => rfl

end Go.Proofs.Ytgoojlfpngmdlaa
namespace Go.Proofs.Ytgoojlfpngmdlaa
open Go.RowKit

/-- The cells of an entry that is no car's. -/
def entC (p : Int × Int) : List Value := [.int .i64 p.1, .int .i64 p.2, .int .i64 (-1), .int .i64 0, .bool false]
def item (c : CS) (f d : Int) : List (Int × Int) := if has c f d then [(f, d)] else []
def rowOf (c : CS) (f : Nat) : List (Int × Int) := item c f 1 ++ item c f 2
def listTo (c : CS) (k : Nat) : List (Int × Int) := (List.range k).flatMap (rowOf c)
def listC (c : CS) : List (Int × Int) := listTo c 32
def part (c : CS) (k : Nat) : Nat → List (Int × Int)
  | 0 => listTo c k
  | 1 => listTo c k ++ item c k 1
  | _ => listTo c (k + 1)
def cells (l : List (Int × Int)) : List Value := l.flatMap entC
theorem cells_len (l : List (Int × Int)) : (cells l).length = l.length * 5 := by
  induction l with
  | nil => rfl
  | cons p l ih => simp only [cells, List.flatMap_cons, List.length_append, List.length_cons] at *; rw [ih]; simp [entC]; omega
theorem listTo_succ (c : CS) (k : Nat) : listTo c (k + 1) = listTo c k ++ item c k 1 ++ item c k 2 := by
  simp [listTo, List.range_succ, rowOf]
theorem item_len (c : CS) (f d : Int) : (item c f d).length ≤ 1 := by unfold item; split <;> simp
theorem listTo_len (c : CS) (k : Nat) : (listTo c k).length ≤ 2 * k := by
  induction k with
  | zero => simp [listTo]
  | succ k ih =>
    rw [listTo_succ, List.length_append, List.length_append]
    have := item_len c k 1; have := item_len c k 2
    omega
theorem part_len (c : CS) (k j : Nat) : (part c k j).length ≤ 2 * k + 2 := by
  have h1 := listTo_len c k; have h2 := listTo_len c (k + 1); have h3 := item_len c k 1
  unfold part
  split
  · omega
  · simp; omega
  · omega
theorem part_yes (c : CS) (k j : Nat) (hj : j < 2) (h : has c k ((j : Int) + 1) = true) : part c k (j + 1) = part c k j ++ [((k : Int), (j : Int) + 1)] := by
  match j, hj with
  | 0, _ => simp only [part, item]; rw [if_pos (by simpa using h)]; rfl
  | 1, _ => simp only [part, listTo_succ]; congr 1; rw [item, if_pos (by simpa using h)]; rfl
theorem part_no (c : CS) (k j : Nat) (hj : j < 2) (h : has c k ((j : Int) + 1) = false) : part c k (j + 1) = part c k j := by
  match j, hj with
  | 0, _ => simp only [part, item]; rw [if_neg (by simpa using h), List.append_nil]
  | 1, _ => simp only [part, listTo_succ]; rw [item.eq_def c k 2, if_neg (by simpa using h), List.append_nil]
theorem cells_snoc (l : List (Int × Int)) (p : Int × Int) : cells (l ++ [p]) = cells l ++ entC p := by simp [cells]

theorem ownsRow_later {w w' : World} {base : Nat} {e : TypeId} {size : Nat} {v : Value} {n : Nat} {xs : List Value} (h : w.ownsRow base e size v n xs) (hb : Below w.heap.size w w') : w'.ownsRow base e size v n xs := by
  obtain ⟨h1, h2⟩ := h
  refine ⟨h1, ?_⟩
  rcases h2 with h2 | ⟨g, cap, cur, hv, hg, hh, r⟩
  · exact .inl h2
  · exact .inr ⟨g, cap, cur, hv, hg, by rw [hb.block g (Array.getElem?_eq_some_iff.1 hh).1]; exact hh, r⟩
theorem entC_one (p : Int × Int) : ∀ u ∈ entC p, u.oneCell' = true := by
  intro u hu
  simp only [entC, List.mem_cons, List.not_mem_nil, or_false] at hu
  rcases hu with rfl | rfl | rfl | rfl | rfl <;> rfl
theorem ent_new (w : World) (p : Int × Int) (t : TypeId) : ∀ j u, (entC p)[j]? = some u → (w.alloc (.cells #[.int .i64 p.1, .int .i64 p.2, .int .i64 (-1), .int .i64 0, .bool false] t)).cell? ((⟨w.heap.size, 0, none⟩ : Addr).add j) = some u := by
  intro j u hu
  have hj : j < 5 := (List.getElem?_eq_some_iff.1 hu).1
  rw [Addr.add_lit]
  match j, hj with
  | 0, _ | 1, _ | 2, _ | 3, _ | 4, _ => simp [entC] at hu; subst hu; simp [World.cell?, World.alloc, -World.alloc_eq]
theorem infoE : (Try.prog.info? 52).map (fun i => (i.zero, i.size, i.bytes)) = some (some (.agg #[.int .i64 0, .int .i64 0, .int .i64 0, .int .i64 0, .bool false]), 5, 40) := by kernel_rfl

end Go.Proofs.Ytgoojlfpngmdlaa
namespace Go.Proofs.Ytgoojlfpngmdlaa
open Go.RowKit Go.Shelf
attribute [local go_sem] Oper.semAt_some
end Go.Proofs.Ytgoojlfpngmdlaa
