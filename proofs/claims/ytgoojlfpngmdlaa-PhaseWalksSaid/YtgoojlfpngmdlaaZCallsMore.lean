/- The walks over the counts and the halves of a set of calls. Conditions: a floor is a 64 bit number. -/
import Derived.Test.YtgoojlfpngmdlaaZCallsEach
import Derived.BigQuiet
import Derived.Lib.BitFns
import Derived.Lib.Walk
import Derived.Lib.Small
namespace Go.Proofs.Ytgoojlfpngmdlaa
open Go.RowKit

/-! a block of two cells -/
def Two (W : World) (b : Nat) (x y : Value) : Prop := ∃ t, W.heap[b]? = some (.cells #[x, y] t (0, 0))
theorem Two.new (W : World) (x y : Value) (t : TypeId) : Two (W.alloc (.cells #[x, y] t)) W.heap.size x y := ⟨t, World.alloc_heap_new W _⟩
theorem Two.lt {W : World} {b : Nat} {x y : Value} (h : Two W b x y) : b < W.heap.size := by obtain ⟨t, h⟩ := h; exact (Array.getElem?_eq_some_iff.1 h).1
theorem Two.later {W W' : World} {b B : Nat} {x y : Value} (h : Two W b x y) (hb : Below B W W') (hB : b < B) : Two W' b x y := by obtain ⟨t, h⟩ := h; exact ⟨t, (hb.block b hB).trans h⟩
theorem Two.next {W W' : World} {b : Nat} {x y : Value} (h : Two W b x y) (hb : Below W.heap.size W W') : Two W' b x y := h.later hb h.lt
theorem Two.cell0 {W : World} {b : Nat} {x y : Value} (h : Two W b x y) : W.cell? ⟨b, 0, none⟩ = some x := by obtain ⟨t, h⟩ := h; simp [World.cell?, h]
theorem Two.cell1 {W : World} {b : Nat} {x y : Value} (h : Two W b x y) : W.cell? ⟨b, 1, none⟩ = some y := by obtain ⟨t, h⟩ := h; simp [World.cell?, h]
theorem Two.fr0 {W : World} {b : Nat} {x y : Value} (h : Two W b x y) : W.frozen? ⟨b, 0, none⟩ = false := by obtain ⟨t, h⟩ := h; simp [World.frozen?, h]
theorem Two.fr1 {W : World} {b : Nat} {x y : Value} (h : Two W b x y) : W.frozen? ⟨b, 1, none⟩ = false := by obtain ⟨t, h⟩ := h; simp [World.frozen?, h]
theorem Two.set0 {W : World} {b : Nat} {x y : Value} (h : Two W b x y) (u : Value) : Two (W.setCell ⟨b, 0, none⟩ u) b u y := by
  obtain ⟨t, h⟩ := h
  obtain ⟨hlt, hk⟩ := Array.getElem?_eq_some_iff.1 h
  refine ⟨t, ?_⟩
  show (W.heap.modify b _)[b]? = _
  rw [Array.getElem?_eq_getElem (by rw [Array.size_modify]; exact hlt), Array.getElem_modify_self, hk]
  rfl
theorem Two.set1 {W : World} {b : Nat} {x y : Value} (h : Two W b x y) (u : Value) : Two (W.setCell ⟨b, 1, none⟩ u) b x u := by
  obtain ⟨t, h⟩ := h
  obtain ⟨hlt, hk⟩ := Array.getElem?_eq_some_iff.1 h
  refine ⟨t, ?_⟩
  show (W.heap.modify b _)[b]? = _
  rw [Array.getElem?_eq_getElem (by rw [Array.size_modify]; exact hlt), Array.getElem_modify_self, hk]
  rfl
theorem Two.set {W : World} {b : Nat} {x y : Value} (h : Two W b x y) (u v : Value) : Two ((W.setCell ⟨b, 0, none⟩ u).setCell ⟨b, 1, none⟩ v) b u v := (h.set0 u).set1 v
theorem below_set2 {W W' : World} {B b : Nat} (h : Below B W W') (hb : B ≤ b) (u v : Value) : Below B W ((W'.setCell ⟨b, 0, none⟩ u).setCell ⟨b, 1, none⟩ v) :=
  (h.setCell (p := ⟨b, 0, none⟩) hb u).setCell (p := ⟨b, 1, none⟩) hb v

/-! the number of ones -/
def popTo (x : BitVec 32) (k : Nat) : Nat := ((List.range k).filter fun i => x.getLsbD i).length
def pop (x : BitVec 32) : Nat := popTo x 32
theorem popTo_succ (x : BitVec 32) (k : Nat) : popTo x (k + 1) = popTo x k + (if x.getLsbD k then 1 else 0) := by
  simp only [popTo, List.range_succ, List.filter_append, List.length_append]
  by_cases h : x.getLsbD k <;> simp [h]
theorem listTo_pop (c : CS) (k : Nat) (hk : k ≤ 32) : (listTo c k).length = popTo c.1 k + popTo c.2 k := by
  induction k with
  | zero => rfl
  | succ k ih =>
    rw [listTo_succ, List.length_append, List.length_append, ih (by omega), popTo_succ, popTo_succ]
    have e1 : (item c k 1).length = if c.1.getLsbD k then 1 else 0 := by
      have := has_up c k (by omega) (by omega)
      simp only [Int.toNat_natCast] at this
      unfold item; rw [this]; split <;> rfl
    have e2 : (item c k 2).length = if c.2.getLsbD k then 1 else 0 := by
      have := has_down c k (by omega) (by omega)
      simp only [Int.toNat_natCast] at this
      unfold item; rw [this]; split <;> rfl
    rw [e1, e2]; omega
theorem listC_pop (c : CS) : (listC c).length = pop c.1 + pop c.2 := listTo_pop c 32 (by omega)
theorem pop_le (x : BitVec 32) : pop x ≤ 32 := by
  have := List.length_filter_le (fun i => x.getLsbD i) (List.range 32)
  simpa [pop, popTo] using this
def bytePop (n : Nat) : Nat := ((List.range 8).filter fun i => n.testBit i).length
theorem pop8_byte : ∀ n : Fin 256, Lib.pop8 (n.val : Int) = (bytePop n.val : Int) := by decide +kernel
theorem pop8_mod (n : Nat) : Lib.pop8 ((n % 256 : Nat) : Int) = (bytePop (n % 256) : Int) := pop8_byte ⟨n % 256, Nat.mod_lt _ (by omega)⟩
theorem byte_bits (n j : Nat) : bytePop (n / 2 ^ j % 256) = ((List.range 8).filter fun i => n.testBit (i + j)).length := by
  unfold bytePop
  congr 1
  apply List.filter_congr
  intro i hi
  have hi8 : i < 8 := List.mem_range.1 hi
  rw [show (256 : Nat) = 2 ^ 8 from rfl, Nat.testBit_mod_two_pow, Nat.testBit_div_two_pow]
  simp [hi8]
theorem range32 : List.range 32 = List.range 8 ++ ((List.range 8).map (· + 8) ++ ((List.range 8).map (· + 16) ++ (List.range 8).map (· + 24))) := by decide
theorem len_filter_map (l : List Nat) (f : Nat → Nat) (p : Nat → Bool) : ((l.map f).filter p).length = (l.filter fun i => p (f i)).length := by
  rw [List.filter_map, List.length_map]; rfl
theorem pop_bytes (x : BitVec 32) : pop x = bytePop (x.toNat % 256) + bytePop (x.toNat / 256 % 256) + bytePop (x.toNat / 65536 % 256) + bytePop (x.toNat / 16777216 % 256) := by
  have h0 := byte_bits x.toNat 0
  have h1 := byte_bits x.toNat 8
  have h2 := byte_bits x.toNat 16
  have h3 := byte_bits x.toNat 24
  simp only [Nat.pow_zero, Nat.div_one, Nat.add_zero] at h0
  have e : ∀ k, x.getLsbD k = x.toNat.testBit k := fun k => rfl
  unfold pop popTo
  rw [range32, List.filter_append, List.filter_append, List.filter_append, List.length_append, List.length_append, List.length_append, len_filter_map, len_filter_map, len_filter_map]
  simp only [e]
  rw [h0, show (256 : Nat) = 2 ^ 8 from rfl, show (65536 : Nat) = 2 ^ 16 from rfl, show (16777216 : Nat) = 2 ^ 24 from rfl, show (2 : Nat) ^ 8 = 256 from rfl] at *
  omega
theorem bytePop_le (n : Nat) : bytePop n ≤ 8 := by
  have := List.length_filter_le (fun i => n.testBit i) (List.range 8)
  simpa [bytePop] using this
theorem and255 (n : Nat) (h : n < 4294967296) : bits BinOp.and IntKind.u32 (n : Int) 255 = ((n % 256 : Nat) : Int) := by
  have := u32_and_nat n 255 h (by omega)
  rw [show ((255 : Nat) : Int) = 255 from rfl] at this
  rw [this, show (255 : Nat) = 2 ^ 8 - 1 from rfl, Nat.and_two_pow_sub_one_eq_mod]


/-- The places p of the first k. -/
def rng (p : Nat → Bool) : Nat → BitVec 32
  | 0 => 0#32
  | k + 1 => if p k then rng p k ||| 1#32 <<< k else rng p k
theorem one_shift (k i : Nat) (hk : k < 32) : (1#32 <<< k).getLsbD i = decide (i = k) := by
  rw [BitVec.getLsbD_shiftLeft]
  by_cases e : i = k
  · subst e; simp [hk]
  · by_cases h1 : i < k
    · simp [h1, e]
    · have : ∀ k, 0 < k → (1#32).getLsbD k = false := fun k hk => by
        rw [BitVec.getLsbD_ofNat]
        match k, hk with
        | k + 1, _ => simp [Nat.testBit_succ]
      simp [this (i - k) (by omega), e]
theorem rng_bit (p : Nat → Bool) (k i : Nat) (hk : k ≤ 32) : (rng p k).getLsbD i = (decide (i < k) && p i) := by
  induction k with
  | zero => simp [rng]
  | succ k ih =>
    have ih := ih (by omega)
    unfold rng
    split
    · rw [BitVec.getLsbD_or, ih, one_shift k i (by omega)]
      by_cases e : i = k
      · subst e; simp_all
      · by_cases h : i < k <;> simp [h, e] <;> omega
    · rw [ih]
      by_cases e : i = k
      · subst e; simp_all
      · by_cases h : i < k <;> simp [h] <;> omega
def mask (n : Nat) : BitVec 32 := BitVec.allOnes 32 <<< n
def up (f : Int) : BitVec 32 := rng (fun i => decide (f < (i : Int))) 32
def down (f : Int) : BitVec 32 := rng (fun i => decide ((i : Int) < f)) 32
def above (c : CS) (f : Int) : CS := both c (up f, up f)
def belowC (c : CS) (f : Int) : CS := both c (down f, down f)
theorem mask_int : ∀ n, n < 33 → (4294967295 * 2 ^ n % 4294967296 : Int) = (((mask n).toNat : Nat) : Int) := by decide +kernel
theorem nmask_int : ∀ n, n < 33 → bits BinOp.xor IntKind.u32 IntKind.u32.max (4294967295 * 2 ^ n % 4294967296 : Int) = (((~~~(mask n)).toNat : Nat) : Int) := by decide +kernel
theorem mask_bit (n i : Nat) : (mask n).getLsbD i = (decide (i < 32) && decide (n ≤ i)) := by
  unfold mask
  rw [BitVec.getLsbD_shiftLeft, BitVec.getLsbD_allOnes]
  by_cases h : i < 32 <;> by_cases h2 : n ≤ i <;> simp [h, h2] <;> omega
theorem up_mask (f : Int) (n : Nat) (h : ∀ i : Nat, i < 32 → (f < (i : Int) ↔ n ≤ i)) : up f = mask n := by
  apply BitVec.eq_of_getLsbD_eq
  intro i hi
  rw [up, rng_bit _ _ _ (by omega), mask_bit]
  have := h i hi
  by_cases h2 : n ≤ i
  · simp [hi, h2, this.2 h2]
  · have : ¬ f < (i : Int) := fun h3 => h2 (this.1 h3)
    simp [hi, h2, this]
theorem down_mask (f : Int) (n : Nat) (h : ∀ i : Nat, i < 32 → ((i : Int) < f ↔ i < n)) : down f = ~~~(mask n) := by
  apply BitVec.eq_of_getLsbD_eq
  intro i hi
  rw [down, rng_bit _ _ _ (by omega), BitVec.getLsbD_not, mask_bit]
  have := h i hi
  by_cases h2 : i < n
  · simp [hi, this.2 h2]; omega
  · have : ¬ (i : Int) < f := fun h3 => h2 (this.1 h3)
    simp [hi, this]; omega
end Go.Proofs.Ytgoojlfpngmdlaa
