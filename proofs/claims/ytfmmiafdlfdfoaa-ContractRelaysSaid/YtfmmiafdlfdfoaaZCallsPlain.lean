/- The walks over the counts and the halves of a set of calls. Conditions: a floor is a 64 bit number. · Plain laws of sets of calls: the calls of a set make it up; counts add up; what is above, below and at a floor. No program in sight. -/
import Derived.Test.YtfmmiafdlfdfoaaZCallsEach
import Derived.BigQuiet
import Derived.Lib.BitFns
import Derived.Lib.Walk
import Derived.Lib.Small
namespace Go.Proofs.Ytfmmiafdlfdfoaa
open Go.RowKit
attribute [local go_sem ↓] run_eql_cs run_neq_cs

/-! a block of two cells -/
def Two (W : World) (b : Nat) (x y : Value) : Prop := ∃ t, W.heap[b]? = some (.cells #[x, y] t (0, 0))
theorem Two.new (W : World) (x y : Value) (t : TypeId) : Two (W.alloc (.cells #[x, y] t)) W.heap.size x y := ⟨t, World.alloc_heap_new W _⟩
theorem Two.lt {W : World} {b : Nat} {x y : Value} (h : Two W b x y) : b < W.heap.size := by obtain ⟨t, h⟩ := h; exact (Array.getElem?_eq_some_iff.1 h).1
theorem Two.later {W W' : World} {b B : Nat} {x y : Value} (h : Two W b x y) (hb : Below B W W') (hB : b < B) : Two W' b x y := by obtain ⟨t, h⟩ := h; exact ⟨t, (hb.block b hB).trans h⟩
theorem Two.next {W W' : World} {b : Nat} {x y : Value} (h : Two W b x y) (hb : Below W.heap.size W W') : Two W' b x y := h.later hb h.lt
theorem Two.cell0 {W : World} {b : Nat} {x y : Value} (h : Two W b x y) : W.cell? ⟨b, 0, none⟩ = some x := by obtain ⟨t, h⟩ := h; simp [World.cell?, h]
theorem Two.cell1 {W : World} {b : Nat} {x y : Value} (h : Two W b x y) : W.cell? ⟨b, 1, none⟩ = some y := by obtain ⟨t, h⟩ := h; simp [World.cell?, h]
theorem Two.fr0 {W : World} {b : Nat} {x y : Value} (h : Two W b x y) : W.frozen? ⟨b, 0, none⟩ = false := by obtain ⟨t, h⟩ := h; simp [World.frozen?, h]
theorem Two.fr1 {W : World} {b : Nat} {x y : Value} (h : Two W b x y) : W.frozen? ⟨b, 1, none⟩ = false := by obtain ⟨t, h⟩ := h; simp [World.frozen?, h]
theorem Two.set0 {W : World} {b : Nat} {x y : Value} (h : Two W b x y) (u : Value) : Two (W.setCell ⟨b, 0, none⟩ u) b u y := by
  obtain ⟨t, h⟩ := h
  obtain ⟨hlt, hk⟩ := Array.getElem?_eq_some_iff.1 h
  refine ⟨t, ?_⟩
  show (W.heap.modify b _)[b]? = _
  rw [Array.getElem?_eq_getElem (by rw [Array.size_modify]; exact hlt), Array.getElem_modify_self, hk]
  rfl
theorem Two.set1 {W : World} {b : Nat} {x y : Value} (h : Two W b x y) (u : Value) : Two (W.setCell ⟨b, 1, none⟩ u) b x u := by
  obtain ⟨t, h⟩ := h
  obtain ⟨hlt, hk⟩ := Array.getElem?_eq_some_iff.1 h
  refine ⟨t, ?_⟩
  show (W.heap.modify b _)[b]? = _
  rw [Array.getElem?_eq_getElem (by rw [Array.size_modify]; exact hlt), Array.getElem_modify_self, hk]
  rfl
theorem Two.set {W : World} {b : Nat} {x y : Value} (h : Two W b x y) (u v : Value) : Two ((W.setCell ⟨b, 0, none⟩ u).setCell ⟨b, 1, none⟩ v) b u v := (h.set0 u).set1 v
theorem below_set2 {W W' : World} {B b : Nat} (h : Below B W W') (hb : B ≤ b) (u v : Value) : Below B W ((W'.setCell ⟨b, 0, none⟩ u).setCell ⟨b, 1, none⟩ v) :=
  (h.setCell (p := ⟨b, 0, none⟩) hb u).setCell (p := ⟨b, 1, none⟩) hb v

/-! the number of ones -/
def popTo (x : BitVec 32) (k : Nat) : Nat := ((List.range k).filter fun i => x.getLsbD i).length
def pop (x : BitVec 32) : Nat := popTo x 32
theorem popTo_succ (x : BitVec 32) (k : Nat) : popTo x (k + 1) = popTo x k + (if x.getLsbD k then 1 else 0) := by
  simp only [popTo, List.range_succ, List.filter_append, List.length_append]
  by_cases h : x.getLsbD k <;> simp [h]
theorem listTo_pop (c : CS) (k : Nat) (hk : k ≤ 32) : (listTo c k).length = popTo c.1 k + popTo c.2 k := by
  induction k with
  | zero => rfl
  | succ k ih =>
    rw [listTo_succ, List.length_append, List.length_append, ih (by omega), popTo_succ, popTo_succ]
    have e1 : (item c k 1).length = if c.1.getLsbD k then 1 else 0 := by
      have := has_up c k (by omega) (by omega)
      simp only [Int.toNat_natCast] at this
      unfold item; rw [this]; split <;> rfl
    have e2 : (item c k 2).length = if c.2.getLsbD k then 1 else 0 := by
      have := has_down c k (by omega) (by omega)
      simp only [Int.toNat_natCast] at this
      unfold item; rw [this]; split <;> rfl
    rw [e1, e2]; omega
theorem listC_pop (c : CS) : (listC c).length = pop c.1 + pop c.2 := listTo_pop c 32 (by omega)
theorem pop_le (x : BitVec 32) : pop x ≤ 32 := by
  have := List.length_filter_le (fun i => x.getLsbD i) (List.range 32)
  simpa [pop, popTo] using this
def bytePop (n : Nat) : Nat := ((List.range 8).filter fun i => n.testBit i).length
theorem pop8_byte : ∀ n : Fin 256, Lib.pop8 (n.val : Int) = (bytePop n.val : Int) := by decide +kernel
theorem pop8_mod (n : Nat) : Lib.pop8 ((n % 256 : Nat) : Int) = (bytePop (n % 256) : Int) := pop8_byte ⟨n % 256, Nat.mod_lt _ (by omega)⟩
theorem byte_bits (n j : Nat) : bytePop (n / 2 ^ j % 256) = ((List.range 8).filter fun i => n.testBit (i + j)).length := by
  unfold bytePop
  congr 1
  apply List.filter_congr
  intro i hi
  have hi8 : i < 8 := List.mem_range.1 hi
  rw [show (256 : Nat) = 2 ^ 8 from rfl, Nat.testBit_mod_two_pow, Nat.testBit_div_two_pow]
  simp [hi8]
theorem range32 : List.range 32 = List.range 8 ++ ((List.range 8).map (· + 8) ++ ((List.range 8).map (· + 16) ++ (List.range 8).map (· + 24))) := by decide
theorem len_filter_map (l : List Nat) (f : Nat → Nat) (p : Nat → Bool) : ((l.map f).filter p).length = (l.filter fun i => p (f i)).length := by
  rw [List.filter_map, List.length_map]; rfl
theorem pop_bytes (x : BitVec 32) : pop x = bytePop (x.toNat % 256) + bytePop (x.toNat / 256 % 256) + bytePop (x.toNat / 65536 % 256) + bytePop (x.toNat / 16777216 % 256) := by
  have h0 := byte_bits x.toNat 0
  have h1 := byte_bits x.toNat 8
  have h2 := byte_bits x.toNat 16
  have h3 := byte_bits x.toNat 24
  simp only [Nat.pow_zero, Nat.div_one, Nat.add_zero] at h0
  have e : ∀ k, x.getLsbD k = x.toNat.testBit k := fun k => rfl
  unfold pop popTo
  rw [range32, List.filter_append, List.filter_append, List.filter_append, List.length_append, List.length_append, List.length_append, len_filter_map, len_filter_map, len_filter_map]
  simp only [e]
  rw [h0, show (256 : Nat) = 2 ^ 8 from rfl, show (65536 : Nat) = 2 ^ 16 from rfl, show (16777216 : Nat) = 2 ^ 24 from rfl, show (2 : Nat) ^ 8 = 256 from rfl] at *
  omega
theorem bytePop_le (n : Nat) : bytePop n ≤ 8 := by
  have := List.length_filter_le (fun i => n.testBit i) (List.range 8)
  simpa [bytePop] using this
theorem and255 (n : Nat) (h : n < 4294967296) : bits BinOp.and IntKind.u32 (n : Int) 255 = ((n % 256 : Nat) : Int) := by
  have := u32_and_nat n 255 h (by omega)
  rw [show ((255 : Nat) : Int) = 255 from rfl] at this
  rw [this, show (255 : Nat) = 2 ^ 8 - 1 from rfl, Nat.and_two_pow_sub_one_eq_mod]


/-- The places p of the first k. -/
def rng (p : Nat → Bool) : Nat → BitVec 32
  | 0 => 0#32
  | k + 1 => if p k then rng p k ||| 1#32 <<< k else rng p k
theorem one_shift (k i : Nat) (hk : k < 32) : (1#32 <<< k).getLsbD i = decide (i = k) := by
  rw [BitVec.getLsbD_shiftLeft]
  by_cases e : i = k
  · subst e; simp [hk]
  · by_cases h1 : i < k
    · simp [h1, e]
    · have : ∀ k, 0 < k → (1#32).getLsbD k = false := fun k hk => by
        rw [BitVec.getLsbD_ofNat]
        match k, hk with
        | k + 1, _ => simp [Nat.testBit_succ]
      simp [this (i - k) (by omega), e]
theorem rng_bit (p : Nat → Bool) (k i : Nat) (hk : k ≤ 32) : (rng p k).getLsbD i = (decide (i < k) && p i) := by
  induction k with
  | zero => simp [rng]
  | succ k ih =>
    have ih := ih (by omega)
    unfold rng
    split
    · rw [BitVec.getLsbD_or, ih, one_shift k i (by omega)]
      by_cases e : i = k
      · subst e; simp_all
      · by_cases h : i < k <;> simp [h, e] <;> omega
    · rw [ih]
      by_cases e : i = k
      · subst e; simp_all
      · by_cases h : i < k <;> simp [h] <;> omega
def mask (n : Nat) : BitVec 32 := BitVec.allOnes 32 <<< n
def up (f : Int) : BitVec 32 := rng (fun i => decide (f < (i : Int))) 32
def down (f : Int) : BitVec 32 := rng (fun i => decide ((i : Int) < f)) 32
def above (c : CS) (f : Int) : CS := both c (up f, up f)
def belowC (c : CS) (f : Int) : CS := both c (down f, down f)
theorem mask_int : ∀ n, n < 33 → (4294967295 * 2 ^ n % 4294967296 : Int) = (((mask n).toNat : Nat) : Int) := by decide +kernel
theorem nmask_int : ∀ n, n < 33 → bits BinOp.xor IntKind.u32 IntKind.u32.max (4294967295 * 2 ^ n % 4294967296 : Int) = (((~~~(mask n)).toNat : Nat) : Int) := by decide +kernel
theorem mask_bit (n i : Nat) : (mask n).getLsbD i = (decide (i < 32) && decide (n ≤ i)) := by
  unfold mask
  rw [BitVec.getLsbD_shiftLeft, BitVec.getLsbD_allOnes]
  by_cases h : i < 32 <;> by_cases h2 : n ≤ i <;> simp [h, h2] <;> omega
theorem up_mask (f : Int) (n : Nat) (h : ∀ i : Nat, i < 32 → (f < (i : Int) ↔ n ≤ i)) : up f = mask n := by
  apply BitVec.eq_of_getLsbD_eq
  intro i hi
  rw [up, rng_bit _ _ _ (by omega), mask_bit]
  have := h i hi
  by_cases h2 : n ≤ i
  · simp [hi, h2, this.2 h2]
  · have : ¬ f < (i : Int) := fun h3 => h2 (this.1 h3)
    simp [hi, h2, this]
theorem down_mask (f : Int) (n : Nat) (h : ∀ i : Nat, i < 32 → ((i : Int) < f ↔ i < n)) : down f = ~~~(mask n) := by
  apply BitVec.eq_of_getLsbD_eq
  intro i hi
  rw [down, rng_bit _ _ _ (by omega), BitVec.getLsbD_not, mask_bit]
  have := h i hi
  by_cases h2 : i < n
  · simp [hi, this.2 h2]; omega
  · have : ¬ (i : Int) < f := fun h3 => h2 (this.1 h3)
    simp [hi, this]; omega
end Go.Proofs.Ytfmmiafdlfdfoaa
namespace Go.Proofs.Ytfmmiafdlfdfoaa

def ofL (l : List (Int × Int)) : CS := l.foldl (fun c p => union c (one p.1 p.2)) (0#32, 0#32)
theorem ofL_snoc (l : List (Int × Int)) (p : Int × Int) : ofL (l ++ [p]) = union (ofL l) (one p.1 p.2) := by simp [ofL]
/-- A call of a building. -/
def Real (p : Int × Int) : Prop := 0 ≤ p.1 ∧ p.1 < 32 ∧ (p.2 = 1 ∨ p.2 = 2)

theorem bit_at (f : Int) (h0 : 0 ≤ f) (h1 : f < 32) (i : Nat) : (bit f).getLsbD i = decide ((i : Int) = f) := by
  obtain ⟨n, rfl⟩ := Int.eq_ofNat_of_zero_le h0
  unfold bit
  rw [Int.toNat_natCast, one_shift n i (by omega)]
  congr 1
  exact propext ⟨fun h => by omega, fun h => by omega⟩
theorem fold_bits (l : List (Int × Int)) (i : Nat) : ∀ c : CS, (∀ p ∈ l, Real p) → (l.foldl (fun c p => union c (one p.1 p.2)) c).1.getLsbD i = (c.1.getLsbD i || decide (((i : Int), (1 : Int)) ∈ l)) ∧ (l.foldl (fun c p => union c (one p.1 p.2)) c).2.getLsbD i = (c.2.getLsbD i || decide (((i : Int), (2 : Int)) ∈ l)) := by
  induction l with
  | nil => simp
  | cons p l ih =>
    intro c hl
    obtain ⟨i1, i2⟩ := ih (union c (one p.1 p.2)) (fun q hq => hl q (by simp [hq]))
    obtain ⟨r0, r1, r2⟩ := hl p (by simp)
    obtain ⟨f, d⟩ := p
    simp only at r0 r1 r2
    rw [List.foldl_cons, i1, i2]
    rcases r2 with rfl | rfl
    · rw [one_up f r0 r1]
      simp only [union, BitVec.getLsbD_or, bit_at f r0 r1, List.mem_cons, Prod.mk.injEq]
      constructor <;> simp [Bool.or_assoc]
    · rw [one_down f r0 r1]
      simp only [union, BitVec.getLsbD_or, bit_at f r0 r1, List.mem_cons, Prod.mk.injEq]
      constructor <;> simp [Bool.or_assoc]
theorem ofL_bits (l : List (Int × Int)) (hl : ∀ p ∈ l, Real p) (i : Nat) : (ofL l).1.getLsbD i = decide (((i : Int), (1 : Int)) ∈ l) ∧ (ofL l).2.getLsbD i = decide (((i : Int), (2 : Int)) ∈ l) := by
  have := fold_bits l i (0#32, 0#32) hl
  simpa [ofL] using this
theorem mem_item (c : CS) (f d : Int) (p : Int × Int) : p ∈ item c f d ↔ p = (f, d) ∧ has c f d = true := by
  unfold item; split <;> simp_all
theorem mem_listTo (c : CS) (k : Nat) (p : Int × Int) : p ∈ listTo c k ↔ ∃ i : Nat, i < k ∧ (p = ((i : Int), 1) ∧ has c i 1 = true ∨ p = ((i : Int), 2) ∧ has c i 2 = true) := by
  simp only [listTo, List.mem_flatMap, List.mem_range, rowOf, List.mem_append, mem_item]
theorem listC_real (c : CS) : ∀ p ∈ listC c, Real p := by
  intro p hp
  obtain ⟨i, hi, h | h⟩ := (mem_listTo c 32 p).1 hp
  · rw [h.1]; exact ⟨by simp, by simp only; omega, .inl rfl⟩
  · rw [h.1]; exact ⟨by simp, by simp only; omega, .inr rfl⟩
theorem listC_has (c : CS) (p : Int × Int) (hp : p ∈ listC c) : has c p.1 p.2 = true := by
  obtain ⟨i, hi, h | h⟩ := (mem_listTo c 32 p).1 hp
  · rw [h.1]; exact h.2
  · rw [h.1]; exact h.2
theorem mem_listC (c : CS) (p : Int × Int) (h : Real p) (hh : has c p.1 p.2 = true) : p ∈ listC c := by
  obtain ⟨f, d⟩ := p
  obtain ⟨r0, r1, r2⟩ := h
  simp only at r0 r1 r2 hh
  obtain ⟨n, rfl⟩ := Int.eq_ofNat_of_zero_le r0
  refine (mem_listTo c 32 _).2 ⟨n, by omega, ?_⟩
  rcases r2 with rfl | rfl
  · exact .inl ⟨rfl, hh⟩
  · exact .inr ⟨rfl, hh⟩
/-- A set is the union of its calls. -/
theorem ofL_listC (c : CS) : ofL (listC c) = c := by
  have hb := ofL_bits (listC c) (listC_real c)
  have e1 : ∀ i, i < 32 → (ofL (listC c)).1.getLsbD i = c.1.getLsbD i := fun i hi => by
    rw [(hb i).1]
    have hu := has_up c i (by omega) (by omega)
    rw [Int.toNat_natCast] at hu
    cases hc : c.1.getLsbD i
    · rw [decide_eq_false]; intro hm; have := listC_has c _ hm; simp only at this; rw [hu, hc] at this; cases this
    · rw [decide_eq_true]; exact mem_listC c _ ⟨by simp, by simp only; omega, .inl rfl⟩ (by simp only; rw [hu, hc])
  have e2 : ∀ i, i < 32 → (ofL (listC c)).2.getLsbD i = c.2.getLsbD i := fun i hi => by
    rw [(hb i).2]
    have hu := has_down c i (by omega) (by omega)
    rw [Int.toNat_natCast] at hu
    cases hc : c.2.getLsbD i
    · rw [decide_eq_false]; intro hm; have := listC_has c _ hm; simp only at this; rw [hu, hc] at this; cases this
    · rw [decide_eq_true]; exact mem_listC c _ ⟨by simp, by simp only; omega, .inr rfl⟩ (by simp only; rw [hu, hc])
  exact Prod.ext (BitVec.eq_of_getLsbD_eq e1) (BitVec.eq_of_getLsbD_eq e2)
theorem listTo_nodup (c : CS) (k : Nat) : (listTo c k).Nodup := by
  induction k with
  | zero => simp [listTo]
  | succ k ih =>
    rw [listTo_succ, List.append_assoc]
    have hk : ∀ p ∈ listTo c k, p.1 < (k : Int) := fun p hp => by
      obtain ⟨i, hi, h | h⟩ := (mem_listTo c k p).1 hp <;> rw [h.1] <;> simp only <;> omega
    refine List.nodup_append.2 ⟨ih, List.nodup_append.2 ⟨?_, ?_, ?_⟩, ?_⟩
    · unfold item; split <;> simp
    · unfold item; split <;> simp
    · intro a ha b hb e
      have h1 := ((mem_item _ _ _ _).1 ha).1; have h2 := ((mem_item _ _ _ _).1 hb).1
      rw [h1, h2] at e; simp at e
    · intro a ha b hb e
      subst e
      have h1 := hk a ha
      rcases List.mem_append.1 hb with h | h
      · rw [((mem_item _ _ _ _).1 h).1] at h1; simp at h1
      · rw [((mem_item _ _ _ _).1 h).1] at h1; simp at h1
/-- No call comes twice. -/
theorem listC_fresh (c : CS) (i : Nat) (p : Int × Int) (hp : (listC c)[i]? = some p) : both (ofL ((listC c).take i)) (one p.1 p.2) = (0#32, 0#32) := by
  have hi : i < (listC c).length := (List.getElem?_eq_some_iff.1 hp).1
  have hnot : p ∉ (listC c).take i := by
    intro hm
    have hn := listTo_nodup c 32
    have hs : listC c = (listC c).take i ++ (listC c).drop i := (List.take_append_drop i _).symm
    have hd : p ∈ (listC c).drop i := by
      rw [List.drop_eq_getElem_cons hi]
      have := (List.getElem?_eq_some_iff.1 hp).2
      rw [this]; exact List.mem_cons_self ..
    change (listC c).Nodup at hn
    rw [hs] at hn
    exact (List.nodup_append.1 hn).2.2 p hm p hd rfl
  have hreal := listC_real c p (List.mem_of_getElem? hp)
  have hb := ofL_bits ((listC c).take i) (fun q hq => listC_real c q (List.mem_of_mem_take hq))
  have hh : has (ofL ((listC c).take i)) p.1 p.2 = false := by
    obtain ⟨f, d⟩ := p
    obtain ⟨r0, r1, r2⟩ := hreal
    simp only at r0 r1 r2 hnot ⊢
    obtain ⟨n, rfl⟩ := Int.eq_ofNat_of_zero_le r0
    rcases r2 with rfl | rfl
    · rw [has_up _ _ r0 r1, Int.toNat_natCast, (hb n).1]; simpa using hnot
    · rw [has_down _ _ r0 r1, Int.toNat_natCast, (hb n).2]; simpa using hnot
  unfold has at hh
  simpa using hh
theorem take_snoc (l : List (Int × Int)) (i : Nat) (p : Int × Int) (h : l[i]? = some p) : l.take (i + 1) = l.take i ++ [p] := by
  have hi : i < l.length := (List.getElem?_eq_some_iff.1 h).1
  rw [List.take_add_one, h]; rfl

theorem popTo_two (x y : BitVec 32) (k : Nat) : popTo (x ||| y) k + popTo (x &&& y) k = popTo x k + popTo y k := by
  induction k with
  | zero => rfl
  | succ k ih =>
    simp only [popTo_succ, BitVec.getLsbD_or, BitVec.getLsbD_and]
    cases x.getLsbD k <;> cases y.getLsbD k <;> simp <;> omega
theorem count_two (a b : CS) : (listC (union a b)).length + (listC (both a b)).length = (listC a).length + (listC b).length := by
  simp only [listC_pop, union, both]
  have h1 := popTo_two a.1 b.1 32; have h2 := popTo_two a.2 b.2 32
  unfold pop; omega
theorem pop_zero : pop 0#32 = 0 := by decide
theorem minus_both (a b : CS) : union (minus a b) (both a b) = a := by
  refine Prod.ext ?_ ?_ <;> (simp only [union, minus, both]; apply BitVec.eq_of_getLsbD_eq; intro i hi; simp only [BitVec.getLsbD_or, BitVec.getLsbD_and, BitVec.getLsbD_not, hi, decide_true, Bool.true_and]; cases a.1.getLsbD i <;> cases a.2.getLsbD i <;> cases b.1.getLsbD i <;> cases b.2.getLsbD i <;> rfl)
def atC (a : CS) (f : Int) : CS := both a (union (one f 1) (one f 2))
theorem atC_bits (a : CS) (f : Int) (h0 : 0 ≤ f) (h1 : f < 32) : atC a f = both a (bit f, bit f) := by
  unfold atC; rw [one_up f h0 h1, one_down f h0 h1]; simp [union]
theorem three_bits (x : BitVec 32) (f : Int) (h0 : 0 ≤ f) (h1 : f < 32) : (x &&& up f) ||| (x &&& down f) ||| (x &&& bit f) = x ∧ (x &&& up f) &&& (x &&& down f) = 0#32 ∧ ((x &&& up f) ||| (x &&& down f)) &&& (x &&& bit f) = 0#32 := by
  have hu : ∀ i, i < 32 → (up f).getLsbD i = decide (f < (i : Int)) := fun i hi => by rw [up, rng_bit _ _ _ (by omega)]; simp [hi]
  have hd : ∀ i, i < 32 → (down f).getLsbD i = decide ((i : Int) < f) := fun i hi => by rw [down, rng_bit _ _ _ (by omega)]; simp [hi]
  refine ⟨?_, ?_, ?_⟩
  all_goals
    apply BitVec.eq_of_getLsbD_eq
    intro i hi
    simp only [BitVec.getLsbD_or, BitVec.getLsbD_and, hu i hi, hd i hi, bit_at f h0 h1, BitVec.getLsbD_zero]
    rcases Int.lt_trichotomy (i : Int) f with h | h | h
    · have e1 : ¬ f < (i : Int) := by omega
      have e2 : ¬ (i : Int) = f := by omega
      simp [h, e1, e2]
    · simp [h]
    · have e1 : ¬ (i : Int) < f := by omega
      have e2 : ¬ (i : Int) = f := by omega
      simp [h, e1, e2]
theorem three_parts (a : CS) (f : Int) (h0 : 0 ≤ f) (h1 : f < 32) : union (union (above a f) (belowC a f)) (atC a f) = a := by
  rw [atC_bits a f h0 h1]
  exact Prod.ext (three_bits a.1 f h0 h1).1 (three_bits a.2 f h0 h1).1
theorem three_counts (a : CS) (f : Int) (h0 : 0 ≤ f) (h1 : f < 32) : (listC (above a f)).length + (listC (belowC a f)).length + (listC (atC a f)).length = (listC a).length := by
  have e1 := count_two (above a f) (belowC a f)
  have e2 := count_two (union (above a f) (belowC a f)) (atC a f)
  have z1 : both (above a f) (belowC a f) = (0#32, 0#32) := Prod.ext (three_bits a.1 f h0 h1).2.1 (three_bits a.2 f h0 h1).2.1
  have z2 : both (union (above a f) (belowC a f)) (atC a f) = (0#32, 0#32) := by
    rw [atC_bits a f h0 h1]; exact Prod.ext (three_bits a.1 f h0 h1).2.2 (three_bits a.2 f h0 h1).2.2
  rw [z1] at e1
  rw [z2, three_parts a f h0 h1] at e2
  have z : (listC (0#32, 0#32)).length = 0 := by rw [listC_pop]; rfl
  rw [z] at e1 e2
  omega
theorem count_le (c : CS) : (listC c).length ≤ 64 := by
  rw [listC_pop]; have := pop_le c.1; have := pop_le c.2; omega
end Go.Proofs.Ytfmmiafdlfdfoaa
