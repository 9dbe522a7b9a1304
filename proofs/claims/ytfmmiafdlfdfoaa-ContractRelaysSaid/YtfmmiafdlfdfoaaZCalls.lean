/- The walks over package calls and its reference: sets of calls as pairs of bit vectors. Conditions: none but the ranges that each contract names. -/
import Derived.Test.YtfmmiafdlfdfoaaRows
import Derived.Test.YtfmmiafdlfdfoaaZGrow
import Derived.WalkKit
import Derived.WalkSpells
import Derived.WalkLawsBesides
import Derived.Lib.Hide
namespace Go.Proofs.Ytfmmiafdlfdfoaa
open Go.RowKit

/-- A set of calls: up, down. -/
abbrev CS : Type := BitVec 32 × BitVec 32
abbrev cv (c : CS) : Value := .agg #[.int .u32 (c.1.toNat : Int), .int .u32 (c.2.toNat : Int)]
def union (a b : CS) : CS := (a.1 ||| b.1, a.2 ||| b.2)
def both (a b : CS) : CS := (a.1 &&& b.1, a.2 &&& b.2)
def minus (a b : CS) : CS := (a.1 &&& ~~~b.1, a.2 &&& ~~~b.2)
def bit (f : Int) : BitVec 32 := 1#32 <<< f.toNat
def one (f d : Int) : CS := if 0 ≤ f ∧ f < 32 then (if d = 1 then (bit f, 0#32) else if d = 2 then (0#32, bit f) else (0#32, 0#32)) else (0#32, 0#32)
def has (c : CS) (f d : Int) : Bool := both c (one f d) != (0#32, 0#32)

theorem and32 (x y : BitVec 32) : bits .and .u32 (x.toNat : Int) (y.toNat : Int) = ((x &&& y).toNat : Int) := by
  rw [u32_and_nat _ _ x.isLt y.isLt, BitVec.toNat_and]
theorem or32 (x y : BitVec 32) : bits .or .u32 (x.toNat : Int) (y.toNat : Int) = ((x ||| y).toNat : Int) := by
  rw [u32_or_nat _ _ x.isLt y.isLt, BitVec.toNat_or]
theorem andNot32 (x y : BitVec 32) : bits .andNot .u32 (x.toNat : Int) (y.toNat : Int) = ((x &&& ~~~y).toNat : Int) := by
  have e : ∀ z : BitVec 32, BitVec.ofInt 32 (z.toNat : Int) = z := fun z => by
    apply BitVec.eq_of_toNat_eq; rw [BitVec.ofInt_natCast, BitVec.toNat_ofNat, Nat.mod_eq_of_lt z.isLt]
  show IntKind.u32.wrap ((BitVec.ofInt 32 (x.toNat : Int) &&& ~~~BitVec.ofInt 32 (y.toNat : Int)).toNat : Int) = _
  rw [e, e, IntKind.wrap_u32]
  have := (x &&& ~~~y).isLt
  omega

theorem cell2_0 (w : World) (x y : Value) (t : TypeId) : (w.alloc (.cells #[x, y] t)).cell? ⟨w.heap.size, 0, none⟩ = some x := by simp [World.cell?, World.alloc, -World.alloc_eq]
theorem cell2_1 (w : World) (x y : Value) (t : TypeId) : (w.alloc (.cells #[x, y] t)).cell? ⟨w.heap.size, 1, none⟩ = some y := by simp [World.cell?, World.alloc, -World.alloc_eq]
theorem run_eql_cs (x y u v : Int) (w : World) : (binOp .eql 45 (.agg #[.int .u32 x, .int .u32 y]) (.agg #[.int .u32 u, .int .u32 v])).run Try.prog w = .ok (.bool (x == u && y == v)) w := by
  rw [run_eql_struct, run_equalIn_agg w 9999 45 _ _ (by kernel_rfl) (by kernel_rfl)]
  cases h1 : x == u <;> cases h2 : y == v <;> simp [go_sem, h1, h2]
theorem run_neq_cs (x y u v : Int) (w : World) : (binOp .neq 45 (.agg #[.int .u32 x, .int .u32 y]) (.agg #[.int .u32 u, .int .u32 v])).run Try.prog w = .ok (.bool (!(x == u) || !(y == v))) w := by
  rw [run_neq_struct, run_equalIn_agg w 9999 45 _ _ (by kernel_rfl) (by kernel_rfl)]
  cases h1 : x == u <;> cases h2 : y == v <;> simp [go_sem, h1, h2]
attribute [local go_sem ↓] run_eql_cs run_neq_cs
/-- Three blocks more. -/
theorem below3 (w : World) (x y z : Obj) : Below w.heap.size w (((w.alloc x).alloc y).alloc z) :=
  (((Below.refl _ _).alloc (Nat.le_refl _) _).alloc (by simp) _).alloc (by simp; omega) _
theorem below2 (w : World) (x y : Obj) : Below w.heap.size w ((w.alloc x).alloc y) := ((Below.refl _ _).alloc (Nat.le_refl _) _).alloc (by simp) _
theorem below1 (w : World) (x : Obj) : Below w.heap.size w (w.alloc x) := (Below.refl _ _).alloc (Nat.le_refl _) _

set_option maxHeartbeats 400000 in
theorem both_any (a b : CS) (w : World) :
    Calls Try.prog 58 #[cv a, cv b] w fun e w' => e = .returned (cv (both a b)) ∧ Below w.heap.size w w' := by
  go_enter Try.func58, Try.ntmps58
  go_wp2
  simp only [and32]
  exact bodyPost_ret (v := cv (both a b)) (by simp [results, Try.results58, go_sem, both]) rfl ⟨rfl, below3 _ _ _ _⟩



set_option maxHeartbeats 400000 in
theorem refBoth_any (a b : CS) (w : World) :
    Calls Try.prog 30 #[cv a, cv b] w fun e w' => e = .returned (cv (both a b)) ∧ Below w.heap.size w w' := by
  go_enter Try.func30, Try.ntmps30
  go_wp2
  simp only [and32]
  exact bodyPost_ret (v := cv (both a b)) (by simp [results, Try.results30, go_sem, both]) rfl ⟨rfl, below3 _ _ _ _⟩

set_option maxHeartbeats 400000 in
theorem refUnion_any (a b : CS) (w : World) :
    Calls Try.prog 41 #[cv a, cv b] w fun e w' => e = .returned (cv (union a b)) ∧ Below w.heap.size w w' := by
  go_enter Try.func41, Try.ntmps41
  go_wp2
  simp only [or32]
  exact bodyPost_ret (v := cv (union a b)) (by simp [results, Try.results41, go_sem, union]) rfl ⟨rfl, below3 _ _ _ _⟩

set_option maxHeartbeats 400000 in
theorem refMinus_any (a b : CS) (w : World) :
    Calls Try.prog 50 #[cv a, cv b] w fun e w' => e = .returned (cv (minus a b)) ∧ Below w.heap.size w w' := by
  go_enter Try.func50, Try.ntmps50
  go_wp2
  simp only [andNot32]
  exact bodyPost_ret (v := cv (minus a b)) (by simp [results, Try.results50, go_sem, minus]) rfl ⟨rfl, below3 _ _ _ _⟩

theorem pow_bit (f : Int) (h0 : 0 ≤ f) (h1 : f < 32) : (2 : Int) ^ f.toNat % 4294967296 = ((bit f).toNat : Int) := by
  obtain ⟨n, rfl⟩ := Int.eq_ofNat_of_zero_le h0
  have hn : n < 32 := by omega
  have : ∀ n, n < 32 → (2 : Int) ^ n % 4294967296 = (((1#32 <<< n).toNat : Nat) : Int) := by decide
  simpa [bit] using this n hn
theorem one_up (f : Int) (h0 : 0 ≤ f) (h1 : f < 32) : one f 1 = (bit f, 0#32) := by simp [one, h0, h1]
theorem one_down (f : Int) (h0 : 0 ≤ f) (h1 : f < 32) : one f 2 = (0#32, bit f) := by simp [one, h0, h1]
theorem one_dir (f d : Int) (h1 : ¬ d = 1) (h2 : ¬ d = 2) : one f d = (0#32, 0#32) := by simp [one, h1, h2]
theorem one_out (f d : Int) (h : ¬ (0 ≤ f ∧ f < 32)) : one f d = (0#32, 0#32) := by rw [one, if_neg h]

set_option maxHeartbeats 400000 in
theorem one_any (f d : Int) (w : World) :
    Calls Try.prog 76 #[.int .i64 f, .int .i64 d] w fun e w' => e = .returned (cv (one f d)) ∧ Below w.heap.size w w' := by
  by_cases h0 : 0 ≤ f
  · by_cases h1 : f < 32
    · by_cases hd1 : d = 1
      · subst hd1
        go_enter Try.func76, Try.ntmps76
        go_wp2
        simp only [pow_bit f h0 h1]
        exact bodyPost_ret (v := cv (bit f, 0#32)) (by simp [results, Try.results76, go_sem]) rfl ⟨by rw [one_up f h0 h1], below1 _ _⟩
      · by_cases hd2 : d = 2
        · subst hd2
          go_enter Try.func76, Try.ntmps76
          go_wp2
          simp only [pow_bit f h0 h1]
          exact bodyPost_ret (v := cv (0#32, bit f)) (by simp [results, Try.results76, go_sem]) rfl ⟨by rw [one_down f h0 h1], below1 _ _⟩
        · have e1 : (d == 1) = false := by simpa using hd1
          have e2 : (d == 2) = false := by simpa using hd2
          go_enter Try.func76, Try.ntmps76
          go_wp2
          exact bodyPost_ret (v := cv (0#32, 0#32)) (by simp [results, Try.results76, go_sem]) rfl ⟨by rw [one_dir f d hd1 hd2], below1 _ _⟩
    · have hf : ¬ (0 ≤ f ∧ f < 32) := by omega
      go_enter Try.func76, Try.ntmps76
      go_wp2
      exact bodyPost_ret (v := cv (0#32, 0#32)) (by simp [results, Try.results76, go_sem]) rfl ⟨by rw [one_out f d hf], below1 _ _⟩
  · have hf : ¬ (0 ≤ f ∧ f < 32) := by omega
    have h2 : f < 0 := by omega
    go_enter Try.func76, Try.ntmps76
    go_wp2
    exact bodyPost_ret (v := cv (0#32, 0#32)) (by simp [results, Try.results76, go_sem]) rfl ⟨by rw [one_out f d hf], below1 _ _⟩

set_option maxHeartbeats 400000 in
theorem refOne_any (f d : Int) (w : World) :
    Calls Try.prog 29 #[.int .i64 f, .int .i64 d] w fun e w' => e = .returned (cv (one f d)) ∧ Below w.heap.size w w' := by
  by_cases h0 : 0 ≤ f
  · by_cases h1 : f < 32
    · by_cases hd1 : d = 1
      · subst hd1
        go_enter Try.func29, Try.ntmps29
        go_wp2
        simp only [pow_bit f h0 h1]
        exact bodyPost_ret (v := cv (bit f, 0#32)) (by simp [results, Try.results29, go_sem]) rfl ⟨by rw [one_up f h0 h1], below1 _ _⟩
      · by_cases hd2 : d = 2
        · subst hd2
          go_enter Try.func29, Try.ntmps29
          go_wp2
          simp only [pow_bit f h0 h1]
          exact bodyPost_ret (v := cv (0#32, bit f)) (by simp [results, Try.results29, go_sem]) rfl ⟨by rw [one_down f h0 h1], below1 _ _⟩
        · have e1 : (d == 1) = false := by simpa using hd1
          have e2 : (d == 2) = false := by simpa using hd2
          go_enter Try.func29, Try.ntmps29
          go_wp2
          exact bodyPost_ret (v := cv (0#32, 0#32)) (by simp [results, Try.results29, go_sem]) rfl ⟨by rw [one_dir f d hd1 hd2], below1 _ _⟩
    · have hf : ¬ (0 ≤ f ∧ f < 32) := by omega
      go_enter Try.func29, Try.ntmps29
      go_wp2
      exact bodyPost_ret (v := cv (0#32, 0#32)) (by simp [results, Try.results29, go_sem]) rfl ⟨by rw [one_out f d hf], below1 _ _⟩
  · have hf : ¬ (0 ≤ f ∧ f < 32) := by omega
    have h2 : f < 0 := by omega
    go_enter Try.func29, Try.ntmps29
    go_wp2
    exact bodyPost_ret (v := cv (0#32, 0#32)) (by simp [results, Try.results29, go_sem]) rfl ⟨by rw [one_out f d hf], below1 _ _⟩

/-- The test of a set. -/
theorem cv_ne (c : CS) : (!((c.1.toNat : Int) == 0) || !((c.2.toNat : Int) == 0)) = (c != (0#32, 0#32)) := by
  have h : ∀ x : BitVec 32, ((x.toNat : Int) == 0) = (x == 0#32) := fun x => by
    rw [Bool.eq_iff_iff, beq_iff_eq, beq_iff_eq]
    exact ⟨fun h => BitVec.eq_of_toNat_eq (by simpa using h), fun h => by rw [h]; rfl⟩
  rw [h, h]; show _ = !(c.1 == 0#32 && c.2 == 0#32); rw [Bool.not_and]
set_option maxHeartbeats 400000 in
theorem has_any (c : CS) (f d : Int) (w : World) :
    Calls Try.prog 56 #[cv c, .int .i64 f, .int .i64 d] w fun e w' => e = .returned (.bool (has c f d)) ∧ Below w.heap.size w w' := by
  go_enter Try.func56, Try.ntmps56
  go_wp2_with fail
  have q0 : ∀ W, Grow.Cl (w.alloc (.cells #[.int .u32 (c.1.toNat : Int), .int .u32 (c.2.toNat : Int)] 45)).drew W → W.cell? ⟨w.heap.size, 0, none⟩ = some (.int .u32 (c.1.toNat : Int)) := fun W h => cell_later (Grow.Cl.base h) (cell2_0 _ _ _ _)
  have q1 : ∀ W, Grow.Cl (w.alloc (.cells #[.int .u32 (c.1.toNat : Int), .int .u32 (c.2.toNat : Int)] 45)).drew W → W.cell? ⟨w.heap.size, 1, none⟩ = some (.int .u32 (c.2.toNat : Int)) := fun W h => cell_later (Grow.Cl.base h) (cell2_1 _ _ _ _)
  (refine Grow.wp_region Grow.noPlan Grow.noPlan_stable (by kernel_rfl) (by kernel_rfl) ?_; intro opsq Hopsq)
  repeat (first | (refine Grow.lex_move rfl ?_ rfl ?_; (· first | exact Grow.wanted_none | (rw [Hopsq.out]; rfl)); intro K hK; simp only [Grow.put_lit, Grow.setAt, Grow.eval_lit, Grow.ev]; refine hK _ _ ?_; clear hK K) | (refine Grow.lex_assign rfl ?_ rfl ?_; (· first | exact Grow.wanted_none | (rw [Hopsq.out]; rfl)); intro K hK; simp only [Grow.put_lit, Grow.setAt, Grow.eval_lit, Grow.ev]; refine hK _ _ ?_; clear hK K) | (refine Grow.lex_plain rfl rfl ?_ rfl ?_; (· first | exact Grow.wanted_none | (rw [Hopsq.out]; rfl)); apply Exists.intro; refine ⟨fun wq hCq _ => ?_, ?_⟩; (· (go_wp2_with fail; refine ⟨rfl, Below.refl _ _, ?_⟩; simp only [Grow.getD_lit, Grow.nth]; rfl)); intro K hK; simp only [Grow.put_lit, Grow.setAt]; refine hK _ _ ?_; clear hK K) | (refine Grow.lex_nilCheck rfl rfl ?_ rfl ?_; (· first | exact Grow.wanted_none | (rw [Hopsq.out]; rfl)); intro K hK; simp only [Grow.put_lit, Grow.setAt]; refine hK _ _ ?_; clear hK K) | (refine Grow.lex_skip ?_ ?_; (· (rw [Hopsq.out]; rfl)); intro K hK; simp only [Grow.put_lit, Grow.setAt]; refine hK _ _ ?_; clear hK K))
  (refine Grow.lex_call ?_ rfl ?_; (· first | exact Grow.wanted_none | (rw [Hopsq.out]; rfl)); apply Exists.intro; apply Exists.intro; refine ⟨fun wq => ?_, ?_⟩; (· (go_simp; exact ⟨rfl, rfl⟩)); apply Exists.intro; refine ⟨fun wq hCq hKq => ?_, ?_⟩; (· exact one_any f d _); intro K hK; simp only [Grow.put_lit, Grow.setAt]; refine hK _ _ ?_; clear hK K)
  repeat (first | (refine Grow.lex_move rfl ?_ rfl ?_; (· first | exact Grow.wanted_none | (rw [Hopsq.out]; rfl)); intro K hK; simp only [Grow.put_lit, Grow.setAt, Grow.eval_lit, Grow.ev]; refine hK _ _ ?_; clear hK K) | (refine Grow.lex_assign rfl ?_ rfl ?_; (· first | exact Grow.wanted_none | (rw [Hopsq.out]; rfl)); intro K hK; simp only [Grow.put_lit, Grow.setAt, Grow.eval_lit, Grow.ev]; refine hK _ _ ?_; clear hK K) | (refine Grow.lex_plain rfl rfl ?_ rfl ?_; (· first | exact Grow.wanted_none | (rw [Hopsq.out]; rfl)); apply Exists.intro; refine ⟨fun wq hCq _ => ?_, ?_⟩; (· (go_wp2_with fail; refine ⟨rfl, Below.refl _ _, ?_⟩; simp only [Grow.getD_lit, Grow.nth]; rfl)); intro K hK; simp only [Grow.put_lit, Grow.setAt]; refine hK _ _ ?_; clear hK K) | (refine Grow.lex_nilCheck rfl rfl ?_ rfl ?_; (· first | exact Grow.wanted_none | (rw [Hopsq.out]; rfl)); intro K hK; simp only [Grow.put_lit, Grow.setAt]; refine hK _ _ ?_; clear hK K) | (refine Grow.lex_skip ?_ ?_; (· (rw [Hopsq.out]; rfl)); intro K hK; simp only [Grow.put_lit, Grow.setAt]; refine hK _ _ ?_; clear hK K))
  (refine Grow.lex_call ?_ rfl ?_; (· first | exact Grow.wanted_none | (rw [Hopsq.out]; rfl)); apply Exists.intro; apply Exists.intro; refine ⟨fun wq => ?_, ?_⟩; (· (go_simp; exact ⟨rfl, rfl⟩)); apply Exists.intro; refine ⟨fun wq hCq hKq => ?_, ?_⟩; (· exact both_any c (one f d) _); intro K hK; simp only [Grow.put_lit, Grow.setAt]; refine hK _ _ ?_; clear hK K)
  repeat (first | (refine Grow.lex_move rfl ?_ rfl ?_; (· first | exact Grow.wanted_none | (rw [Hopsq.out]; rfl)); intro K hK; simp only [Grow.put_lit, Grow.setAt, Grow.eval_lit, Grow.ev]; refine hK _ _ ?_; clear hK K) | (refine Grow.lex_assign rfl ?_ rfl ?_; (· first | exact Grow.wanted_none | (rw [Hopsq.out]; rfl)); intro K hK; simp only [Grow.put_lit, Grow.setAt, Grow.eval_lit, Grow.ev]; refine hK _ _ ?_; clear hK K) | (refine Grow.lex_plain rfl rfl ?_ rfl ?_; (· first | exact Grow.wanted_none | (rw [Hopsq.out]; rfl)); apply Exists.intro; refine ⟨fun wq hCq _ => ?_, ?_⟩; (· (go_wp2_with fail; refine ⟨rfl, Below.refl _ _, ?_⟩; simp only [Grow.getD_lit, Grow.nth]; rfl)); intro K hK; simp only [Grow.put_lit, Grow.setAt]; refine hK _ _ ?_; clear hK K) | (refine Grow.lex_nilCheck rfl rfl ?_ rfl ?_; (· first | exact Grow.wanted_none | (rw [Hopsq.out]; rfl)); intro K hK; simp only [Grow.put_lit, Grow.setAt]; refine hK _ _ ?_; clear hK K) | (refine Grow.lex_skip ?_ ?_; (· (rw [Hopsq.out]; rfl)); intro K hK; simp only [Grow.put_lit, Grow.setAt]; refine hK _ _ ?_; clear hK K))
  (refine Grow.lex_nil ?_; intro w1 hb1 _; replace hb1 := Grow.Cl.base hb1; clear Hopsq opsq)
  go_wp2_with fail
  go_ret
  exact ⟨by rw [cv_ne]; rfl, (below1 _ _).trans (hb1.mono (by simp))⟩

theorem and_bit (x : BitVec 32) (n : Nat) (hn : n < 32) : (x &&& (1#32 <<< n) != 0#32) = x.getLsbD n := by
  cases hb : x.getLsbD n
  · have : x &&& (1#32 <<< n) = 0#32 := by
      apply BitVec.eq_of_getLsbD_eq
      intro i hi
      simp only [BitVec.getLsbD_and, BitVec.getLsbD_shiftLeft, BitVec.getLsbD_zero]
      by_cases e : i = n
      · subst e; simp [hb]
      · by_cases h1 : i < n
        · simp [h1]
        · have : ∀ k, 0 < k → (1#32).getLsbD k = false := fun k hk => by
            rw [BitVec.getLsbD_ofNat]
            match k, hk with
            | k + 1, _ => simp [Nat.testBit_succ]
          simp [this (i - n) (by omega)]
    simp [this]
  · rw [bne_iff_ne]
    intro h
    have h2 : (x &&& (1#32 <<< n)).getLsbD n = true := by
      rw [BitVec.getLsbD_and, hb, BitVec.getLsbD_shiftLeft]; simp [hn]
    rw [h] at h2
    simp at h2
theorem has_up (c : CS) (f : Int) (h0 : 0 ≤ f) (h1 : f < 32) : has c f 1 = c.1.getLsbD f.toNat := by
  rw [has, one_up f h0 h1]
  show (!(c.1 &&& bit f == 0#32 && c.2 &&& 0#32 == 0#32)) = _
  rw [← and_bit c.1 f.toNat (by omega)]
  simp [bit, bne]
theorem has_down (c : CS) (f : Int) (h0 : 0 ≤ f) (h1 : f < 32) : has c f 2 = c.2.getLsbD f.toNat := by
  rw [has, one_down f h0 h1]
  show (!(c.1 &&& 0#32 == 0#32 && c.2 &&& bit f == 0#32)) = _
  rw [← and_bit c.2 f.toNat (by omega)]
  simp [bit, bne]
theorem has_dir (c : CS) (f d : Int) (h1 : ¬ d = 1) (h2 : ¬ d = 2) : has c f d = false := by
  rw [has, one_dir f d h1 h2]; simp [both]
theorem has_out (c : CS) (f d : Int) (h : ¬ (0 ≤ f ∧ f < 32)) : has c f d = false := by
  rw [has, one_out f d h]; simp [both]
theorem bit32 (x : BitVec 32) (f : Int) : (bits BinOp.and IntKind.u32 ((x.toNat : Int) / 2 ^ f.toNat) 1 == 1) = x.getLsbD f.toNat := by
  have e : ((x.toNat : Int) / 2 ^ f.toNat) = ((x.toNat / 2 ^ f.toNat : Nat) : Int) := by simp
  have hb : x.toNat / 2 ^ f.toNat < 4294967296 := Nat.lt_of_le_of_lt (Nat.div_le_self _ _) x.isLt
  have h := u32_and_nat (x.toNat / 2 ^ f.toNat) 1 hb (by omega)
  rw [e]
  have h' : bits BinOp.and IntKind.u32 ((x.toNat / 2 ^ f.toNat : Nat) : Int) 1 = ((x.toNat / 2 ^ f.toNat &&& 1 : Nat) : Int) := h
  rw [h', BitVec.getLsbD, Nat.testBit, Nat.shiftRight_eq_div_pow, Nat.and_comm 1]
  have hz : x.toNat / 2 ^ f.toNat &&& 1 ≤ 1 := Nat.and_le_right
  generalize x.toNat / 2 ^ f.toNat &&& 1 = z at hz
  match z, hz with
  | 0, _ => rfl
  | 1, _ => rfl

set_option maxHeartbeats 400000 in
theorem refHas_any (c : CS) (f d : Int) (w : World) :
    Calls Try.prog 21 #[cv c, .int .i64 f, .int .i64 d] w fun e w' => e = .returned (.bool (has c f d)) ∧ Below w.heap.size w w' := by
  by_cases h0 : 0 ≤ f
  · by_cases h1 : f < 32
    · by_cases hd1 : d = 1
      · subst hd1
        cases hh : has c f 1
        · have hb : (bits BinOp.and IntKind.u32 ((c.1.toNat : Int) / 2 ^ f.toNat) 1 == 1) = false := by rw [bit32, ← has_up c f h0 h1, hh]
          clear hh
          go_enter Try.func21, Try.ntmps21
          go_wp2_with fail
          go_ret
          exact ⟨rfl, below1 _ _⟩
        · have hb : (bits BinOp.and IntKind.u32 ((c.1.toNat : Int) / 2 ^ f.toNat) 1 == 1) = true := by rw [bit32, ← has_up c f h0 h1, hh]
          clear hh
          go_enter Try.func21, Try.ntmps21
          go_wp2_with fail
          go_ret
          exact ⟨rfl, below1 _ _⟩
      · by_cases hd2 : d = 2
        · subst hd2
          cases hh : has c f 2
          · have hb : (bits BinOp.and IntKind.u32 ((c.2.toNat : Int) / 2 ^ f.toNat) 1 == 1) = false := by rw [bit32, ← has_down c f h0 h1, hh]
            clear hh
            go_enter Try.func21, Try.ntmps21
            go_wp2_with fail
            go_ret
            exact ⟨rfl, below1 _ _⟩
          · have hb : (bits BinOp.and IntKind.u32 ((c.2.toNat : Int) / 2 ^ f.toNat) 1 == 1) = true := by rw [bit32, ← has_down c f h0 h1, hh]
            clear hh
            go_enter Try.func21, Try.ntmps21
            go_wp2_with fail
            go_ret
            exact ⟨rfl, below1 _ _⟩
        · have e1 : (d == 1) = false := by simpa using hd1
          have e2 : (d == 2) = false := by simpa using hd2
          rw [has_dir c f d hd1 hd2]
          clear hd1 hd2
          go_enter Try.func21, Try.ntmps21
          go_wp2_with fail
          go_ret
          exact ⟨rfl, below1 _ _⟩
    · have hf : ¬ (0 ≤ f ∧ f < 32) := by omega
      rw [has_out c f d hf]
      clear hf
      go_enter Try.func21, Try.ntmps21
      go_wp2_with fail
      go_ret
      exact ⟨rfl, below1 _ _⟩
  · have hf : ¬ (0 ≤ f ∧ f < 32) := by omega
    have h2 : f < 0 := by omega
    rw [has_out c f d hf]
    clear hf
    go_enter Try.func21, Try.ntmps21
    go_wp2_with fail
    go_ret
    exact ⟨rfl, below1 _ _⟩
end Go.Proofs.Ytfmmiafdlfdfoaa
