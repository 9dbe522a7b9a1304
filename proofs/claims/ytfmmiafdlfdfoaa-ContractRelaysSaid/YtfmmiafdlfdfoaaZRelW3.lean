/- The walks over overlayref11's counted, proper, Spent. Conditions: those of each theorem. -/
import Derived.Test.YtfmmiafdlfdfoaaZRelW2
import Derived.Test.YtfmmiafdlfdfoaaZState
import Derived.Test.YtfmmiafdlfdfoaaZBld15
namespace Go.Proofs.Ytfmmiafdlfdfoaa
namespace Rel
open Go.RowKit
attribute [local go_sem ↓] run_eql_st
theorem st_eq (m s : StV) : ((m.1.toNat : Int) == (s.1.toNat : Int) && (m.2.1.toNat : Int) == (s.2.1.toNat : Int) && (m.2.2.toNat : Int) == (s.2.2.toNat : Int)) = decide (m = s) := by
  have h : ∀ x y : BitVec 32, ((x.toNat : Int) == (y.toNat : Int)) = decide (x = y) := fun x y => by
    rw [Bool.eq_iff_iff, beq_iff_eq, decide_eq_true_eq]
    exact ⟨fun h => BitVec.eq_of_toNat_eq (by omega), fun h => by rw [h]⟩
  obtain ⟨a, b, c⟩ := m
  obtain ⟨x, y, z⟩ := s
  simp only [h, Prod.mk.injEq, Bool.decide_and, Bool.and_assoc]
set_option maxHeartbeats 2000000 in
theorem counted_any (r o p : Int) (s : StV) (w : World) (ho : 0 ≤ o ∧ o ≤ 7) (hp : 0 ≤ p ∧ p < 32) :
    Calls Try.prog 73 #[cvSw r o, .int .i64 p, cvSt s] w fun e w' => e = .returned (.int .i64 (countV o p s)) ∧ Below w.heap.size w w' := by
  obtain ⟨m, hm⟩ : ∃ m, markV o p s = m := ⟨_, rfl⟩
  have HC : Hid (countV o p s = if m = s then 0 else o) := Lib.hid (by rw [← hm]; rfl)
  have HMA : Hid (∀ W, Calls Try.prog 85 #[cvSw r o, .int .i64 p, cvSt s] W fun e w' => e = .returned (cvSt m) ∧ Below W.heap.size W w') := Lib.hid fun W => by rw [← hm]; exact marked_any r o p s W ho hp
  clear hm
  generalize countV o p s = c at *
  have he := st_eq m s
  have X0 : Blk (w.alloc (.cells #[.int .i64 r, .int .i64 o] 98)) w.heap.size [.int .i64 r, .int .i64 o] := by
    have hx := Blk.new w [.int .i64 r, .int .i64 o] 98
    exact hx
  replace X0 : Blk ((w.alloc (.cells #[.int .i64 r, .int .i64 o] 98)).alloc (.cells #[.int .u32 (s.1.toNat : Int), .int .u32 (s.2.1.toNat : Int), .int .u32 (s.2.2.toNat : Int)] 100)) w.heap.size [.int .i64 r, .int .i64 o] := X0.next (below1' _ _)
  have X1 : Blk ((w.alloc (.cells #[.int .i64 r, .int .i64 o] 98)).alloc (.cells #[.int .u32 (s.1.toNat : Int), .int .u32 (s.2.1.toNat : Int), .int .u32 (s.2.2.toNat : Int)] 100)) (w.heap.size + 1) [.int .u32 (s.1.toNat : Int), .int .u32 (s.2.1.toNat : Int), .int .u32 (s.2.2.toNat : Int)] := by
    have hx := Blk.new (w.alloc (.cells #[.int .i64 r, .int .i64 o] 98)) [.int .u32 (s.1.toNat : Int), .int .u32 (s.2.1.toNat : Int), .int .u32 (s.2.2.toNat : Int)] 100
    rw [World.size_alloc] at hx
    exact hx
  have XW : Below w.heap.size w (w.alloc (.cells #[.int .i64 r, .int .i64 o] 98)) := below1' w _
  replace XW : Below w.heap.size w ((w.alloc (.cells #[.int .i64 r, .int .i64 o] 98)).alloc (.cells #[.int .u32 (s.1.toNat : Int), .int .u32 (s.2.1.toNat : Int), .int .u32 (s.2.2.toNat : Int)] 100)) := XW.trans ((below1' _ _).mono XW.size)
  have HWW := Lib.hid XW; have HX0 := Lib.hid X0; have HX1 := Lib.hid X1
  clear XW X0 X1
  go_enter Try.func73, Try.ntmps73
  go_upto_region 1 with fail
  generalize ((w.alloc (.cells #[.int .i64 r, .int .i64 o] 98)).alloc (.cells #[.int .u32 (s.1.toNat : Int), .int .u32 (s.2.1.toNat : Int), .int .u32 (s.2.2.toNat : Int)] 100)) = w0 at *
  generalize hg1 : w.heap.size + 1 = g1 at *
  have HG1 := Lib.hid hg1; have hq1 : w.heap.size + 1 ≤ g1 := by omega
  clear hg1
  have HW := Lib.hid (Below.refl w0.heap.size w0)
  have hz0 := HX0.out.lt; have hz1 := HX1.out.lt
  have k0 := (HX0.out).reg 0 _ rfl
  have k1 := (HX0.out).reg 1 _ rfl
  have y0 := (HX1.out).reg 0 _ rfl
  have y1 := (HX1.out).reg 1 _ rfl
  have y2 := (HX1.out).reg 2 _ rfl
  by_cases hms : m = s
  · rw [decide_eq_true hms] at he
    have HC2 : Hid (c = 0) := Lib.hid (by rw [HC.out, if_pos hms])
    clear hms HC
    (refine Grow.wp_region Grow.noPlan Grow.noPlan_stable (by kernel_rfl) (by kernel_rfl) ?_; intro opsq Hopsq)
    repeat (first | (refine Grow.lex_move rfl ?_ rfl ?_; (· first | exact Grow.wanted_none | (rw [Hopsq.out]; rfl)); intro K hK; simp only [Grow.put_lit, Grow.setAt, Grow.eval_lit, Grow.ev]; refine hK _ _ ?_; clear hK K) | (refine Grow.lex_assign rfl ?_ rfl ?_; (· first | exact Grow.wanted_none | (rw [Hopsq.out]; rfl)); intro K hK; simp only [Grow.put_lit, Grow.setAt, Grow.eval_lit, Grow.ev]; refine hK _ _ ?_; clear hK K) | (refine Grow.lex_plain rfl rfl ?_ rfl ?_; (· first | exact Grow.wanted_none | (rw [Hopsq.out]; rfl)); apply Exists.intro; refine ⟨fun wq hCq _ => ?_, ?_⟩; (· (go_wp2_with fail; refine ⟨rfl, Below.refl _ _, ?_⟩; simp only [Grow.getD_lit, Grow.nth]; rfl)); intro K hK; simp only [Grow.put_lit, Grow.setAt]; refine hK _ _ ?_; clear hK K) | (refine Grow.lex_nilCheck rfl rfl ?_ rfl ?_; (· first | exact Grow.wanted_none | (rw [Hopsq.out]; rfl)); intro K hK; simp only [Grow.put_lit, Grow.setAt]; refine hK _ _ ?_; clear hK K) | (refine Grow.lex_skip ?_ ?_; (· (rw [Hopsq.out]; rfl)); intro K hK; simp only [Grow.put_lit, Grow.setAt]; refine hK _ _ ?_; clear hK K))
    (refine Grow.lex_call ?_ rfl ?_; (· first | exact Grow.wanted_none | (rw [Hopsq.out]; rfl)); apply Exists.intro; apply Exists.intro; refine ⟨fun wq => ?_, ?_⟩; (· (go_simp; exact ⟨rfl, rfl⟩)); apply Exists.intro; refine ⟨fun wq hCq hKq => ?_, ?_⟩; (· exact HMA.out _); intro K hK; simp only [Grow.put_lit, Grow.setAt]; refine hK _ _ ?_; clear hK K)
    repeat (first | (refine Grow.lex_move rfl ?_ rfl ?_; (· first | exact Grow.wanted_none | (rw [Hopsq.out]; rfl)); intro K hK; simp only [Grow.put_lit, Grow.setAt, Grow.eval_lit, Grow.ev]; refine hK _ _ ?_; clear hK K) | (refine Grow.lex_assign rfl ?_ rfl ?_; (· first | exact Grow.wanted_none | (rw [Hopsq.out]; rfl)); intro K hK; simp only [Grow.put_lit, Grow.setAt, Grow.eval_lit, Grow.ev]; refine hK _ _ ?_; clear hK K) | (refine Grow.lex_plain rfl rfl ?_ rfl ?_; (· first | exact Grow.wanted_none | (rw [Hopsq.out]; rfl)); apply Exists.intro; refine ⟨fun wq hCq _ => ?_, ?_⟩; (· (go_wp2_with fail; refine ⟨rfl, Below.refl _ _, ?_⟩; simp only [Grow.getD_lit, Grow.nth]; rfl)); intro K hK; simp only [Grow.put_lit, Grow.setAt]; refine hK _ _ ?_; clear hK K) | (refine Grow.lex_nilCheck rfl rfl ?_ rfl ?_; (· first | exact Grow.wanted_none | (rw [Hopsq.out]; rfl)); intro K hK; simp only [Grow.put_lit, Grow.setAt]; refine hK _ _ ?_; clear hK K) | (refine Grow.lex_skip ?_ ?_; (· (rw [Hopsq.out]; rfl)); intro K hK; simp only [Grow.put_lit, Grow.setAt]; refine hK _ _ ?_; clear hK K))
    (refine Grow.lex_nil ?_; intro w1 hb1 _; replace hb1 := Grow.Cl.base hb1; clear Hopsq opsq)
    have HW1 := Lib.hid (HWW.out.trans (hb1.mono HWW.out.size))
    clear k0 k1 y0 y1 y2 hb1
    go_wp2_with fail
    go_ret
    exact ⟨by rw [HC2.out]; rfl, HW1.out⟩
  · rw [decide_eq_false hms] at he
    have HC2 : Hid (c = o) := Lib.hid (by rw [HC.out, if_neg hms])
    clear hms HC
    (refine Grow.wp_region Grow.noPlan Grow.noPlan_stable (by kernel_rfl) (by kernel_rfl) ?_; intro opsq Hopsq)
    repeat (first | (refine Grow.lex_move rfl ?_ rfl ?_; (· first | exact Grow.wanted_none | (rw [Hopsq.out]; rfl)); intro K hK; simp only [Grow.put_lit, Grow.setAt, Grow.eval_lit, Grow.ev]; refine hK _ _ ?_; clear hK K) | (refine Grow.lex_assign rfl ?_ rfl ?_; (· first | exact Grow.wanted_none | (rw [Hopsq.out]; rfl)); intro K hK; simp only [Grow.put_lit, Grow.setAt, Grow.eval_lit, Grow.ev]; refine hK _ _ ?_; clear hK K) | (refine Grow.lex_plain rfl rfl ?_ rfl ?_; (· first | exact Grow.wanted_none | (rw [Hopsq.out]; rfl)); apply Exists.intro; refine ⟨fun wq hCq _ => ?_, ?_⟩; (· (go_wp2_with fail; refine ⟨rfl, Below.refl _ _, ?_⟩; simp only [Grow.getD_lit, Grow.nth]; rfl)); intro K hK; simp only [Grow.put_lit, Grow.setAt]; refine hK _ _ ?_; clear hK K) | (refine Grow.lex_nilCheck rfl rfl ?_ rfl ?_; (· first | exact Grow.wanted_none | (rw [Hopsq.out]; rfl)); intro K hK; simp only [Grow.put_lit, Grow.setAt]; refine hK _ _ ?_; clear hK K) | (refine Grow.lex_skip ?_ ?_; (· (rw [Hopsq.out]; rfl)); intro K hK; simp only [Grow.put_lit, Grow.setAt]; refine hK _ _ ?_; clear hK K))
    (refine Grow.lex_call ?_ rfl ?_; (· first | exact Grow.wanted_none | (rw [Hopsq.out]; rfl)); apply Exists.intro; apply Exists.intro; refine ⟨fun wq => ?_, ?_⟩; (· (go_simp; exact ⟨rfl, rfl⟩)); apply Exists.intro; refine ⟨fun wq hCq hKq => ?_, ?_⟩; (· exact HMA.out _); intro K hK; simp only [Grow.put_lit, Grow.setAt]; refine hK _ _ ?_; clear hK K)
    repeat (first | (refine Grow.lex_move rfl ?_ rfl ?_; (· first | exact Grow.wanted_none | (rw [Hopsq.out]; rfl)); intro K hK; simp only [Grow.put_lit, Grow.setAt, Grow.eval_lit, Grow.ev]; refine hK _ _ ?_; clear hK K) | (refine Grow.lex_assign rfl ?_ rfl ?_; (· first | exact Grow.wanted_none | (rw [Hopsq.out]; rfl)); intro K hK; simp only [Grow.put_lit, Grow.setAt, Grow.eval_lit, Grow.ev]; refine hK _ _ ?_; clear hK K) | (refine Grow.lex_plain rfl rfl ?_ rfl ?_; (· first | exact Grow.wanted_none | (rw [Hopsq.out]; rfl)); apply Exists.intro; refine ⟨fun wq hCq _ => ?_, ?_⟩; (· (go_wp2_with fail; refine ⟨rfl, Below.refl _ _, ?_⟩; simp only [Grow.getD_lit, Grow.nth]; rfl)); intro K hK; simp only [Grow.put_lit, Grow.setAt]; refine hK _ _ ?_; clear hK K) | (refine Grow.lex_nilCheck rfl rfl ?_ rfl ?_; (· first | exact Grow.wanted_none | (rw [Hopsq.out]; rfl)); intro K hK; simp only [Grow.put_lit, Grow.setAt]; refine hK _ _ ?_; clear hK K) | (refine Grow.lex_skip ?_ ?_; (· (rw [Hopsq.out]; rfl)); intro K hK; simp only [Grow.put_lit, Grow.setAt]; refine hK _ _ ?_; clear hK K))
    (refine Grow.lex_nil ?_; intro w1 hb1 _; replace hb1 := Grow.Cl.base hb1; clear Hopsq opsq)
    have HW1 := Lib.hid (HWW.out.trans (hb1.mono HWW.out.size))
    have z1 := (HX0.out.next hb1).cell 1 _ rfl
    clear k0 k1 y0 y1 y2 hb1
    go_wp2_with fail
    go_ret
    exact ⟨by rw [HC2.out]; rfl, HW1.out⟩
theorem sub_one (x : BitVec 32) : ((x.toNat : Int) - 1) % 4294967296 = ((x - 1#32).toNat : Int) := by
  rw [BitVec.toNat_sub]
  have h := x.isLt
  have e : (1#32 : BitVec 32).toNat = 1 := rfl
  rw [e]
  omega
set_option maxHeartbeats 2000000 in
theorem proper_any (n : Int) (s : StV) (w : World) (hn : 1 ≤ n ∧ n ≤ 31) :
    Calls Try.prog 68 #[.int .i64 n, cvSt s] w fun e w' => e = .returned (cvSt (properV n s)) ∧ Below w.heap.size w w' := by
  obtain ⟨hn1, hn2⟩ := hn
  have HP : Hid (properV n s = (s.1 &&& allM n, (s.2.1 &&& allM n &&& ~~~bit (n - 1), s.2.2 &&& allM n &&& ~~~1#32))) := Lib.hid (by unfold properV; rw [if_neg (by omega)])
  have d1 : decide (n < 1) = false := decide_eq_false (by omega)
  have d2 : decide (32 < n) = false := decide_eq_false (by omega)
  have hpb := pow_bit n (by omega) (by omega)
  have hpb2 := pow_bit (n - 1) (by omega) (by omega)
  rw [show (n - 1).toNat = n.toNat - 1 by omega] at hpb2
  have hsb : ((bit n).toNat - 1 : Int) % 4294967296 = ((allM n).toNat : Int) := sub_one (bit n)
  have ha1 := and32 s.1 (allM n); have ha2 := and32 s.2.1 (allM n); have ha3 := and32 s.2.2 (allM n)
  have hb2 := andNot32 (s.2.1 &&& allM n) (bit (n - 1))
  have hb3 : bits BinOp.andNot IntKind.u32 ((s.2.2 &&& allM n).toNat : Int) 1 = ((s.2.2 &&& allM n &&& ~~~1#32).toNat : Int) := andNot32 (s.2.2 &&& allM n) 1#32
  rw [HP.out]
  clear HP
  generalize s.2.1 &&& allM n &&& ~~~bit (n - 1) = c2 at *
  generalize s.2.2 &&& allM n &&& ~~~1#32 = c3 at *
  generalize s.1 &&& allM n = c1 at *
  generalize s.2.1 &&& allM n = e2 at *
  generalize s.2.2 &&& allM n = e3 at *
  generalize allM n = am at *
  generalize bit (n - 1) = bn1 at *
  generalize bit n = bn at *
  have hn0 : 0 ≤ n := by omega
  have hn10 : 0 ≤ n - 1 := by omega
  have X0 : Blk (w.alloc (.cells #[.int .u32 (s.1.toNat : Int), .int .u32 (s.2.1.toNat : Int), .int .u32 (s.2.2.toNat : Int)] 100)) w.heap.size [.int .u32 (s.1.toNat : Int), .int .u32 (s.2.1.toNat : Int), .int .u32 (s.2.2.toNat : Int)] := by
    have hx := Blk.new w [.int .u32 (s.1.toNat : Int), .int .u32 (s.2.1.toNat : Int), .int .u32 (s.2.2.toNat : Int)] 100
    exact hx
  replace X0 : Blk ((w.alloc (.cells #[.int .u32 (s.1.toNat : Int), .int .u32 (s.2.1.toNat : Int), .int .u32 (s.2.2.toNat : Int)] 100)).alloc (.cells #[.int .u32 0, .int .u32 0, .int .u32 0] 100)) w.heap.size [.int .u32 (s.1.toNat : Int), .int .u32 (s.2.1.toNat : Int), .int .u32 (s.2.2.toNat : Int)] := X0.next (below1' _ _)
  have X1 : Blk ((w.alloc (.cells #[.int .u32 (s.1.toNat : Int), .int .u32 (s.2.1.toNat : Int), .int .u32 (s.2.2.toNat : Int)] 100)).alloc (.cells #[.int .u32 0, .int .u32 0, .int .u32 0] 100)) (w.heap.size + 1) [.int .u32 0, .int .u32 0, .int .u32 0] := by
    have hx := Blk.new (w.alloc (.cells #[.int .u32 (s.1.toNat : Int), .int .u32 (s.2.1.toNat : Int), .int .u32 (s.2.2.toNat : Int)] 100)) [.int .u32 0, .int .u32 0, .int .u32 0] 100
    rw [World.size_alloc] at hx
    exact hx
  have XW : Below w.heap.size w (w.alloc (.cells #[.int .u32 (s.1.toNat : Int), .int .u32 (s.2.1.toNat : Int), .int .u32 (s.2.2.toNat : Int)] 100)) := below1' w _
  replace XW : Below w.heap.size w ((w.alloc (.cells #[.int .u32 (s.1.toNat : Int), .int .u32 (s.2.1.toNat : Int), .int .u32 (s.2.2.toNat : Int)] 100)).alloc (.cells #[.int .u32 0, .int .u32 0, .int .u32 0] 100)) := XW.trans ((below1' _ _).mono XW.size)
  have HWW := Lib.hid XW; have HX0 := Lib.hid X0; have HX1 := Lib.hid X1
  clear XW X0 X1
  go_enter Try.func68, Try.ntmps68
  go_upto_region 1 with fail
  generalize ((w.alloc (.cells #[.int .u32 (s.1.toNat : Int), .int .u32 (s.2.1.toNat : Int), .int .u32 (s.2.2.toNat : Int)] 100)).alloc (.cells #[.int .u32 0, .int .u32 0, .int .u32 0] 100)) = w0 at *
  generalize hg1 : w.heap.size + 1 = g1 at *
  have HG1 := Lib.hid hg1; have hq1 : w.heap.size + 1 ≤ g1 := by omega
  clear hg1
  have HW := Lib.hid (Below.refl w0.heap.size w0)
  have hz0 := HX0.out.lt; have hz1 := HX1.out.lt
  have k0 := (HX0.out).cell 0 _ rfl
  have k1 := (HX0.out).cell 1 _ rfl
  have k2 := (HX0.out).cell 2 _ rfl
  have y0 := (HX1.out).cell 0 _ rfl
  have y1 := (HX1.out).cell 1 _ rfl
  have y2 := (HX1.out).cell 2 _ rfl
  have f0 := HX1.out.fr 0; have f1 := HX1.out.fr 1; have f2 := HX1.out.fr 2
  go_wp2_with fail
  have R3 := ((HX1.out.set 0 (.int .u32 (c1.toNat : Int))).set 1 (.int .u32 (c2.toNat : Int))).set 2 (.int .u32 (c3.toNat : Int))
  have r0 := R3.cell 0 _ rfl; have r1 := R3.cell 1 _ rfl; have r2 := R3.cell 2 _ rfl
  have hle : w.heap.size ≤ g1 := by omega
  exact bodyPost_ret (v := cvSt (c1, (c2, c3))) (by simp [results, Try.results68, go_sem, r0, r1, r2]) rfl ⟨rfl, ((HWW.out.setCell (p := ⟨g1, 0, none⟩) hle _).setCell (p := ⟨g1, 1, none⟩) hle _).setCell (p := ⟨g1, 2, none⟩) hle _⟩
theorem count_range {o p : Int} {s : StV} (ho : 0 ≤ o ∧ o ≤ 7) : 0 ≤ countV o p s ∧ countV o p s ≤ 7 := by unfold countV; split <;> omega
set_option maxHeartbeats 2000000 in
theorem spent_any (n r o p : Int) (s : StV) (w : World) (hn : 2 ≤ n ∧ n ≤ 31) (hp : 0 ≤ p ∧ p < n) (hr : 0 ≤ r ∧ r ≤ 2) (ho : 0 ≤ o ∧ o ≤ 7) :
    Calls Try.prog 82 #[.int .i64 n, cvSw r o, .int .i64 p, cvSt s] w fun e w' => e = .returned (cvSt (spentV n r o p s)) ∧ Below w.heap.size w w' := by
  have hgd : guardS n r o p = false := by unfold guardS; exact decide_eq_false (by omega)
  have HSP : Hid (spentV n r o p s = markV (countV o p (properV n s)) p (properV n s)) := Lib.hid (by unfold spentV; rw [hgd]; simp)
  rw [HSP.out]
  clear HSP hgd
  obtain ⟨q, hq⟩ : ∃ q, properV n s = q := ⟨_, rfl⟩
  obtain ⟨c, hc⟩ : ∃ c, countV o p q = c := ⟨_, rfl⟩
  have hcr := count_range (p := p) (s := q) ho
  rw [hc] at hcr
  have HPA : Hid (∀ W, Calls Try.prog 68 #[.int .i64 n, cvSt s] W fun e w' => e = .returned (cvSt q) ∧ Below W.heap.size W w') := Lib.hid fun W => by rw [← hq]; exact proper_any n s W ⟨by omega, hn.2⟩
  have HCA : Hid (∀ W, Calls Try.prog 73 #[cvSw r o, .int .i64 p, cvSt q] W fun e w' => e = .returned (.int .i64 c) ∧ Below W.heap.size W w') := Lib.hid fun W => by rw [← hc]; exact counted_any r o p q W ho (by omega)
  have HMA : Hid (∀ W, Calls Try.prog 85 #[cvSw r c, .int .i64 p, cvSt q] W fun e w' => e = .returned (cvSt (markV c p q)) ∧ Below W.heap.size W w') := Lib.hid fun W => marked_any r c p q W hcr (by omega)
  rw [hq, hc]
  generalize markV c p q = m at *
  have d1 : decide (n < 2) = false := decide_eq_false (by omega)
  have d2 : decide (32 < n) = false := decide_eq_false (by omega)
  have d3 : decide (p < 0) = false := decide_eq_false (by omega)
  have d4 : decide (n ≤ p) = false := decide_eq_false (by omega)
  have HR := Lib.hid hr; have HO := Lib.hid ho
  clear hq hc hcr hn hp hr ho
  have X0 : Blk (w.alloc (.cells #[.int .i64 r, .int .i64 o] 98)) w.heap.size [.int .i64 r, .int .i64 o] := by
    have hx := Blk.new w [.int .i64 r, .int .i64 o] 98
    exact hx
  replace X0 : Blk ((w.alloc (.cells #[.int .i64 r, .int .i64 o] 98)).alloc (.cells #[.int .u32 (s.1.toNat : Int), .int .u32 (s.2.1.toNat : Int), .int .u32 (s.2.2.toNat : Int)] 100)) w.heap.size [.int .i64 r, .int .i64 o] := X0.next (below1' _ _)
  replace X0 : Blk (((w.alloc (.cells #[.int .i64 r, .int .i64 o] 98)).alloc (.cells #[.int .u32 (s.1.toNat : Int), .int .u32 (s.2.1.toNat : Int), .int .u32 (s.2.2.toNat : Int)] 100)).alloc (.cells #[.int .u32 0, .int .u32 0, .int .u32 0] 100)) w.heap.size [.int .i64 r, .int .i64 o] := X0.next (below1' _ _)
  have X1 : Blk ((w.alloc (.cells #[.int .i64 r, .int .i64 o] 98)).alloc (.cells #[.int .u32 (s.1.toNat : Int), .int .u32 (s.2.1.toNat : Int), .int .u32 (s.2.2.toNat : Int)] 100)) (w.heap.size + 1) [.int .u32 (s.1.toNat : Int), .int .u32 (s.2.1.toNat : Int), .int .u32 (s.2.2.toNat : Int)] := by
    have hx := Blk.new (w.alloc (.cells #[.int .i64 r, .int .i64 o] 98)) [.int .u32 (s.1.toNat : Int), .int .u32 (s.2.1.toNat : Int), .int .u32 (s.2.2.toNat : Int)] 100
    rw [World.size_alloc] at hx
    exact hx
  replace X1 : Blk (((w.alloc (.cells #[.int .i64 r, .int .i64 o] 98)).alloc (.cells #[.int .u32 (s.1.toNat : Int), .int .u32 (s.2.1.toNat : Int), .int .u32 (s.2.2.toNat : Int)] 100)).alloc (.cells #[.int .u32 0, .int .u32 0, .int .u32 0] 100)) (w.heap.size + 1) [.int .u32 (s.1.toNat : Int), .int .u32 (s.2.1.toNat : Int), .int .u32 (s.2.2.toNat : Int)] := X1.next (below1' _ _)
  have X2 : Blk (((w.alloc (.cells #[.int .i64 r, .int .i64 o] 98)).alloc (.cells #[.int .u32 (s.1.toNat : Int), .int .u32 (s.2.1.toNat : Int), .int .u32 (s.2.2.toNat : Int)] 100)).alloc (.cells #[.int .u32 0, .int .u32 0, .int .u32 0] 100)) (w.heap.size + 1 + 1) [.int .u32 0, .int .u32 0, .int .u32 0] := by
    have hx := Blk.new ((w.alloc (.cells #[.int .i64 r, .int .i64 o] 98)).alloc (.cells #[.int .u32 (s.1.toNat : Int), .int .u32 (s.2.1.toNat : Int), .int .u32 (s.2.2.toNat : Int)] 100)) [.int .u32 0, .int .u32 0, .int .u32 0] 100
    rw [World.size_alloc, World.size_alloc] at hx
    exact hx
  have XW : Below w.heap.size w (w.alloc (.cells #[.int .i64 r, .int .i64 o] 98)) := below1' w _
  replace XW : Below w.heap.size w ((w.alloc (.cells #[.int .i64 r, .int .i64 o] 98)).alloc (.cells #[.int .u32 (s.1.toNat : Int), .int .u32 (s.2.1.toNat : Int), .int .u32 (s.2.2.toNat : Int)] 100)) := XW.trans ((below1' _ _).mono XW.size)
  replace XW : Below w.heap.size w (((w.alloc (.cells #[.int .i64 r, .int .i64 o] 98)).alloc (.cells #[.int .u32 (s.1.toNat : Int), .int .u32 (s.2.1.toNat : Int), .int .u32 (s.2.2.toNat : Int)] 100)).alloc (.cells #[.int .u32 0, .int .u32 0, .int .u32 0] 100)) := XW.trans ((below1' _ _).mono XW.size)
  have HWW := Lib.hid XW; have HX0 := Lib.hid X0; have HX1 := Lib.hid X1; have HX2 := Lib.hid X2
  clear XW X0 X1 X2
  go_enter Try.func82, Try.ntmps82
  go_upto_region 1 with fail
  generalize (((w.alloc (.cells #[.int .i64 r, .int .i64 o] 98)).alloc (.cells #[.int .u32 (s.1.toNat : Int), .int .u32 (s.2.1.toNat : Int), .int .u32 (s.2.2.toNat : Int)] 100)).alloc (.cells #[.int .u32 0, .int .u32 0, .int .u32 0] 100)) = w0 at *
  generalize hg2 : w.heap.size + 1 + 1 = g2 at *
  generalize hg1 : w.heap.size + 1 = g1 at *
  have HG1 := Lib.hid hg1; have hq1 : w.heap.size + 1 ≤ g1 := by omega
  have HG2 := Lib.hid hg2; have hq2 : w.heap.size + 2 ≤ g2 := by omega
  clear hg1 hg2
  have HW := Lib.hid (Below.refl w0.heap.size w0)
  have hz0 := HX0.out.lt; have hz1 := HX1.out.lt; have hz2 := HX2.out.lt
  have k0 := (HX0.out).cell 0 _ rfl
  have k1 := (HX0.out).cell 1 _ rfl
  go_wp2_with fail
  refine (isSweep_any r o w0 HR.out HO.out).mono ?_
  rintro e w1 ⟨rfl, hb1⟩
  have HW1 := Lib.hid (HWW.out.trans (hb1.mono HWW.out.size))
  have HA1 := Lib.hid (HX0.out.next hb1); have HB1 := Lib.hid (HX1.out.next hb1); have HC1 := Lib.hid (HX2.out.next hb1)
  clear k0 k1 hb1 HX0 HX1 HX2 HWW HW
  have y0 := (HB1.out).cell 0 _ rfl
  have y1 := (HB1.out).cell 1 _ rfl
  have y2 := (HB1.out).cell 2 _ rfl
  go_wp2_with fail
  refine (HPA.out w1).mono ?_
  rintro e w2 ⟨rfl, hb2⟩
  have HW2 := Lib.hid (HW1.out.trans (hb2.mono HW1.out.size))
  have HA2 := Lib.hid (HA1.out.next hb2); have HB2 := Lib.hid (HB1.out.next hb2); have HC2 := Lib.hid (HC1.out.next hb2)
  clear y0 y1 y2 hb2 HA1 HB1 HC1 HW1
  have y0 := (HB2.out).cell 0 _ rfl
  have y1 := (HB2.out).cell 1 _ rfl
  have y2 := (HB2.out).cell 2 _ rfl
  have f0 := HB2.out.fr 0; have f1 := HB2.out.fr 1; have f2 := HB2.out.fr 2
  go_upto_region 4 with fail
  have hle1 : w.heap.size ≤ g1 := by omega
  have hle2 : w.heap.size ≤ g2 := by omega
  have hne01 : w.heap.size ≠ g1 := by omega
  have hne12 : g1 ≠ g2 := by have := HG2.out; omega
  have hne02 : w.heap.size ≠ g2 := by omega
  have HB3 := Lib.hid (((HB2.out.set 0 (.int .u32 (q.1.toNat : Int))).set 1 (.int .u32 (q.2.1.toNat : Int))).set 2 (.int .u32 (q.2.2.toNat : Int)))
  have HA3 := Lib.hid (((HA2.out.other hne01 (i := 0) (.int .u32 (q.1.toNat : Int))).other hne01 (i := 1) (.int .u32 (q.2.1.toNat : Int))).other hne01 (i := 2) (.int .u32 (q.2.2.toNat : Int)))
  have HC3 := Lib.hid (((HC2.out.other (fun e => hne12 e.symm) (g := g1) (i := 0) (.int .u32 (q.1.toNat : Int))).other (fun e => hne12 e.symm) (g := g1) (i := 1) (.int .u32 (q.2.1.toNat : Int))).other (fun e => hne12 e.symm) (g := g1) (i := 2) (.int .u32 (q.2.2.toNat : Int)))
  have HW3 := Lib.hid (((HW2.out.setCell (p := ⟨g1, 0, none⟩) hle1 (.int .u32 (q.1.toNat : Int))).setCell (p := ⟨g1, 1, none⟩) hle1 (.int .u32 (q.2.1.toNat : Int))).setCell (p := ⟨g1, 2, none⟩) hle1 (.int .u32 (q.2.2.toNat : Int)))
  clear y0 y1 y2 f0 f1 f2 HA2 HB2 HC2 HW2
  generalize ((w2.setCell ⟨g1, 0, none⟩ (.int .u32 (q.1.toNat : Int))).setCell ⟨g1, 1, none⟩ (.int .u32 (q.2.1.toNat : Int))).setCell ⟨g1, 2, none⟩ (.int .u32 (q.2.2.toNat : Int)) = w3 at *
  have HB3' : Hid (Blk w3 g1 [.int .u32 (q.1.toNat : Int), .int .u32 (q.2.1.toNat : Int), .int .u32 (q.2.2.toNat : Int)]) := HB3
  clear HB3
  have k0 := (HA3.out).cell 0 _ rfl
  have k1 := (HA3.out).cell 1 _ rfl
  have y0 := (HB3'.out).cell 0 _ rfl
  have y1 := (HB3'.out).cell 1 _ rfl
  have y2 := (HB3'.out).cell 2 _ rfl
  go_wp2_with fail
  refine (HCA.out w3).mono ?_
  rintro e w4 ⟨rfl, hb4⟩
  have HW4 := Lib.hid (HW3.out.trans (hb4.mono HW3.out.size))
  have HA4 := Lib.hid (HA3.out.next hb4); have HB4 := Lib.hid (HB3'.out.next hb4); have HC4 := Lib.hid (HC3.out.next hb4)
  clear k0 k1 y0 y1 y2 hb4 HA3 HB3' HC3 HW3
  have k0 := (HA4.out).cell 0 _ rfl
  have k1 := (HA4.out).cell 1 _ rfl
  have f1 := HA4.out.fr 1
  go_upto_region 5 with fail
  have HA5 := Lib.hid (HA4.out.set 1 (.int .i64 c))
  have HB5 := Lib.hid (HB4.out.other (fun e => hne01 e.symm) (g := w.heap.size) (i := 1) (.int .i64 c))
  have HC5 := Lib.hid (HC4.out.other (fun e => hne02 e.symm) (g := w.heap.size) (i := 1) (.int .i64 c))
  have HW5 := Lib.hid (HW4.out.setCell (p := ⟨w.heap.size, 1, none⟩) (Nat.le_refl _) (.int .i64 c))
  clear k0 k1 f1 HA4 HB4 HC4 HW4
  generalize w4.setCell ⟨w.heap.size, 1, none⟩ (.int .i64 c) = w5 at *
  have HA5' : Hid (Blk w5 w.heap.size [.int .i64 r, .int .i64 c]) := HA5
  clear HA5
  have k0 := (HA5'.out).cell 0 _ rfl
  have k1 := (HA5'.out).cell 1 _ rfl
  have y0 := (HB5.out).cell 0 _ rfl
  have y1 := (HB5.out).cell 1 _ rfl
  have y2 := (HB5.out).cell 2 _ rfl
  go_wp2_with fail
  refine (HMA.out w5).mono ?_
  rintro e w6 ⟨rfl, hb6⟩
  have HW6 := Lib.hid (HW5.out.trans (hb6.mono HW5.out.size))
  have HC6 := Lib.hid (HC5.out.next hb6)
  clear k0 k1 y0 y1 y2 hb6 HA5' HB5 HC5 HW5
  have z0 := (HC6.out).cell 0 _ rfl
  have z1 := (HC6.out).cell 1 _ rfl
  have z2 := (HC6.out).cell 2 _ rfl
  have f0 := HC6.out.fr 0; have f1 := HC6.out.fr 1; have f2 := HC6.out.fr 2
  go_wp2_with fail
  have R3 := ((HC6.out.set 0 (.int .u32 (m.1.toNat : Int))).set 1 (.int .u32 (m.2.1.toNat : Int))).set 2 (.int .u32 (m.2.2.toNat : Int))
  have r0 := R3.cell 0 _ rfl; have r1 := R3.cell 1 _ rfl; have r2 := R3.cell 2 _ rfl
  exact bodyPost_ret (v := cvSt m) (by simp [results, Try.results82, go_sem, r0, r1, r2]) rfl ⟨rfl, ((HW6.out.setCell (p := ⟨g2, 0, none⟩) hle2 _).setCell (p := ⟨g2, 1, none⟩) hle2 _).setCell (p := ⟨g2, 2, none⟩) hle2 _⟩
end Rel
end Go.Proofs.Ytfmmiafdlfdfoaa
