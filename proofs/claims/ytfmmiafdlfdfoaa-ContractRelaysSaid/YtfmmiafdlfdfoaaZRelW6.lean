/- The walk over overlayref11's Next. Conditions: those of the theorem. -/
import Derived.Test.YtfmmiafdlfdfoaaZRelW5
namespace Go.Proofs.Ytfmmiafdlfdfoaa
namespace Rel
open Go.RowKit
theorem choose_shown (r : Int) (up down car A B : Bool) (near : Int) (hn : near = 0 ∨ near = 1 ∨ near = 2) : (chooseC r up down car A B near).2.2 = 0 ∨ (chooseC r up down car A B near).2.2 = 1 ∨ (chooseC r up down car A B near).2.2 = 2 := by
  unfold chooseC sweepC turnC openC moveC
  rcases hn with rfl | rfl | rfl <;> cases up <;> cases down <;> cases car <;> cases A <;> cases B <;> simp <;> (repeat' split) <;> simp
theorem or_o {o : Int} (h : 0 ≤ o ∧ o ≤ 7) : bits BinOp.or IntKind.i64 o 1 = orB o 0 ∧ bits BinOp.or IntKind.i64 o 2 = orB o 1 ∧ bits BinOp.or IntKind.i64 o 4 = orB o 2 := by
  obtain ⟨h1, h2⟩ := h
  have h : o = 0 ∨ o = 1 ∨ o = 2 ∨ o = 3 ∨ o = 4 ∨ o = 5 ∨ o = 6 ∨ o = 7 := by omega
  rcases h with rfl | rfl | rfl | rfl | rfl | rfl | rfl | rfl <;> decide
set_option maxHeartbeats 4000000 in
set_option maxRecDepth 100000 in
theorem nextS_any (n r o p : Int) (s : StV) (w : World) (hn : 2 ≤ n ∧ n ≤ 31) (hp : 0 ≤ p ∧ p < n) (hr : 0 ≤ r ∧ r ≤ 2) (ho : 0 ≤ o ∧ o ≤ 7) :
    Calls Try.prog 52 #[.int .i64 n, cvSw r o, .int .i64 p, cvSt s] w fun e w' => e = .returned (cvSw (nextV n r o p s).1 (nextV n r o p s).2) ∧ Below w.heap.size w w' := by
  have hgd : guardS n r o p = false := by unfold guardS; exact decide_eq_false (by omega)
  obtain ⟨q, hq⟩ : ∃ q, properV n s = q := ⟨_, rfl⟩
  obtain ⟨cc, hcc⟩ : ∃ cc, countV o p q = cc := ⟨_, rfl⟩
  have HPA : Hid (∀ W, Calls Try.prog 68 #[.int .i64 n, cvSt s] W fun e w' => e = .returned (cvSt q) ∧ Below W.heap.size W w') := Lib.hid fun W => by rw [← hq]; exact proper_any n s W ⟨by omega, hn.2⟩
  have HCO : Hid (∀ W, Calls Try.prog 73 #[cvSw r o, .int .i64 p, cvSt q] W fun e w' => e = .returned (.int .i64 cc) ∧ Below W.heap.size W w') := Lib.hid fun W => by rw [← hcc]; exact counted_any r o p q W ho (by omega)
  obtain ⟨x, hx⟩ : ∃ x, chooseV n r o p s = x := ⟨_, rfl⟩
  have HCH : Hid (∀ W, Calls Try.prog 51 #[.int .i64 n, cvSw r o, .int .i64 p, cvSt s] W fun e w' => e = .returned (cvC x) ∧ Below W.heap.size W w') := Lib.hid fun W => by rw [← hx]; exact choose_any n r o p s W hn hp hr ho
  have hx3 : x.2.2 = 0 ∨ x.2.2 = 1 ∨ x.2.2 = 2 := by
    rw [← hx]
    unfold chooseV
    rw [hgd]
    simp only [Bool.false_eq_true, if_false]
    exact choose_shown _ _ _ _ _ _ _ (near_ok _ _).1
  have HRS : Hid (nextV n r o p s = if x.1 = 3 then (x.2.1, orB cc x.2.2) else (x.2.1, 0)) := Lib.hid (by unfold nextV; rw [hgd, hx, hq, hcc]; simp)
  have hor := or_o (count_range (o := o) (p := p) (s := q) ho)
  rw [hcc] at hor
  obtain ⟨hor1, hor2, hor4⟩ := hor
  obtain ⟨res, hre⟩ : ∃ res, nextV n r o p s = res := ⟨_, rfl⟩
  rw [hre] at HRS ⊢
  clear hre hq hcc hx hgd
  have d1 : decide (n < 2) = false := decide_eq_false (by omega)
  have d2 : decide (32 < n) = false := decide_eq_false (by omega)
  have d3 : decide (p < 0) = false := decide_eq_false (by omega)
  have d4 : decide (n ≤ p) = false := decide_eq_false (by omega)
  have HR := Lib.hid hr; have HO := Lib.hid ho
  clear hn hp hr ho
  obtain ⟨x1, x2, x3⟩ := x
  simp only at hx3 HRS HCH
  have X0 : Blk (w.alloc (.cells #[.int .i64 r, .int .i64 o] 98)) w.heap.size [.int .i64 r, .int .i64 o] := by
    have hx := Blk.new w [.int .i64 r, .int .i64 o] 98
    exact hx
  replace X0 : Blk ((w.alloc (.cells #[.int .i64 r, .int .i64 o] 98)).alloc (.cells #[.int .u32 (s.1.toNat : Int), .int .u32 (s.2.1.toNat : Int), .int .u32 (s.2.2.toNat : Int)] 100)) w.heap.size [.int .i64 r, .int .i64 o] := X0.next (below1' _ _)
  replace X0 : Blk (((w.alloc (.cells #[.int .i64 r, .int .i64 o] 98)).alloc (.cells #[.int .u32 (s.1.toNat : Int), .int .u32 (s.2.1.toNat : Int), .int .u32 (s.2.2.toNat : Int)] 100)).alloc (.cells #[.int .i64 0, .int .i64 0] 98)) w.heap.size [.int .i64 r, .int .i64 o] := X0.next (below1' _ _)
  have X1 : Blk ((w.alloc (.cells #[.int .i64 r, .int .i64 o] 98)).alloc (.cells #[.int .u32 (s.1.toNat : Int), .int .u32 (s.2.1.toNat : Int), .int .u32 (s.2.2.toNat : Int)] 100)) (w.heap.size + 1) [.int .u32 (s.1.toNat : Int), .int .u32 (s.2.1.toNat : Int), .int .u32 (s.2.2.toNat : Int)] := by
    have hx := Blk.new (w.alloc (.cells #[.int .i64 r, .int .i64 o] 98)) [.int .u32 (s.1.toNat : Int), .int .u32 (s.2.1.toNat : Int), .int .u32 (s.2.2.toNat : Int)] 100
    rw [World.size_alloc] at hx
    exact hx
  replace X1 : Blk (((w.alloc (.cells #[.int .i64 r, .int .i64 o] 98)).alloc (.cells #[.int .u32 (s.1.toNat : Int), .int .u32 (s.2.1.toNat : Int), .int .u32 (s.2.2.toNat : Int)] 100)).alloc (.cells #[.int .i64 0, .int .i64 0] 98)) (w.heap.size + 1) [.int .u32 (s.1.toNat : Int), .int .u32 (s.2.1.toNat : Int), .int .u32 (s.2.2.toNat : Int)] := X1.next (below1' _ _)
  have X2 : Blk (((w.alloc (.cells #[.int .i64 r, .int .i64 o] 98)).alloc (.cells #[.int .u32 (s.1.toNat : Int), .int .u32 (s.2.1.toNat : Int), .int .u32 (s.2.2.toNat : Int)] 100)).alloc (.cells #[.int .i64 0, .int .i64 0] 98)) (w.heap.size + 1 + 1) [.int .i64 0, .int .i64 0] := by
    have hx := Blk.new ((w.alloc (.cells #[.int .i64 r, .int .i64 o] 98)).alloc (.cells #[.int .u32 (s.1.toNat : Int), .int .u32 (s.2.1.toNat : Int), .int .u32 (s.2.2.toNat : Int)] 100)) [.int .i64 0, .int .i64 0] 98
    rw [World.size_alloc, World.size_alloc] at hx
    exact hx
  have XW : Below w.heap.size w (w.alloc (.cells #[.int .i64 r, .int .i64 o] 98)) := below1' w _
  replace XW : Below w.heap.size w ((w.alloc (.cells #[.int .i64 r, .int .i64 o] 98)).alloc (.cells #[.int .u32 (s.1.toNat : Int), .int .u32 (s.2.1.toNat : Int), .int .u32 (s.2.2.toNat : Int)] 100)) := XW.trans ((below1' _ _).mono XW.size)
  replace XW : Below w.heap.size w (((w.alloc (.cells #[.int .i64 r, .int .i64 o] 98)).alloc (.cells #[.int .u32 (s.1.toNat : Int), .int .u32 (s.2.1.toNat : Int), .int .u32 (s.2.2.toNat : Int)] 100)).alloc (.cells #[.int .i64 0, .int .i64 0] 98)) := XW.trans ((below1' _ _).mono XW.size)
  have HWW := Lib.hid XW; have HX0 := Lib.hid X0; have HX1 := Lib.hid X1; have HX2 := Lib.hid X2
  clear XW X0 X1 X2
  go_enter Try.func52, Try.ntmps52
  go_upto_region 1 with fail
  generalize (((w.alloc (.cells #[.int .i64 r, .int .i64 o] 98)).alloc (.cells #[.int .u32 (s.1.toNat : Int), .int .u32 (s.2.1.toNat : Int), .int .u32 (s.2.2.toNat : Int)] 100)).alloc (.cells #[.int .i64 0, .int .i64 0] 98)) = w0 at *
  generalize hg2 : w.heap.size + 1 + 1 = g2 at *
  generalize hg1 : w.heap.size + 1 = g1 at *
  have HG1 := Lib.hid hg1; have hq1 : w.heap.size + 1 ≤ g1 := by omega
  have HG2 := Lib.hid hg2; have hq2 : w.heap.size + 2 ≤ g2 := by omega
  clear hg1 hg2
  have HW := Lib.hid (Below.refl w0.heap.size w0)
  have hz0 := HX0.out.lt; have hz1 := HX1.out.lt; have hz2 := HX2.out.lt
  have hg02 : w.heap.size ≤ g2 := by omega
  have k0 := (HX0.out).cell 0 _ rfl
  have k1 := (HX0.out).cell 1 _ rfl
  go_wp2_with fail
  refine (isSweep_any r o w0 HR.out HO.out).mono ?_
  rintro e w1 ⟨rfl, hb1⟩
  have HW1 := Lib.hid (HWW.out.trans (hb1.mono HWW.out.size))
  have HA1 := Lib.hid (HX0.out.next hb1); have HB1 := Lib.hid (HX1.out.next hb1); have HC1 := Lib.hid (HX2.out.next hb1)
  clear k0 k1 hb1 HX0 HX1 HX2 HWW HW hz0 hz1 hz2
  have k0 := (HA1.out).cell 0 _ rfl
  have k1 := (HA1.out).cell 1 _ rfl
  have y0 := (HB1.out).cell 0 _ rfl
  have y1 := (HB1.out).cell 1 _ rfl
  have y2 := (HB1.out).cell 2 _ rfl
  go_wp2_with fail
  refine (HCH.out w1).mono ?_
  rintro e w2 ⟨rfl, hb2⟩
  have HW2 := Lib.hid (HW1.out.trans (hb2.mono HW1.out.size))
  have HA2 := Lib.hid (HA1.out.next hb2); have HB2 := Lib.hid (HB1.out.next hb2); have HC2 := Lib.hid (HC1.out.next hb2)
  clear k0 k1 y0 y1 y2 hb2 HA1 HB1 HC1 HW1
  go_upto_region 4 with fail
  have BT := Blk.new w2 [.int .i64 x1, .int .i64 x2, .int .i64 x3] 102
  have hbt := below1' w2 (.cells #[.int .i64 x1, .int .i64 x2, .int .i64 x3] 102)
  change Blk (w2.alloc (.cells #[.int .i64 x1, .int .i64 x2, .int .i64 x3] 102)) _ _ at BT
  have HT := Lib.hid BT; have HA3 := Lib.hid (HA2.out.next hbt); have HB3 := Lib.hid (HB2.out.next hbt); have HC3 := Lib.hid (HC2.out.next hbt); have HW3 := Lib.hid (HW2.out.trans (hbt.mono HW2.out.size))
  clear BT hbt HA2 HB2 HC2 HW2
  generalize w2.alloc (.cells #[.int .i64 x1, .int .i64 x2, .int .i64 x3] 102) = w3 at *
  generalize w2.heap.size = gt at *
  by_cases h3 : x1 = 3
  rotate_left 1
  · have e3 : (x1 == 3) = false := by simpa using h3
    have HRES : Hid (res = (x2, 0)) := Lib.hid (by rw [HRS.out, if_neg h3])
    clear h3 HRS
    have z0 := (HT.out).cell 0 _ rfl
    have z1 := (HT.out).cell 1 _ rfl
    have z2 := (HT.out).cell 2 _ rfl
    have f0 := HC3.out.fr 0; have f1 := HC3.out.fr 1
    have j0 := HC3.out.cell 0 _ rfl; have j1 := HC3.out.cell 1 _ rfl
    go_wp2_with fail
    have R3 := (HC3.out.set 0 (.int .i64 x2)).set 1 (.int .i64 0)
    have r0 := R3.cell 0 _ rfl; have r1 := R3.cell 1 _ rfl
    exact bodyPost_ret (v := .agg #[.int .i64 x2, .int .i64 0]) (by simp [results, Try.results52, go_sem, r0, r1]) rfl ⟨by rw [HRES.out], (HW3.out.setCell (p := ⟨g2, 0, none⟩) hg02 _).setCell (p := ⟨g2, 1, none⟩) hg02 _⟩
  subst h3
  rcases hx3 with rfl | rfl | rfl
  · have HRES : Hid (res = (x2, orB cc 0)) := Lib.hid (by rw [HRS.out, if_pos rfl])
    clear HRS
    have z0 := (HT.out).cell 0 _ rfl
    have z1 := (HT.out).cell 1 _ rfl
    have z2 := (HT.out).cell 2 _ rfl
    go_upto_region 6 with fail
    clear z0 z1 z2
    have k0 := (HA3.out).reg 0 _ rfl
    have k1 := (HA3.out).reg 1 _ rfl
    have y0 := (HB3.out).reg 0 _ rfl
    have y1 := (HB3.out).reg 1 _ rfl
    have y2 := (HB3.out).reg 2 _ rfl
    have z0 := (HT.out).reg 0 _ rfl
    have z1 := (HT.out).reg 1 _ rfl
    have z2 := (HT.out).reg 2 _ rfl
    (refine Grow.wp_region_tail 14 Grow.noPlan Grow.noPlan_stable (by kernel_rfl) (by kernel_rfl) ?_; intro opsq Hopsq; simp only [List.take_succ_cons, List.take_zero, List.drop_succ_cons, List.drop_zero])
    repeat (first | (refine Grow.lex_move rfl ?_ rfl ?_; (· first | exact Grow.wanted_none | (rw [Hopsq.out]; rfl)); intro K hK; simp only [Grow.put_lit, Grow.setAt, Grow.eval_lit, Grow.ev]; refine hK _ _ ?_; clear hK K) | (refine Grow.lex_assign rfl ?_ rfl ?_; (· first | exact Grow.wanted_none | (rw [Hopsq.out]; rfl)); intro K hK; simp only [Grow.put_lit, Grow.setAt, Grow.eval_lit, Grow.ev]; refine hK _ _ ?_; clear hK K) | (refine Grow.lex_plain rfl rfl ?_ rfl ?_; (· first | exact Grow.wanted_none | (rw [Hopsq.out]; rfl)); apply Exists.intro; refine ⟨fun wq hCq _ => ?_, ?_⟩; (· (go_wp2_with fail; refine ⟨rfl, Below.refl _ _, ?_⟩; simp only [Grow.getD_lit, Grow.nth]; rfl)); intro K hK; simp only [Grow.put_lit, Grow.setAt]; refine hK _ _ ?_; clear hK K) | (refine Grow.lex_nilCheck rfl rfl ?_ rfl ?_; (· first | exact Grow.wanted_none | (rw [Hopsq.out]; rfl)); intro K hK; simp only [Grow.put_lit, Grow.setAt]; refine hK _ _ ?_; clear hK K) | (refine Grow.lex_skip ?_ ?_; (· (rw [Hopsq.out]; rfl)); intro K hK; simp only [Grow.put_lit, Grow.setAt]; refine hK _ _ ?_; clear hK K))
    (refine Grow.lex_call ?_ rfl ?_; (· first | exact Grow.wanted_none | (rw [Hopsq.out]; rfl)); apply Exists.intro; apply Exists.intro; refine ⟨fun wq => ?_, ?_⟩; (· (go_simp; exact ⟨rfl, rfl⟩)); apply Exists.intro; refine ⟨fun wq hCq hKq => ?_, ?_⟩; (· exact HPA.out _); intro K hK; simp only [Grow.put_lit, Grow.setAt]; refine hK _ _ ?_; clear hK K)
    repeat (first | (refine Grow.lex_move rfl ?_ rfl ?_; (· first | exact Grow.wanted_none | (rw [Hopsq.out]; rfl)); intro K hK; simp only [Grow.put_lit, Grow.setAt, Grow.eval_lit, Grow.ev]; refine hK _ _ ?_; clear hK K) | (refine Grow.lex_assign rfl ?_ rfl ?_; (· first | exact Grow.wanted_none | (rw [Hopsq.out]; rfl)); intro K hK; simp only [Grow.put_lit, Grow.setAt, Grow.eval_lit, Grow.ev]; refine hK _ _ ?_; clear hK K) | (refine Grow.lex_plain rfl rfl ?_ rfl ?_; (· first | exact Grow.wanted_none | (rw [Hopsq.out]; rfl)); apply Exists.intro; refine ⟨fun wq hCq _ => ?_, ?_⟩; (· (go_wp2_with fail; refine ⟨rfl, Below.refl _ _, ?_⟩; simp only [Grow.getD_lit, Grow.nth]; rfl)); intro K hK; simp only [Grow.put_lit, Grow.setAt]; refine hK _ _ ?_; clear hK K) | (refine Grow.lex_nilCheck rfl rfl ?_ rfl ?_; (· first | exact Grow.wanted_none | (rw [Hopsq.out]; rfl)); intro K hK; simp only [Grow.put_lit, Grow.setAt]; refine hK _ _ ?_; clear hK K) | (refine Grow.lex_skip ?_ ?_; (· (rw [Hopsq.out]; rfl)); intro K hK; simp only [Grow.put_lit, Grow.setAt]; refine hK _ _ ?_; clear hK K))
    (refine Grow.lex_call ?_ rfl ?_; (· first | exact Grow.wanted_none | (rw [Hopsq.out]; rfl)); apply Exists.intro; apply Exists.intro; refine ⟨fun wq => ?_, ?_⟩; (· (go_simp; exact ⟨rfl, rfl⟩)); apply Exists.intro; refine ⟨fun wq hCq hKq => ?_, ?_⟩; (· exact HCO.out _); intro K hK; simp only [Grow.put_lit, Grow.setAt]; refine hK _ _ ?_; clear hK K)
    repeat (first | (refine Grow.lex_move rfl ?_ rfl ?_; (· first | exact Grow.wanted_none | (rw [Hopsq.out]; rfl)); intro K hK; simp only [Grow.put_lit, Grow.setAt, Grow.eval_lit, Grow.ev]; refine hK _ _ ?_; clear hK K) | (refine Grow.lex_assign rfl ?_ rfl ?_; (· first | exact Grow.wanted_none | (rw [Hopsq.out]; rfl)); intro K hK; simp only [Grow.put_lit, Grow.setAt, Grow.eval_lit, Grow.ev]; refine hK _ _ ?_; clear hK K) | (refine Grow.lex_plain rfl rfl ?_ rfl ?_; (· first | exact Grow.wanted_none | (rw [Hopsq.out]; rfl)); apply Exists.intro; refine ⟨fun wq hCq _ => ?_, ?_⟩; (· (go_wp2_with fail; refine ⟨rfl, Below.refl _ _, ?_⟩; simp only [Grow.getD_lit, Grow.nth]; rfl)); intro K hK; simp only [Grow.put_lit, Grow.setAt]; refine hK _ _ ?_; clear hK K) | (refine Grow.lex_nilCheck rfl rfl ?_ rfl ?_; (· first | exact Grow.wanted_none | (rw [Hopsq.out]; rfl)); intro K hK; simp only [Grow.put_lit, Grow.setAt]; refine hK _ _ ?_; clear hK K) | (refine Grow.lex_skip ?_ ?_; (· (rw [Hopsq.out]; rfl)); intro K hK; simp only [Grow.put_lit, Grow.setAt]; refine hK _ _ ?_; clear hK K))
    (refine Grow.lex_nil ?_; intro w4 hb4 _; replace hb4 := Grow.Cl.base hb4; clear Hopsq opsq)
    have HC4 := Lib.hid (HC3.out.next hb4); have HW4 := Lib.hid (HW3.out.trans (hb4.mono HW3.out.size))
    clear hb4 k0 k1 y0 y1 y2 z0 z1 z2
    have f0 := HC4.out.fr 0; have f1 := HC4.out.fr 1
    have j0 := HC4.out.cell 0 _ rfl; have j1 := HC4.out.cell 1 _ rfl
    go_wp2_with fail
    have R3 := (HC4.out.set 0 (.int .i64 x2)).set 1 (.int .i64 (orB cc 0))
    have r0 := R3.cell 0 _ rfl; have r1 := R3.cell 1 _ rfl
    exact bodyPost_ret (v := .agg #[.int .i64 x2, .int .i64 (orB cc 0)]) (by simp [results, Try.results52, go_sem, r0, r1]) rfl ⟨by rw [HRES.out], (HW4.out.setCell (p := ⟨g2, 0, none⟩) hg02 _).setCell (p := ⟨g2, 1, none⟩) hg02 _⟩
  · have HRES : Hid (res = (x2, orB cc 1)) := Lib.hid (by rw [HRS.out, if_pos rfl])
    clear HRS
    have z0 := (HT.out).cell 0 _ rfl
    have z1 := (HT.out).cell 1 _ rfl
    have z2 := (HT.out).cell 2 _ rfl
    go_upto_region 6 with fail
    clear z0 z1 z2
    have k0 := (HA3.out).reg 0 _ rfl
    have k1 := (HA3.out).reg 1 _ rfl
    have y0 := (HB3.out).reg 0 _ rfl
    have y1 := (HB3.out).reg 1 _ rfl
    have y2 := (HB3.out).reg 2 _ rfl
    have z0 := (HT.out).reg 0 _ rfl
    have z1 := (HT.out).reg 1 _ rfl
    have z2 := (HT.out).reg 2 _ rfl
    (refine Grow.wp_region_tail 14 Grow.noPlan Grow.noPlan_stable (by kernel_rfl) (by kernel_rfl) ?_; intro opsq Hopsq; simp only [List.take_succ_cons, List.take_zero, List.drop_succ_cons, List.drop_zero])
    repeat (first | (refine Grow.lex_move rfl ?_ rfl ?_; (· first | exact Grow.wanted_none | (rw [Hopsq.out]; rfl)); intro K hK; simp only [Grow.put_lit, Grow.setAt, Grow.eval_lit, Grow.ev]; refine hK _ _ ?_; clear hK K) | (refine Grow.lex_assign rfl ?_ rfl ?_; (· first | exact Grow.wanted_none | (rw [Hopsq.out]; rfl)); intro K hK; simp only [Grow.put_lit, Grow.setAt, Grow.eval_lit, Grow.ev]; refine hK _ _ ?_; clear hK K) | (refine Grow.lex_plain rfl rfl ?_ rfl ?_; (· first | exact Grow.wanted_none | (rw [Hopsq.out]; rfl)); apply Exists.intro; refine ⟨fun wq hCq _ => ?_, ?_⟩; (· (go_wp2_with fail; refine ⟨rfl, Below.refl _ _, ?_⟩; simp only [Grow.getD_lit, Grow.nth]; rfl)); intro K hK; simp only [Grow.put_lit, Grow.setAt]; refine hK _ _ ?_; clear hK K) | (refine Grow.lex_nilCheck rfl rfl ?_ rfl ?_; (· first | exact Grow.wanted_none | (rw [Hopsq.out]; rfl)); intro K hK; simp only [Grow.put_lit, Grow.setAt]; refine hK _ _ ?_; clear hK K) | (refine Grow.lex_skip ?_ ?_; (· (rw [Hopsq.out]; rfl)); intro K hK; simp only [Grow.put_lit, Grow.setAt]; refine hK _ _ ?_; clear hK K))
    (refine Grow.lex_call ?_ rfl ?_; (· first | exact Grow.wanted_none | (rw [Hopsq.out]; rfl)); apply Exists.intro; apply Exists.intro; refine ⟨fun wq => ?_, ?_⟩; (· (go_simp; exact ⟨rfl, rfl⟩)); apply Exists.intro; refine ⟨fun wq hCq hKq => ?_, ?_⟩; (· exact HPA.out _); intro K hK; simp only [Grow.put_lit, Grow.setAt]; refine hK _ _ ?_; clear hK K)
    repeat (first | (refine Grow.lex_move rfl ?_ rfl ?_; (· first | exact Grow.wanted_none | (rw [Hopsq.out]; rfl)); intro K hK; simp only [Grow.put_lit, Grow.setAt, Grow.eval_lit, Grow.ev]; refine hK _ _ ?_; clear hK K) | (refine Grow.lex_assign rfl ?_ rfl ?_; (· first | exact Grow.wanted_none | (rw [Hopsq.out]; rfl)); intro K hK; simp only [Grow.put_lit, Grow.setAt, Grow.eval_lit, Grow.ev]; refine hK _ _ ?_; clear hK K) | (refine Grow.lex_plain rfl rfl ?_ rfl ?_; (· first | exact Grow.wanted_none | (rw [Hopsq.out]; rfl)); apply Exists.intro; refine ⟨fun wq hCq _ => ?_, ?_⟩; (· (go_wp2_with fail; refine ⟨rfl, Below.refl _ _, ?_⟩; simp only [Grow.getD_lit, Grow.nth]; rfl)); intro K hK; simp only [Grow.put_lit, Grow.setAt]; refine hK _ _ ?_; clear hK K) | (refine Grow.lex_nilCheck rfl rfl ?_ rfl ?_; (· first | exact Grow.wanted_none | (rw [Hopsq.out]; rfl)); intro K hK; simp only [Grow.put_lit, Grow.setAt]; refine hK _ _ ?_; clear hK K) | (refine Grow.lex_skip ?_ ?_; (· (rw [Hopsq.out]; rfl)); intro K hK; simp only [Grow.put_lit, Grow.setAt]; refine hK _ _ ?_; clear hK K))
    (refine Grow.lex_call ?_ rfl ?_; (· first | exact Grow.wanted_none | (rw [Hopsq.out]; rfl)); apply Exists.intro; apply Exists.intro; refine ⟨fun wq => ?_, ?_⟩; (· (go_simp; exact ⟨rfl, rfl⟩)); apply Exists.intro; refine ⟨fun wq hCq hKq => ?_, ?_⟩; (· exact HCO.out _); intro K hK; simp only [Grow.put_lit, Grow.setAt]; refine hK _ _ ?_; clear hK K)
    repeat (first | (refine Grow.lex_move rfl ?_ rfl ?_; (· first | exact Grow.wanted_none | (rw [Hopsq.out]; rfl)); intro K hK; simp only [Grow.put_lit, Grow.setAt, Grow.eval_lit, Grow.ev]; refine hK _ _ ?_; clear hK K) | (refine Grow.lex_assign rfl ?_ rfl ?_; (· first | exact Grow.wanted_none | (rw [Hopsq.out]; rfl)); intro K hK; simp only [Grow.put_lit, Grow.setAt, Grow.eval_lit, Grow.ev]; refine hK _ _ ?_; clear hK K) | (refine Grow.lex_plain rfl rfl ?_ rfl ?_; (· first | exact Grow.wanted_none | (rw [Hopsq.out]; rfl)); apply Exists.intro; refine ⟨fun wq hCq _ => ?_, ?_⟩; (· (go_wp2_with fail; refine ⟨rfl, Below.refl _ _, ?_⟩; simp only [Grow.getD_lit, Grow.nth]; rfl)); intro K hK; simp only [Grow.put_lit, Grow.setAt]; refine hK _ _ ?_; clear hK K) | (refine Grow.lex_nilCheck rfl rfl ?_ rfl ?_; (· first | exact Grow.wanted_none | (rw [Hopsq.out]; rfl)); intro K hK; simp only [Grow.put_lit, Grow.setAt]; refine hK _ _ ?_; clear hK K) | (refine Grow.lex_skip ?_ ?_; (· (rw [Hopsq.out]; rfl)); intro K hK; simp only [Grow.put_lit, Grow.setAt]; refine hK _ _ ?_; clear hK K))
    (refine Grow.lex_nil ?_; intro w4 hb4 _; replace hb4 := Grow.Cl.base hb4; clear Hopsq opsq)
    have HC4 := Lib.hid (HC3.out.next hb4); have HW4 := Lib.hid (HW3.out.trans (hb4.mono HW3.out.size))
    clear hb4 k0 k1 y0 y1 y2 z0 z1 z2
    have f0 := HC4.out.fr 0; have f1 := HC4.out.fr 1
    have j0 := HC4.out.cell 0 _ rfl; have j1 := HC4.out.cell 1 _ rfl
    go_wp2_with fail
    have R3 := (HC4.out.set 0 (.int .i64 x2)).set 1 (.int .i64 (orB cc 1))
    have r0 := R3.cell 0 _ rfl; have r1 := R3.cell 1 _ rfl
    exact bodyPost_ret (v := .agg #[.int .i64 x2, .int .i64 (orB cc 1)]) (by simp [results, Try.results52, go_sem, r0, r1]) rfl ⟨by rw [HRES.out], (HW4.out.setCell (p := ⟨g2, 0, none⟩) hg02 _).setCell (p := ⟨g2, 1, none⟩) hg02 _⟩
  · have HRES : Hid (res = (x2, orB cc 2)) := Lib.hid (by rw [HRS.out, if_pos rfl])
    clear HRS
    have z0 := (HT.out).cell 0 _ rfl
    have z1 := (HT.out).cell 1 _ rfl
    have z2 := (HT.out).cell 2 _ rfl
    go_upto_region 6 with fail
    clear z0 z1 z2
    have k0 := (HA3.out).reg 0 _ rfl
    have k1 := (HA3.out).reg 1 _ rfl
    have y0 := (HB3.out).reg 0 _ rfl
    have y1 := (HB3.out).reg 1 _ rfl
    have y2 := (HB3.out).reg 2 _ rfl
    have z0 := (HT.out).reg 0 _ rfl
    have z1 := (HT.out).reg 1 _ rfl
    have z2 := (HT.out).reg 2 _ rfl
    (refine Grow.wp_region_tail 14 Grow.noPlan Grow.noPlan_stable (by kernel_rfl) (by kernel_rfl) ?_; intro opsq Hopsq; simp only [List.take_succ_cons, List.take_zero, List.drop_succ_cons, List.drop_zero])
    repeat (first | (refine Grow.lex_move rfl ?_ rfl ?_; (· first | exact Grow.wanted_none | (rw [Hopsq.out]; rfl)); intro K hK; simp only [Grow.put_lit, Grow.setAt, Grow.eval_lit, Grow.ev]; refine hK _ _ ?_; clear hK K) | (refine Grow.lex_assign rfl ?_ rfl ?_; (· first | exact Grow.wanted_none | (rw [Hopsq.out]; rfl)); intro K hK; simp only [Grow.put_lit, Grow.setAt, Grow.eval_lit, Grow.ev]; refine hK _ _ ?_; clear hK K) | (refine Grow.lex_plain rfl rfl ?_ rfl ?_; (· first | exact Grow.wanted_none | (rw [Hopsq.out]; rfl)); apply Exists.intro; refine ⟨fun wq hCq _ => ?_, ?_⟩; (· (go_wp2_with fail; refine ⟨rfl, Below.refl _ _, ?_⟩; simp only [Grow.getD_lit, Grow.nth]; rfl)); intro K hK; simp only [Grow.put_lit, Grow.setAt]; refine hK _ _ ?_; clear hK K) | (refine Grow.lex_nilCheck rfl rfl ?_ rfl ?_; (· first | exact Grow.wanted_none | (rw [Hopsq.out]; rfl)); intro K hK; simp only [Grow.put_lit, Grow.setAt]; refine hK _ _ ?_; clear hK K) | (refine Grow.lex_skip ?_ ?_; (· (rw [Hopsq.out]; rfl)); intro K hK; simp only [Grow.put_lit, Grow.setAt]; refine hK _ _ ?_; clear hK K))
    (refine Grow.lex_call ?_ rfl ?_; (· first | exact Grow.wanted_none | (rw [Hopsq.out]; rfl)); apply Exists.intro; apply Exists.intro; refine ⟨fun wq => ?_, ?_⟩; (· (go_simp; exact ⟨rfl, rfl⟩)); apply Exists.intro; refine ⟨fun wq hCq hKq => ?_, ?_⟩; (· exact HPA.out _); intro K hK; simp only [Grow.put_lit, Grow.setAt]; refine hK _ _ ?_; clear hK K)
    repeat (first | (refine Grow.lex_move rfl ?_ rfl ?_; (· first | exact Grow.wanted_none | (rw [Hopsq.out]; rfl)); intro K hK; simp only [Grow.put_lit, Grow.setAt, Grow.eval_lit, Grow.ev]; refine hK _ _ ?_; clear hK K) | (refine Grow.lex_assign rfl ?_ rfl ?_; (· first | exact Grow.wanted_none | (rw [Hopsq.out]; rfl)); intro K hK; simp only [Grow.put_lit, Grow.setAt, Grow.eval_lit, Grow.ev]; refine hK _ _ ?_; clear hK K) | (refine Grow.lex_plain rfl rfl ?_ rfl ?_; (· first | exact Grow.wanted_none | (rw [Hopsq.out]; rfl)); apply Exists.intro; refine ⟨fun wq hCq _ => ?_, ?_⟩; (· (go_wp2_with fail; refine ⟨rfl, Below.refl _ _, ?_⟩; simp only [Grow.getD_lit, Grow.nth]; rfl)); intro K hK; simp only [Grow.put_lit, Grow.setAt]; refine hK _ _ ?_; clear hK K) | (refine Grow.lex_nilCheck rfl rfl ?_ rfl ?_; (· first | exact Grow.wanted_none | (rw [Hopsq.out]; rfl)); intro K hK; simp only [Grow.put_lit, Grow.setAt]; refine hK _ _ ?_; clear hK K) | (refine Grow.lex_skip ?_ ?_; (· (rw [Hopsq.out]; rfl)); intro K hK; simp only [Grow.put_lit, Grow.setAt]; refine hK _ _ ?_; clear hK K))
    (refine Grow.lex_call ?_ rfl ?_; (· first | exact Grow.wanted_none | (rw [Hopsq.out]; rfl)); apply Exists.intro; apply Exists.intro; refine ⟨fun wq => ?_, ?_⟩; (· (go_simp; exact ⟨rfl, rfl⟩)); apply Exists.intro; refine ⟨fun wq hCq hKq => ?_, ?_⟩; (· exact HCO.out _); intro K hK; simp only [Grow.put_lit, Grow.setAt]; refine hK _ _ ?_; clear hK K)
    repeat (first | (refine Grow.lex_move rfl ?_ rfl ?_; (· first | exact Grow.wanted_none | (rw [Hopsq.out]; rfl)); intro K hK; simp only [Grow.put_lit, Grow.setAt, Grow.eval_lit, Grow.ev]; refine hK _ _ ?_; clear hK K) | (refine Grow.lex_assign rfl ?_ rfl ?_; (· first | exact Grow.wanted_none | (rw [Hopsq.out]; rfl)); intro K hK; simp only [Grow.put_lit, Grow.setAt, Grow.eval_lit, Grow.ev]; refine hK _ _ ?_; clear hK K) | (refine Grow.lex_plain rfl rfl ?_ rfl ?_; (· first | exact Grow.wanted_none | (rw [Hopsq.out]; rfl)); apply Exists.intro; refine ⟨fun wq hCq _ => ?_, ?_⟩; (· (go_wp2_with fail; refine ⟨rfl, Below.refl _ _, ?_⟩; simp only [Grow.getD_lit, Grow.nth]; rfl)); intro K hK; simp only [Grow.put_lit, Grow.setAt]; refine hK _ _ ?_; clear hK K) | (refine Grow.lex_nilCheck rfl rfl ?_ rfl ?_; (· first | exact Grow.wanted_none | (rw [Hopsq.out]; rfl)); intro K hK; simp only [Grow.put_lit, Grow.setAt]; refine hK _ _ ?_; clear hK K) | (refine Grow.lex_skip ?_ ?_; (· (rw [Hopsq.out]; rfl)); intro K hK; simp only [Grow.put_lit, Grow.setAt]; refine hK _ _ ?_; clear hK K))
    (refine Grow.lex_nil ?_; intro w4 hb4 _; replace hb4 := Grow.Cl.base hb4; clear Hopsq opsq)
    have HC4 := Lib.hid (HC3.out.next hb4); have HW4 := Lib.hid (HW3.out.trans (hb4.mono HW3.out.size))
    clear hb4 k0 k1 y0 y1 y2 z0 z1 z2
    have f0 := HC4.out.fr 0; have f1 := HC4.out.fr 1
    have j0 := HC4.out.cell 0 _ rfl; have j1 := HC4.out.cell 1 _ rfl
    go_wp2_with fail
    have R3 := (HC4.out.set 0 (.int .i64 x2)).set 1 (.int .i64 (orB cc 2))
    have r0 := R3.cell 0 _ rfl; have r1 := R3.cell 1 _ rfl
    exact bodyPost_ret (v := .agg #[.int .i64 x2, .int .i64 (orB cc 2)]) (by simp [results, Try.results52, go_sem, r0, r1]) rfl ⟨by rw [HRES.out], (HW4.out.setCell (p := ⟨g2, 0, none⟩) hg02 _).setCell (p := ⟨g2, 1, none⟩) hg02 _⟩
end Rel
end Go.Proofs.Ytfmmiafdlfdfoaa
