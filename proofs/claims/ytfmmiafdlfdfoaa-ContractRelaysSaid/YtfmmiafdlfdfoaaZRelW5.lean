/- The walks over overlayref11's Choose and Next. Conditions: those of each theorem. -/
import Derived.Test.YtfmmiafdlfdfoaaZRelW4
namespace Go.Proofs.Ytfmmiafdlfdfoaa
namespace Rel
open Go.RowKit
theorem low3 {n : Nat} {w w' : World} {g : Nat} (h : Below n w w') (hg : n ≤ g) (a b c : Value) : Below n w (((w'.setCell ⟨g, 0, none⟩ a).setCell ⟨g, 1, none⟩ b).setCell ⟨g, 2, none⟩ c) :=
  ((h.setCell (p := ⟨g, 0, none⟩) hg a).setCell (p := ⟨g, 1, none⟩) hg b).setCell (p := ⟨g, 2, none⟩) hg c
set_option maxHeartbeats 4000000 in
set_option maxRecDepth 100000 in
theorem choose_any (n r o p : Int) (s : StV) (w : World) (hn : 2 ≤ n ∧ n ≤ 31) (hp : 0 ≤ p ∧ p < n) (hr : 0 ≤ r ∧ r ≤ 2) (ho : 0 ≤ o ∧ o ≤ 7) :
    Calls Try.prog 51 #[.int .i64 n, cvSw r o, .int .i64 p, cvSt s] w fun e w' => e = .returned (cvC (chooseV n r o p s)) ∧ Below w.heap.size w w' := by
  have hgd : guardS n r o p = false := by unfold guardS; exact decide_eq_false (by omega)
  obtain ⟨q, hq⟩ : ∃ q, properV n s = q := ⟨_, rfl⟩
  obtain ⟨x, hx⟩ : ∃ x, spentV n r o p q = x := ⟨_, rfl⟩
  have HPA : Hid (∀ W, Calls Try.prog 68 #[.int .i64 n, cvSt s] W fun e w' => e = .returned (cvSt q) ∧ Below W.heap.size W w') := Lib.hid fun W => by rw [← hq]; exact proper_any n s W ⟨by omega, hn.2⟩
  obtain ⟨u, hu⟩ : ∃ u, has (liveV q x).2 p 1 = u := ⟨_, rfl⟩
  obtain ⟨d, hd⟩ : ∃ d, has (liveV q x).2 p 2 = d := ⟨_, rfl⟩
  obtain ⟨c, hc⟩ : ∃ c, (liveV q x).1.getLsbD p.toNat = c := ⟨_, rfl⟩
  obtain ⟨A, hA⟩ : ∃ A, (aboveV q p).1 = A := ⟨_, rfl⟩
  obtain ⟨B, hB⟩ : ∃ B, (belowV q p).1 = B := ⟨_, rfl⟩
  obtain ⟨nr, hnr⟩ : ∃ nr, nearV (aboveV q p) (belowV q p) = nr := ⟨_, rfl⟩
  have HLO : Hid (∀ W, Calls Try.prog 67 #[.int .i64 n, cvSw r o, .int .i64 p, cvSt q] W fun e w' => e = .returned (.agg #[.bool u, .bool d, .bool c, .bool A, .bool B, .int .i64 nr]) ∧ Below W.heap.size W w') := Lib.hid fun W => by
    have h := look_any n r o p q W hn hp hr ho
    rw [hx, hu, hd, hc, hA, hB, hnr] at h
    exact h
  have hres : chooseV n r o p s = chooseC r u d c A B nr := by
    unfold chooseV
    rw [hgd, hq]
    simp only [Bool.false_eq_true, if_false]
    unfold lookC
    rw [hx, hu, hd, hc, hA, hB, hnr]
  obtain ⟨res, hre⟩ : ∃ res, chooseV n r o p s = res := ⟨_, rfl⟩
  rw [hre] at hres ⊢
  have HRS := Lib.hid hres
  clear hres hre hq hx hu hd hc hA hB hnr hgd
  have d1 : decide (n < 2) = false := decide_eq_false (by omega)
  have d2 : decide (32 < n) = false := decide_eq_false (by omega)
  have d3 : decide (p < 0) = false := decide_eq_false (by omega)
  have d4 : decide (n ≤ p) = false := decide_eq_false (by omega)
  have HR := Lib.hid hr; have HO := Lib.hid ho
  clear hn hp hr ho
  have X0 : Blk (w.alloc (.cells #[.int .i64 r, .int .i64 o] 98)) w.heap.size [.int .i64 r, .int .i64 o] := by
    have hx := Blk.new w [.int .i64 r, .int .i64 o] 98
    exact hx
  replace X0 : Blk ((w.alloc (.cells #[.int .i64 r, .int .i64 o] 98)).alloc (.cells #[.int .u32 (s.1.toNat : Int), .int .u32 (s.2.1.toNat : Int), .int .u32 (s.2.2.toNat : Int)] 100)) w.heap.size [.int .i64 r, .int .i64 o] := X0.next (below1' _ _)
  replace X0 : Blk (((w.alloc (.cells #[.int .i64 r, .int .i64 o] 98)).alloc (.cells #[.int .u32 (s.1.toNat : Int), .int .u32 (s.2.1.toNat : Int), .int .u32 (s.2.2.toNat : Int)] 100)).alloc (.cells #[.int .i64 0, .int .i64 0, .int .i64 0] 102)) w.heap.size [.int .i64 r, .int .i64 o] := X0.next (below1' _ _)
  have X1 : Blk ((w.alloc (.cells #[.int .i64 r, .int .i64 o] 98)).alloc (.cells #[.int .u32 (s.1.toNat : Int), .int .u32 (s.2.1.toNat : Int), .int .u32 (s.2.2.toNat : Int)] 100)) (w.heap.size + 1) [.int .u32 (s.1.toNat : Int), .int .u32 (s.2.1.toNat : Int), .int .u32 (s.2.2.toNat : Int)] := by
    have hx := Blk.new (w.alloc (.cells #[.int .i64 r, .int .i64 o] 98)) [.int .u32 (s.1.toNat : Int), .int .u32 (s.2.1.toNat : Int), .int .u32 (s.2.2.toNat : Int)] 100
    rw [World.size_alloc] at hx
    exact hx
  replace X1 : Blk (((w.alloc (.cells #[.int .i64 r, .int .i64 o] 98)).alloc (.cells #[.int .u32 (s.1.toNat : Int), .int .u32 (s.2.1.toNat : Int), .int .u32 (s.2.2.toNat : Int)] 100)).alloc (.cells #[.int .i64 0, .int .i64 0, .int .i64 0] 102)) (w.heap.size + 1) [.int .u32 (s.1.toNat : Int), .int .u32 (s.2.1.toNat : Int), .int .u32 (s.2.2.toNat : Int)] := X1.next (below1' _ _)
  have X2 : Blk (((w.alloc (.cells #[.int .i64 r, .int .i64 o] 98)).alloc (.cells #[.int .u32 (s.1.toNat : Int), .int .u32 (s.2.1.toNat : Int), .int .u32 (s.2.2.toNat : Int)] 100)).alloc (.cells #[.int .i64 0, .int .i64 0, .int .i64 0] 102)) (w.heap.size + 1 + 1) [.int .i64 0, .int .i64 0, .int .i64 0] := by
    have hx := Blk.new ((w.alloc (.cells #[.int .i64 r, .int .i64 o] 98)).alloc (.cells #[.int .u32 (s.1.toNat : Int), .int .u32 (s.2.1.toNat : Int), .int .u32 (s.2.2.toNat : Int)] 100)) [.int .i64 0, .int .i64 0, .int .i64 0] 102
    rw [World.size_alloc, World.size_alloc] at hx
    exact hx
  have XW : Below w.heap.size w (w.alloc (.cells #[.int .i64 r, .int .i64 o] 98)) := below1' w _
  replace XW : Below w.heap.size w ((w.alloc (.cells #[.int .i64 r, .int .i64 o] 98)).alloc (.cells #[.int .u32 (s.1.toNat : Int), .int .u32 (s.2.1.toNat : Int), .int .u32 (s.2.2.toNat : Int)] 100)) := XW.trans ((below1' _ _).mono XW.size)
  replace XW : Below w.heap.size w (((w.alloc (.cells #[.int .i64 r, .int .i64 o] 98)).alloc (.cells #[.int .u32 (s.1.toNat : Int), .int .u32 (s.2.1.toNat : Int), .int .u32 (s.2.2.toNat : Int)] 100)).alloc (.cells #[.int .i64 0, .int .i64 0, .int .i64 0] 102)) := XW.trans ((below1' _ _).mono XW.size)
  have HWW := Lib.hid XW; have HX0 := Lib.hid X0; have HX1 := Lib.hid X1; have HX2 := Lib.hid X2
  clear XW X0 X1 X2
  go_enter Try.func51, Try.ntmps51
  go_upto_region 1 with fail
  generalize (((w.alloc (.cells #[.int .i64 r, .int .i64 o] 98)).alloc (.cells #[.int .u32 (s.1.toNat : Int), .int .u32 (s.2.1.toNat : Int), .int .u32 (s.2.2.toNat : Int)] 100)).alloc (.cells #[.int .i64 0, .int .i64 0, .int .i64 0] 102)) = w0 at *
  generalize hg2 : w.heap.size + 1 + 1 = g2 at *
  generalize hg1 : w.heap.size + 1 = g1 at *
  have HG1 := Lib.hid hg1; have hq1 : w.heap.size + 1 ≤ g1 := by omega
  have HG2 := Lib.hid hg2; have hq2 : w.heap.size + 2 ≤ g2 := by omega
  clear hg1 hg2
  have HW := Lib.hid (Below.refl w0.heap.size w0)
  have hz0 := HX0.out.lt; have hz1 := HX1.out.lt; have hz2 := HX2.out.lt
  have hg02 : w.heap.size ≤ g2 := by omega
  have k0 := (HX0.out).cell 0 _ rfl
  have k1 := (HX0.out).cell 1 _ rfl
  go_wp2_with fail
  refine (isSweep_any r o w0 HR.out HO.out).mono ?_
  rintro e w1 ⟨rfl, hb1⟩
  have HW1 := Lib.hid (HWW.out.trans (hb1.mono HWW.out.size))
  have HA1 := Lib.hid (HX0.out.next hb1); have HB1 := Lib.hid (HX1.out.next hb1); have HC1 := Lib.hid (HX2.out.next hb1)
  clear k0 k1 hb1 HX0 HX1 HX2 HWW HW hz0 hz1 hz2
  go_upto_region 3 with fail
  have k0 := (HA1.out).reg 0 _ rfl
  have k1 := (HA1.out).reg 1 _ rfl
  have y0 := (HB1.out).reg 0 _ rfl
  have y1 := (HB1.out).reg 1 _ rfl
  have y2 := (HB1.out).reg 2 _ rfl
  have hlo : w1.heap.size ≤ w1.drew.heap.size := Nat.le_refl _
  refine Grow.wp_region_tail 8 (mkPlan 7 ptrS w1.heap.size [.bool false, .bool false, .bool false, .bool false, .bool false, .int .i64 0]) (mkPlan_stable _ _ _ _) (by kernel_rfl) (by kernel_rfl) ?_
  intro opsq Hopsq
  simp only [List.take_succ_cons, List.take_zero, List.drop_succ_cons, List.drop_zero]
  repeat (first | (refine Grow.lex_move rfl ?_ rfl ?_; (· first | exact Grow.wanted_none | (rw [Hopsq.out]; rfl)); intro K hK; simp only [Grow.put_lit, Grow.setAt, Grow.eval_lit, Grow.ev]; refine hK _ _ ?_; clear hK K) | (refine Grow.lex_assign rfl ?_ rfl ?_; (· first | exact Grow.wanted_none | (rw [Hopsq.out]; rfl)); intro K hK; simp only [Grow.put_lit, Grow.setAt, Grow.eval_lit, Grow.ev]; refine hK _ _ ?_; clear hK K) | (refine Grow.lex_plain rfl rfl ?_ rfl ?_; (· first | exact Grow.wanted_none | (rw [Hopsq.out]; rfl)); apply Exists.intro; refine ⟨fun wq hCq _ => ?_, ?_⟩; (· (go_wp2_with fail; refine ⟨rfl, Below.refl _ _, ?_⟩; simp only [Grow.getD_lit, Grow.nth]; rfl)); intro K hK; simp only [Grow.put_lit, Grow.setAt]; refine hK _ _ ?_; clear hK K) | (refine Grow.lex_nilCheck rfl rfl ?_ rfl ?_; (· first | exact Grow.wanted_none | (rw [Hopsq.out]; rfl)); intro K hK; simp only [Grow.put_lit, Grow.setAt]; refine hK _ _ ?_; clear hK K) | (refine Grow.lex_skip ?_ ?_; (· (rw [Hopsq.out]; rfl)); intro K hK; simp only [Grow.put_lit, Grow.setAt]; refine hK _ _ ?_; clear hK K))
  (refine Grow.lex_call ?_ rfl ?_; (· first | exact Grow.wanted_none | (rw [Hopsq.out]; rfl)); apply Exists.intro; apply Exists.intro; refine ⟨fun wq => ?_, ?_⟩; (· (go_simp; exact ⟨rfl, rfl⟩)); apply Exists.intro; refine ⟨fun wq hCq hKq => ?_, ?_⟩; (· exact HPA.out _); intro K hK; simp only [Grow.put_lit, Grow.setAt]; refine hK _ _ ?_; clear hK K)
  repeat (first | (refine Grow.lex_move rfl ?_ rfl ?_; (· first | exact Grow.wanted_none | (rw [Hopsq.out]; rfl)); intro K hK; simp only [Grow.put_lit, Grow.setAt, Grow.eval_lit, Grow.ev]; refine hK _ _ ?_; clear hK K) | (refine Grow.lex_assign rfl ?_ rfl ?_; (· first | exact Grow.wanted_none | (rw [Hopsq.out]; rfl)); intro K hK; simp only [Grow.put_lit, Grow.setAt, Grow.eval_lit, Grow.ev]; refine hK _ _ ?_; clear hK K) | (refine Grow.lex_plain rfl rfl ?_ rfl ?_; (· first | exact Grow.wanted_none | (rw [Hopsq.out]; rfl)); apply Exists.intro; refine ⟨fun wq hCq _ => ?_, ?_⟩; (· (go_wp2_with fail; refine ⟨rfl, Below.refl _ _, ?_⟩; simp only [Grow.getD_lit, Grow.nth]; rfl)); intro K hK; simp only [Grow.put_lit, Grow.setAt]; refine hK _ _ ?_; clear hK K) | (refine Grow.lex_nilCheck rfl rfl ?_ rfl ?_; (· first | exact Grow.wanted_none | (rw [Hopsq.out]; rfl)); intro K hK; simp only [Grow.put_lit, Grow.setAt]; refine hK _ _ ?_; clear hK K) | (refine Grow.lex_skip ?_ ?_; (· (rw [Hopsq.out]; rfl)); intro K hK; simp only [Grow.put_lit, Grow.setAt]; refine hK _ _ ?_; clear hK K))
  (refine Grow.lex_call ?_ rfl ?_; (· first | exact Grow.wanted_none | (rw [Hopsq.out]; rfl)); apply Exists.intro; apply Exists.intro; refine ⟨fun wq => ?_, ?_⟩; (· (go_simp; exact ⟨rfl, rfl⟩)); apply Exists.intro; refine ⟨fun wq hCq hKq => ?_, ?_⟩; (· exact HLO.out _); intro K hK; simp only [Grow.put_lit, Grow.setAt]; refine hK _ _ ?_; clear hK K)
  repeat (first | (refine Grow.lex_move rfl ?_ rfl ?_; (· first | exact Grow.wanted_none | (rw [Hopsq.out]; rfl)); intro K hK; simp only [Grow.put_lit, Grow.setAt, Grow.eval_lit, Grow.ev]; refine hK _ _ ?_; clear hK K) | (refine Grow.lex_assign rfl ?_ rfl ?_; (· first | exact Grow.wanted_none | (rw [Hopsq.out]; rfl)); intro K hK; simp only [Grow.put_lit, Grow.setAt, Grow.eval_lit, Grow.ev]; refine hK _ _ ?_; clear hK K) | (refine Grow.lex_plain rfl rfl ?_ rfl ?_; (· first | exact Grow.wanted_none | (rw [Hopsq.out]; rfl)); apply Exists.intro; refine ⟨fun wq hCq _ => ?_, ?_⟩; (· (go_wp2_with fail; refine ⟨rfl, Below.refl _ _, ?_⟩; simp only [Grow.getD_lit, Grow.nth]; rfl)); intro K hK; simp only [Grow.put_lit, Grow.setAt]; refine hK _ _ ?_; clear hK K) | (refine Grow.lex_nilCheck rfl rfl ?_ rfl ?_; (· first | exact Grow.wanted_none | (rw [Hopsq.out]; rfl)); intro K hK; simp only [Grow.put_lit, Grow.setAt]; refine hK _ _ ?_; clear hK K) | (refine Grow.lex_skip ?_ ?_; (· (rw [Hopsq.out]; rfl)); intro K hK; simp only [Grow.put_lit, Grow.setAt]; refine hK _ _ ?_; clear hK K))
  refine lex_mk 7 ptrS w1.heap.size [.bool false, .bool false, .bool false, .bool false, .bool false, .int .i64 0] 116 ?_ (fun wq => ?_) hlo ?_
  · first | exact Grow.wanted_none | (rw [Hopsq.out]; rfl)
  · go_simp
    first | rfl | exact ⟨rfl, rfl⟩
  intro gs hgs
  simp only [Grow.put_lit, Grow.setAt]
  refine Grow.lex_nil ?_
  intro w3 hb3 hTq
  have BS := mk_blk ptrS_inj hTq
  clear hTq
  replace hb3 := Grow.Cl.base hb3
  clear Hopsq opsq y0 y1 y2 k0 k1 hlo
  have HA3 := Lib.hid (HA1.out.next hb3); have HC3 := Lib.hid (HC1.out.next hb3); have HW3 := Lib.hid (HW1.out.trans (hb3.mono HW1.out.size))
  have hgsw : w.heap.size ≤ gs := Nat.le_trans HW1.out.size hgs
  have hgsA : w.heap.size ≠ gs := by have := HA1.out.lt; omega
  have hgsC : g2 ≠ gs := by have := HC1.out.lt; omega
  have HS3 := Lib.hid BS
  clear BS hb3 HA1 HB1 HC1 HW1
  have z0 := (HS3.out).cell 0 _ rfl
  have z1 := (HS3.out).cell 1 _ rfl
  have z2 := (HS3.out).cell 2 _ rfl
  have z3 := (HS3.out).cell 3 _ rfl
  have z4 := (HS3.out).cell 4 _ rfl
  have z5 := (HS3.out).cell 5 _ rfl
  have f0 := HS3.out.fr 0; have f1 := HS3.out.fr 1; have f2 := HS3.out.fr 2; have f3 := HS3.out.fr 3; have f4 := HS3.out.fr 4; have f5 := HS3.out.fr 5
  unfold ptrS
  go_upto_region 4 with fail
  have HS4 := Lib.hid (set6 HS3.out (.bool u) (.bool d) (.bool c) (.bool A) (.bool B) (.int .i64 nr))
  have HA4 := Lib.hid (keep6 HA3.out hgsA (.bool u) (.bool d) (.bool c) (.bool A) (.bool B) (.int .i64 nr))
  have HC := Lib.hid (keep6 HC3.out hgsC (.bool u) (.bool d) (.bool c) (.bool A) (.bool B) (.int .i64 nr))
  have HW4 := Lib.hid (low6 HW3.out hgsw (.bool u) (.bool d) (.bool c) (.bool A) (.bool B) (.int .i64 nr))
  clear z0 z1 z2 z3 z4 z5 f0 f1 f2 f3 f4 f5 HS3 HA3 HC3 HW3
  generalize (((((w3.setCell ⟨gs, 0, none⟩ (.bool u)).setCell ⟨gs, 1, none⟩ (.bool d)).setCell ⟨gs, 2, none⟩ (.bool c)).setCell ⟨gs, 3, none⟩ (.bool A)).setCell ⟨gs, 4, none⟩ (.bool B)).setCell ⟨gs, 5, none⟩ (.int .i64 nr) = w4 at *
  have z0 := (HS4.out).cell 0 _ rfl
  have z1 := (HS4.out).cell 1 _ rfl
  have z2 := (HS4.out).cell 2 _ rfl
  have z3 := (HS4.out).cell 3 _ rfl
  have z4 := (HS4.out).cell 4 _ rfl
  have z5 := (HS4.out).cell 5 _ rfl
  have k0 := (HA4.out).cell 0 _ rfl
  have k1 := (HA4.out).cell 1 _ rfl
  have hr3 : r = 0 ∨ r = 1 ∨ r = 2 := by have := HR.out; omega
  rcases hr3 with rfl | rfl | rfl
  · cases u
    · cases d
      · cases c
        · have HRES : Hid (res = moveC nr) := Lib.hid (by rw [HRS.out]; rfl)
          clear HRS
          go_wp2_with fail
          refine (moveC_any nr w4).mono ?_
          rintro e w5 ⟨rfl, hb⟩
          have HCn := Lib.hid (HC.out.next hb); have HWn := Lib.hid (HW4.out.trans (hb.mono HW4.out.size))
          clear hb
          have f0 := HCn.out.fr 0; have f1 := HCn.out.fr 1; have f2 := HCn.out.fr 2
          have j0 := HCn.out.cell 0 _ rfl; have j1 := HCn.out.cell 1 _ rfl; have j2 := HCn.out.cell 2 _ rfl
          go_wp2_with fail
          have R3 := ((HCn.out.set 0 (.int .i64 (moveC nr).1)).set 1 (.int .i64 (moveC nr).2.1)).set 2 (.int .i64 (moveC nr).2.2)
          have r0 := R3.cell 0 _ rfl; have r1 := R3.cell 1 _ rfl; have r2 := R3.cell 2 _ rfl
          exact bodyPost_ret (v := .agg #[.int .i64 (moveC nr).1, .int .i64 (moveC nr).2.1, .int .i64 (moveC nr).2.2]) (by simp [results, Try.results51, go_sem, r0, r1, r2]) rfl ⟨by rw [HRES.out], low3 HWn.out hg02 _ _ _⟩
        · have HRES : Hid (res = (3, nr, nr)) := Lib.hid (by rw [HRS.out]; rfl)
          clear HRS
          go_wp2_with fail
          refine (openC_any nr w4).mono ?_
          rintro e w5 ⟨rfl, hb⟩
          have HCn := Lib.hid (HC.out.next hb); have HWn := Lib.hid (HW4.out.trans (hb.mono HW4.out.size))
          clear hb
          have f0 := HCn.out.fr 0; have f1 := HCn.out.fr 1; have f2 := HCn.out.fr 2
          have j0 := HCn.out.cell 0 _ rfl; have j1 := HCn.out.cell 1 _ rfl; have j2 := HCn.out.cell 2 _ rfl
          go_wp2_with fail
          have R3 := ((HCn.out.set 0 (.int .i64 3)).set 1 (.int .i64 nr)).set 2 (.int .i64 nr)
          have r0 := R3.cell 0 _ rfl; have r1 := R3.cell 1 _ rfl; have r2 := R3.cell 2 _ rfl
          exact bodyPost_ret (v := .agg #[.int .i64 3, .int .i64 nr, .int .i64 nr]) (by simp [results, Try.results51, go_sem, r0, r1, r2]) rfl ⟨by rw [HRES.out], low3 HWn.out hg02 _ _ _⟩
      · have HRES : Hid (res = (3, 2, 2)) := Lib.hid (by rw [HRS.out]; rfl)
        clear HRS
        go_wp2_with fail
        refine (openC_any 2 w4).mono ?_
        rintro e w5 ⟨rfl, hb⟩
        have HCn := Lib.hid (HC.out.next hb); have HWn := Lib.hid (HW4.out.trans (hb.mono HW4.out.size))
        clear hb
        have f0 := HCn.out.fr 0; have f1 := HCn.out.fr 1; have f2 := HCn.out.fr 2
        have j0 := HCn.out.cell 0 _ rfl; have j1 := HCn.out.cell 1 _ rfl; have j2 := HCn.out.cell 2 _ rfl
        go_wp2_with fail
        have R3 := ((HCn.out.set 0 (.int .i64 3)).set 1 (.int .i64 2)).set 2 (.int .i64 2)
        have r0 := R3.cell 0 _ rfl; have r1 := R3.cell 1 _ rfl; have r2 := R3.cell 2 _ rfl
        exact bodyPost_ret (v := .agg #[.int .i64 3, .int .i64 2, .int .i64 2]) (by simp [results, Try.results51, go_sem, r0, r1, r2]) rfl ⟨by rw [HRES.out], low3 HWn.out hg02 _ _ _⟩
    · have HRES : Hid (res = (3, 1, 1)) := Lib.hid (by rw [HRS.out]; rfl)
      clear HRS
      go_wp2_with fail
      refine (openC_any 1 w4).mono ?_
      rintro e w5 ⟨rfl, hb⟩
      have HCn := Lib.hid (HC.out.next hb); have HWn := Lib.hid (HW4.out.trans (hb.mono HW4.out.size))
      clear hb
      have f0 := HCn.out.fr 0; have f1 := HCn.out.fr 1; have f2 := HCn.out.fr 2
      have j0 := HCn.out.cell 0 _ rfl; have j1 := HCn.out.cell 1 _ rfl; have j2 := HCn.out.cell 2 _ rfl
      go_wp2_with fail
      have R3 := ((HCn.out.set 0 (.int .i64 3)).set 1 (.int .i64 1)).set 2 (.int .i64 1)
      have r0 := R3.cell 0 _ rfl; have r1 := R3.cell 1 _ rfl; have r2 := R3.cell 2 _ rfl
      exact bodyPost_ret (v := .agg #[.int .i64 3, .int .i64 1, .int .i64 1]) (by simp [results, Try.results51, go_sem, r0, r1, r2]) rfl ⟨by rw [HRES.out], low3 HWn.out hg02 _ _ _⟩
  · obtain ⟨xx, hxx⟩ : ∃ xx, sweepC 1 2 c u d A B = xx := ⟨_, rfl⟩
    have HSW : Hid (∀ W, Calls Try.prog 69 #[.int .i64 1, .int .i64 2, .bool c, .bool u, .bool d, .bool A, .bool B] W fun e w' => e = .returned (.tuple #[cvC xx.1, .bool xx.2]) ∧ Below W.heap.size W w') := Lib.hid fun W => by rw [← hxx]; exact sweeping_any 1 2 c u d A B W
    have HRX : Hid (res = if xx.2 = true then xx.1 else turnC 2 d B) := Lib.hid (by rw [HRS.out, ← hxx]; rfl)
    clear hxx HRS
    obtain ⟨⟨a1, a2, a3⟩, ok⟩ := xx
    simp only at HSW HRX
    go_wp2_with fail
    refine (HSW.out w4).mono ?_
    rintro e w5 ⟨rfl, hb⟩
    have HC5 := Lib.hid (HC.out.next hb); have HS5 := Lib.hid (HS4.out.next hb); have HW5 := Lib.hid (HW4.out.trans (hb.mono HW4.out.size))
    clear hb z0 z1 z2 z3 z4 z5 k0 k1
    go_upto_region 7 with fail
    have BT := Blk.new w5 [.int .i64 a1, .int .i64 a2, .int .i64 a3] 102
    have hbt := below1' w5 (.cells #[.int .i64 a1, .int .i64 a2, .int .i64 a3] 102)
    change Blk (w5.alloc (.cells #[.int .i64 a1, .int .i64 a2, .int .i64 a3] 102)) _ _ at BT
    have HT := Lib.hid BT; have HC6 := Lib.hid (HC5.out.next hbt); have HS6 := Lib.hid (HS5.out.next hbt); have HW6 := Lib.hid (HW5.out.trans (hbt.mono HW5.out.size))
    clear BT hbt HC5 HS5 HW5
    generalize w5.alloc (.cells #[.int .i64 a1, .int .i64 a2, .int .i64 a3] 102) = w6 at *
    generalize w5.heap.size = gt at *
    cases ok
    · have HRES : Hid (res = turnC 2 d B) := Lib.hid (by rw [HRX.out]; rfl)
      clear HRX
      have z0 := (HS6.out).cell 0 _ rfl
      have z1 := (HS6.out).cell 1 _ rfl
      have z2 := (HS6.out).cell 2 _ rfl
      have z3 := (HS6.out).cell 3 _ rfl
      have z4 := (HS6.out).cell 4 _ rfl
      have z5 := (HS6.out).cell 5 _ rfl
      go_wp2_with fail
      refine (turning_any 2 d B w6).mono ?_
      rintro e w7 ⟨rfl, hb⟩
      have HCn := Lib.hid (HC6.out.next hb); have HWn := Lib.hid (HW6.out.trans (hb.mono HW6.out.size))
      clear hb z0 z1 z2 z3 z4 z5
      have f0 := HCn.out.fr 0; have f1 := HCn.out.fr 1; have f2 := HCn.out.fr 2
      have j0 := HCn.out.cell 0 _ rfl; have j1 := HCn.out.cell 1 _ rfl; have j2 := HCn.out.cell 2 _ rfl
      go_wp2_with fail
      have R3 := ((HCn.out.set 0 (.int .i64 (turnC 2 d B).1)).set 1 (.int .i64 (turnC 2 d B).2.1)).set 2 (.int .i64 (turnC 2 d B).2.2)
      have r0 := R3.cell 0 _ rfl; have r1 := R3.cell 1 _ rfl; have r2 := R3.cell 2 _ rfl
      exact bodyPost_ret (v := .agg #[.int .i64 (turnC 2 d B).1, .int .i64 (turnC 2 d B).2.1, .int .i64 (turnC 2 d B).2.2]) (by simp [results, Try.results51, go_sem, r0, r1, r2]) rfl ⟨by rw [HRES.out], low3 HWn.out hg02 _ _ _⟩
    · have HRES : Hid (res = (a1, a2, a3)) := Lib.hid (by rw [HRX.out]; rfl)
      clear HRX
      have z0 := (HT.out).cell 0 _ rfl
      have z1 := (HT.out).cell 1 _ rfl
      have z2 := (HT.out).cell 2 _ rfl
      have f0 := HC6.out.fr 0; have f1 := HC6.out.fr 1; have f2 := HC6.out.fr 2
      have j0 := HC6.out.cell 0 _ rfl; have j1 := HC6.out.cell 1 _ rfl; have j2 := HC6.out.cell 2 _ rfl
      go_wp2_with fail
      have R3 := ((HC6.out.set 0 (.int .i64 a1)).set 1 (.int .i64 a2)).set 2 (.int .i64 a3)
      have r0 := R3.cell 0 _ rfl; have r1 := R3.cell 1 _ rfl; have r2 := R3.cell 2 _ rfl
      exact bodyPost_ret (v := .agg #[.int .i64 a1, .int .i64 a2, .int .i64 a3]) (by simp [results, Try.results51, go_sem, r0, r1, r2]) rfl ⟨by rw [HRES.out], low3 HW6.out hg02 _ _ _⟩
  · obtain ⟨xx, hxx⟩ : ∃ xx, sweepC 2 1 c d u B A = xx := ⟨_, rfl⟩
    have HSW : Hid (∀ W, Calls Try.prog 69 #[.int .i64 2, .int .i64 1, .bool c, .bool d, .bool u, .bool B, .bool A] W fun e w' => e = .returned (.tuple #[cvC xx.1, .bool xx.2]) ∧ Below W.heap.size W w') := Lib.hid fun W => by rw [← hxx]; exact sweeping_any 2 1 c d u B A W
    have HRX : Hid (res = if xx.2 = true then xx.1 else turnC 1 u A) := Lib.hid (by rw [HRS.out, ← hxx]; rfl)
    clear hxx HRS
    obtain ⟨⟨a1, a2, a3⟩, ok⟩ := xx
    simp only at HSW HRX
    go_wp2_with fail
    refine (HSW.out w4).mono ?_
    rintro e w5 ⟨rfl, hb⟩
    have HC5 := Lib.hid (HC.out.next hb); have HS5 := Lib.hid (HS4.out.next hb); have HW5 := Lib.hid (HW4.out.trans (hb.mono HW4.out.size))
    clear hb z0 z1 z2 z3 z4 z5 k0 k1
    go_upto_region 12 with fail
    have BT := Blk.new w5 [.int .i64 a1, .int .i64 a2, .int .i64 a3] 102
    have hbt := below1' w5 (.cells #[.int .i64 a1, .int .i64 a2, .int .i64 a3] 102)
    change Blk (w5.alloc (.cells #[.int .i64 a1, .int .i64 a2, .int .i64 a3] 102)) _ _ at BT
    have HT := Lib.hid BT; have HC6 := Lib.hid (HC5.out.next hbt); have HS6 := Lib.hid (HS5.out.next hbt); have HW6 := Lib.hid (HW5.out.trans (hbt.mono HW5.out.size))
    clear BT hbt HC5 HS5 HW5
    generalize w5.alloc (.cells #[.int .i64 a1, .int .i64 a2, .int .i64 a3] 102) = w6 at *
    generalize w5.heap.size = gt at *
    cases ok
    · have HRES : Hid (res = turnC 1 u A) := Lib.hid (by rw [HRX.out]; rfl)
      clear HRX
      have z0 := (HS6.out).cell 0 _ rfl
      have z1 := (HS6.out).cell 1 _ rfl
      have z2 := (HS6.out).cell 2 _ rfl
      have z3 := (HS6.out).cell 3 _ rfl
      have z4 := (HS6.out).cell 4 _ rfl
      have z5 := (HS6.out).cell 5 _ rfl
      go_wp2_with fail
      refine (turning_any 1 u A w6).mono ?_
      rintro e w7 ⟨rfl, hb⟩
      have HCn := Lib.hid (HC6.out.next hb); have HWn := Lib.hid (HW6.out.trans (hb.mono HW6.out.size))
      clear hb z0 z1 z2 z3 z4 z5
      have f0 := HCn.out.fr 0; have f1 := HCn.out.fr 1; have f2 := HCn.out.fr 2
      have j0 := HCn.out.cell 0 _ rfl; have j1 := HCn.out.cell 1 _ rfl; have j2 := HCn.out.cell 2 _ rfl
      go_wp2_with fail
      have R3 := ((HCn.out.set 0 (.int .i64 (turnC 1 u A).1)).set 1 (.int .i64 (turnC 1 u A).2.1)).set 2 (.int .i64 (turnC 1 u A).2.2)
      have r0 := R3.cell 0 _ rfl; have r1 := R3.cell 1 _ rfl; have r2 := R3.cell 2 _ rfl
      exact bodyPost_ret (v := .agg #[.int .i64 (turnC 1 u A).1, .int .i64 (turnC 1 u A).2.1, .int .i64 (turnC 1 u A).2.2]) (by simp [results, Try.results51, go_sem, r0, r1, r2]) rfl ⟨by rw [HRES.out], low3 HWn.out hg02 _ _ _⟩
    · have HRES : Hid (res = (a1, a2, a3)) := Lib.hid (by rw [HRX.out]; rfl)
      clear HRX
      have z0 := (HT.out).cell 0 _ rfl
      have z1 := (HT.out).cell 1 _ rfl
      have z2 := (HT.out).cell 2 _ rfl
      have f0 := HC6.out.fr 0; have f1 := HC6.out.fr 1; have f2 := HC6.out.fr 2
      have j0 := HC6.out.cell 0 _ rfl; have j1 := HC6.out.cell 1 _ rfl; have j2 := HC6.out.cell 2 _ rfl
      go_wp2_with fail
      have R3 := ((HC6.out.set 0 (.int .i64 a1)).set 1 (.int .i64 a2)).set 2 (.int .i64 a3)
      have r0 := R3.cell 0 _ rfl; have r1 := R3.cell 1 _ rfl; have r2 := R3.cell 2 _ rfl
      exact bodyPost_ret (v := .agg #[.int .i64 a1, .int .i64 a2, .int .i64 a3]) (by simp [results, Try.results51, go_sem, r0, r1, r2]) rfl ⟨by rw [HRES.out], low3 HW6.out hg02 _ _ _⟩
end Rel
end Go.Proofs.Ytfmmiafdlfdfoaa
