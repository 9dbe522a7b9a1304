/- The walks over overlayref17's served and Contacts, overlayref05's Floor. Conditions: those of each theorem. -/
import Derived.Test.YtfmmiafdlfdfoaaZRelW6
import Derived.Test.YtfmmiafdlfdfoaaZRelC
import Derived.Test.YtfmmiafdlfdfoaaZValid18
namespace Go.Proofs.Ytfmmiafdlfdfoaa
namespace Rel
open Go.RowKit
abbrev cvRel (s : RelV) : Value := .agg #[.int .i64 s.st, .int .i64 s.fl, .int .i64 s.dr, .int .i64 s.op, .int .i64 s.dor, .int .i64 s.tm, .int .u32 (s.calls.1.toNat : Int), .int .u32 (s.calls.2.toNat : Int), .int .u32 (s.car.toNat : Int)]
theorem set9 {w : World} {g : Nat} {x0 x1 x2 x3 x4 x5 x6 x7 x8 : Value} (h : Blk w g [x0, x1, x2, x3, x4, x5, x6, x7, x8]) (v0 v1 v2 v3 v4 v5 v6 v7 v8 : Value) : Blk (((((((((w.setCell ⟨g, 0, none⟩ v0).setCell ⟨g, 1, none⟩ v1).setCell ⟨g, 2, none⟩ v2).setCell ⟨g, 3, none⟩ v3).setCell ⟨g, 4, none⟩ v4).setCell ⟨g, 5, none⟩ v5).setCell ⟨g, 6, none⟩ v6).setCell ⟨g, 7, none⟩ v7).setCell ⟨g, 8, none⟩ v8) g [v0, v1, v2, v3, v4, v5, v6, v7, v8] :=
  (((((((((h.set 0 v0).set 1 v1).set 2 v2).set 3 v3).set 4 v4).set 5 v5).set 6 v6).set 7 v7).set 8 v8)
theorem keep9 {w : World} {k g : Nat} {xs : List Value} (h : Blk w k xs) (hne : k ≠ g) (v0 v1 v2 v3 v4 v5 v6 v7 v8 : Value) : Blk (((((((((w.setCell ⟨g, 0, none⟩ v0).setCell ⟨g, 1, none⟩ v1).setCell ⟨g, 2, none⟩ v2).setCell ⟨g, 3, none⟩ v3).setCell ⟨g, 4, none⟩ v4).setCell ⟨g, 5, none⟩ v5).setCell ⟨g, 6, none⟩ v6).setCell ⟨g, 7, none⟩ v7).setCell ⟨g, 8, none⟩ v8) k xs :=
  (((((((((h.other hne (i := 0) v0).other hne (i := 1) v1).other hne (i := 2) v2).other hne (i := 3) v3).other hne (i := 4) v4).other hne (i := 5) v5).other hne (i := 6) v6).other hne (i := 7) v7).other hne (i := 8) v8)
theorem low9 {n : Nat} {w w' : World} {g : Nat} (h : Below n w w') (hg : n ≤ g) (v0 v1 v2 v3 v4 v5 v6 v7 v8 : Value) : Below n w (((((((((w'.setCell ⟨g, 0, none⟩ v0).setCell ⟨g, 1, none⟩ v1).setCell ⟨g, 2, none⟩ v2).setCell ⟨g, 3, none⟩ v3).setCell ⟨g, 4, none⟩ v4).setCell ⟨g, 5, none⟩ v5).setCell ⟨g, 6, none⟩ v6).setCell ⟨g, 7, none⟩ v7).setCell ⟨g, 8, none⟩ v8) :=
  (((((((((h.setCell (p := ⟨g, 0, none⟩) hg v0).setCell (p := ⟨g, 1, none⟩) hg v1).setCell (p := ⟨g, 2, none⟩) hg v2).setCell (p := ⟨g, 3, none⟩) hg v3).setCell (p := ⟨g, 4, none⟩) hg v4).setCell (p := ⟨g, 5, none⟩) hg v5).setCell (p := ⟨g, 6, none⟩) hg v6).setCell (p := ⟨g, 7, none⟩) hg v7).setCell (p := ⟨g, 8, none⟩) hg v8)
set_option maxHeartbeats 4000000 in
set_option maxRecDepth 100000 in
theorem served_any (s : RelV) (w : World) (hfl : 0 ≤ s.fl ∧ s.fl < 32) :
    Calls Try.prog 42 #[cvRel s] w fun e w' => e = .returned (cvRel (servedV s)) ∧ Below w.heap.size w w' := by
  obtain ⟨st, fl, dr, op, dor, tm, ⟨c1, c2⟩, car⟩ := s
  obtain ⟨h0, h1⟩ := hfl
  simp only at h0 h1
  have hpb := pow_bit fl h0 h1
  obtain ⟨R, hR⟩ : ∃ R, servedV ⟨st, fl, dr, op, dor, tm, (c1, c2), car⟩ = R := ⟨_, rfl⟩
  rw [hR]
  have HR0 := Lib.hid hR
  clear hR
  have X0 : Blk (w.alloc (.cells #[.int .i64 st, .int .i64 fl, .int .i64 dr, .int .i64 op, .int .i64 dor, .int .i64 tm, .int .u32 (c1.toNat : Int), .int .u32 (c2.toNat : Int), .int .u32 (car.toNat : Int)] 59)) w.heap.size [.int .i64 st, .int .i64 fl, .int .i64 dr, .int .i64 op, .int .i64 dor, .int .i64 tm, .int .u32 (c1.toNat : Int), .int .u32 (c2.toNat : Int), .int .u32 (car.toNat : Int)] := by
    have hx := Blk.new w [.int .i64 st, .int .i64 fl, .int .i64 dr, .int .i64 op, .int .i64 dor, .int .i64 tm, .int .u32 (c1.toNat : Int), .int .u32 (c2.toNat : Int), .int .u32 (car.toNat : Int)] 59
    exact hx
  replace X0 : Blk ((w.alloc (.cells #[.int .i64 st, .int .i64 fl, .int .i64 dr, .int .i64 op, .int .i64 dor, .int .i64 tm, .int .u32 (c1.toNat : Int), .int .u32 (c2.toNat : Int), .int .u32 (car.toNat : Int)] 59)).alloc (.cells #[.int .i64 0, .int .i64 0, .int .i64 0, .int .i64 0, .int .i64 0, .int .i64 0, .int .u32 0, .int .u32 0, .int .u32 0] 59)) w.heap.size [.int .i64 st, .int .i64 fl, .int .i64 dr, .int .i64 op, .int .i64 dor, .int .i64 tm, .int .u32 (c1.toNat : Int), .int .u32 (c2.toNat : Int), .int .u32 (car.toNat : Int)] := X0.next (below1' _ _)
  have X1 : Blk ((w.alloc (.cells #[.int .i64 st, .int .i64 fl, .int .i64 dr, .int .i64 op, .int .i64 dor, .int .i64 tm, .int .u32 (c1.toNat : Int), .int .u32 (c2.toNat : Int), .int .u32 (car.toNat : Int)] 59)).alloc (.cells #[.int .i64 0, .int .i64 0, .int .i64 0, .int .i64 0, .int .i64 0, .int .i64 0, .int .u32 0, .int .u32 0, .int .u32 0] 59)) (w.heap.size + 1) [.int .i64 0, .int .i64 0, .int .i64 0, .int .i64 0, .int .i64 0, .int .i64 0, .int .u32 0, .int .u32 0, .int .u32 0] := by
    have hx := Blk.new (w.alloc (.cells #[.int .i64 st, .int .i64 fl, .int .i64 dr, .int .i64 op, .int .i64 dor, .int .i64 tm, .int .u32 (c1.toNat : Int), .int .u32 (c2.toNat : Int), .int .u32 (car.toNat : Int)] 59)) [.int .i64 0, .int .i64 0, .int .i64 0, .int .i64 0, .int .i64 0, .int .i64 0, .int .u32 0, .int .u32 0, .int .u32 0] 59
    rw [World.size_alloc] at hx
    exact hx
  have XW : Below w.heap.size w (w.alloc (.cells #[.int .i64 st, .int .i64 fl, .int .i64 dr, .int .i64 op, .int .i64 dor, .int .i64 tm, .int .u32 (c1.toNat : Int), .int .u32 (c2.toNat : Int), .int .u32 (car.toNat : Int)] 59)) := below1' w _
  replace XW : Below w.heap.size w ((w.alloc (.cells #[.int .i64 st, .int .i64 fl, .int .i64 dr, .int .i64 op, .int .i64 dor, .int .i64 tm, .int .u32 (c1.toNat : Int), .int .u32 (c2.toNat : Int), .int .u32 (car.toNat : Int)] 59)).alloc (.cells #[.int .i64 0, .int .i64 0, .int .i64 0, .int .i64 0, .int .i64 0, .int .i64 0, .int .u32 0, .int .u32 0, .int .u32 0] 59)) := XW.trans ((below1' _ _).mono XW.size)
  have HWW := Lib.hid XW; have HX0 := Lib.hid X0; have HX1 := Lib.hid X1
  clear XW X0 X1
  go_enter Try.func42, Try.ntmps42
  go_upto_region 1 with fail
  generalize ((w.alloc (.cells #[.int .i64 st, .int .i64 fl, .int .i64 dr, .int .i64 op, .int .i64 dor, .int .i64 tm, .int .u32 (c1.toNat : Int), .int .u32 (c2.toNat : Int), .int .u32 (car.toNat : Int)] 59)).alloc (.cells #[.int .i64 0, .int .i64 0, .int .i64 0, .int .i64 0, .int .i64 0, .int .i64 0, .int .u32 0, .int .u32 0, .int .u32 0] 59)) = w0 at *
  generalize hg1 : w.heap.size + 1 = g1 at *
  have HG1 := Lib.hid hg1; have hq1 : w.heap.size + 1 ≤ g1 := by omega
  clear hg1
  have HW := Lib.hid (Below.refl w0.heap.size w0)
  have hz0 := HX0.out.lt; have hz1 := HX1.out.lt
  have hg01 : w.heap.size ≤ g1 := by omega
  have k0 := (HX0.out).cell 0 _ rfl
  have k1 := (HX0.out).cell 1 _ rfl
  have k2 := (HX0.out).cell 2 _ rfl
  have k3 := (HX0.out).cell 3 _ rfl
  have k4 := (HX0.out).cell 4 _ rfl
  have k5 := (HX0.out).cell 5 _ rfl
  have k6 := (HX0.out).cell 6 _ rfl
  have k7 := (HX0.out).cell 7 _ rfl
  have k8 := (HX0.out).cell 8 _ rfl
  by_cases h3 : st = 3
  rotate_left 1
  · have e3 : (st == 3) = false := by simpa using h3
    have HRES : Hid (R = ⟨st, fl, dr, op, dor, tm, (c1, c2), car⟩) := Lib.hid (by rw [← HR0.out]; unfold servedV; rw [if_neg h3])
    clear HR0
    clear h3
    have f0 := HX1.out.fr 0; have f1 := HX1.out.fr 1; have f2 := HX1.out.fr 2; have f3 := HX1.out.fr 3; have f4 := HX1.out.fr 4; have f5 := HX1.out.fr 5; have f6 := HX1.out.fr 6; have f7 := HX1.out.fr 7; have f8 := HX1.out.fr 8
    have j0 := (HX1.out).cell 0 _ rfl
    have j1 := (HX1.out).cell 1 _ rfl
    have j2 := (HX1.out).cell 2 _ rfl
    have j3 := (HX1.out).cell 3 _ rfl
    have j4 := (HX1.out).cell 4 _ rfl
    have j5 := (HX1.out).cell 5 _ rfl
    have j6 := (HX1.out).cell 6 _ rfl
    have j7 := (HX1.out).cell 7 _ rfl
    have j8 := (HX1.out).cell 8 _ rfl
    go_wp2_with fail
    have R9 := set9 HX1.out (.int .i64 st) (.int .i64 fl) (.int .i64 dr) (.int .i64 op) (.int .i64 dor) (.int .i64 tm) (.int .u32 (c1.toNat : Int)) (.int .u32 (c2.toNat : Int)) (.int .u32 (car.toNat : Int))
    have r0 := (R9).cell 0 _ rfl
    have r1 := (R9).cell 1 _ rfl
    have r2 := (R9).cell 2 _ rfl
    have r3 := (R9).cell 3 _ rfl
    have r4 := (R9).cell 4 _ rfl
    have r5 := (R9).cell 5 _ rfl
    have r6 := (R9).cell 6 _ rfl
    have r7 := (R9).cell 7 _ rfl
    have r8 := (R9).cell 8 _ rfl
    exact bodyPost_ret (v := .agg #[.int .i64 st, .int .i64 fl, .int .i64 dr, .int .i64 op, .int .i64 dor, .int .i64 tm, .int .u32 (c1.toNat : Int), .int .u32 (c2.toNat : Int), .int .u32 (car.toNat : Int)]) (by simp [results, Try.results42, go_sem, r0, r1, r2, r3, r4, r5, r6, r7, r8]) rfl ⟨by rw [HRES.out], low9 HWW.out hg01 _ _ _ _ _ _ _ _ _⟩
  subst h3
  have han := andNot32 car (bit fl)
  have HRES : Hid (R = ⟨3, fl, dr, op, dor, tm, minus (c1, c2) (one fl dr), car &&& ~~~bit fl⟩) := Lib.hid (by rw [← HR0.out]; rfl)
  clear HR0
  generalize car &&& ~~~bit fl = car2 at *
  obtain ⟨oc, hoc⟩ : ∃ oc, one fl dr = oc := ⟨_, rfl⟩
  obtain ⟨mc, hmc⟩ : ∃ mc, minus (c1, c2) oc = mc := ⟨_, rfl⟩
  have HON : Hid (∀ W, Calls Try.prog 29 #[.int .i64 fl, .int .i64 dr] W fun e w' => e = .returned (cv oc) ∧ Below W.heap.size W w') := Lib.hid fun W => by rw [← hoc]; exact refOne_any fl dr W
  have HMI : Hid (∀ W, Calls Try.prog 50 #[cv (c1, c2), cv oc] W fun e w' => e = .returned (cv mc) ∧ Below W.heap.size W w') := Lib.hid fun W => by rw [← hmc]; exact refMinus_any (c1, c2) oc W
  rw [hoc, hmc] at HRES
  clear hoc hmc
  obtain ⟨m1, m2⟩ := mc
  obtain ⟨o1, o2⟩ := oc
  have f8 := HX0.out.fr 8
  go_upto_region 3 with fail
  have HA1 := Lib.hid (HX0.out.set 8 (.int .u32 (car2.toNat : Int)))
  have HB1 := Lib.hid (HX1.out.other (g := w.heap.size) (by omega) (i := 8) (.int .u32 (car2.toNat : Int)))
  have HW1 := Lib.hid (HWW.out.setCell (p := ⟨w.heap.size, 8, none⟩) (Nat.le_refl _) (.int .u32 (car2.toNat : Int)))
  clear k0 k1 k2 k3 k4 k5 k6 k7 k8 f8 HX0 HX1 HWW HW hz0 hz1
  generalize w0.setCell ⟨w.heap.size, 8, none⟩ (.int .u32 (car2.toNat : Int)) = w1 at *
  have HA1' : Hid (Blk w1 w.heap.size [.int .i64 3, .int .i64 fl, .int .i64 dr, .int .i64 op, .int .i64 dor, .int .i64 tm, .int .u32 (c1.toNat : Int), .int .u32 (c2.toNat : Int), .int .u32 (car2.toNat : Int)]) := HA1
  clear HA1
  have k0 := (HA1'.out).reg 0 _ rfl
  have k1 := (HA1'.out).reg 1 _ rfl
  have k2 := (HA1'.out).reg 2 _ rfl
  have k3 := (HA1'.out).reg 3 _ rfl
  have k4 := (HA1'.out).reg 4 _ rfl
  have k5 := (HA1'.out).reg 5 _ rfl
  have k6 := (HA1'.out).reg 6 _ rfl
  have k7 := (HA1'.out).reg 7 _ rfl
  have k8 := (HA1'.out).reg 8 _ rfl
  (refine Grow.wp_region_tail 9 Grow.noPlan Grow.noPlan_stable (by kernel_rfl) (by kernel_rfl) ?_; intro opsq Hopsq; simp only [List.take_succ_cons, List.take_zero, List.drop_succ_cons, List.drop_zero])
  repeat (first | (refine Grow.lex_move rfl ?_ rfl ?_; (· first | exact Grow.wanted_none | (rw [Hopsq.out]; rfl)); intro K hK; simp only [Grow.put_lit, Grow.setAt, Grow.eval_lit, Grow.ev]; refine hK _ _ ?_; clear hK K) | (refine Grow.lex_assign rfl ?_ rfl ?_; (· first | exact Grow.wanted_none | (rw [Hopsq.out]; rfl)); intro K hK; simp only [Grow.put_lit, Grow.setAt, Grow.eval_lit, Grow.ev]; refine hK _ _ ?_; clear hK K) | (refine Grow.lex_plain rfl rfl ?_ rfl ?_; (· first | exact Grow.wanted_none | (rw [Hopsq.out]; rfl)); apply Exists.intro; refine ⟨fun wq hCq _ => ?_, ?_⟩; (· (go_wp2_with fail; refine ⟨rfl, Below.refl _ _, ?_⟩; simp only [Grow.getD_lit, Grow.nth]; rfl)); intro K hK; simp only [Grow.put_lit, Grow.setAt]; refine hK _ _ ?_; clear hK K) | (refine Grow.lex_nilCheck rfl rfl ?_ rfl ?_; (· first | exact Grow.wanted_none | (rw [Hopsq.out]; rfl)); intro K hK; simp only [Grow.put_lit, Grow.setAt]; refine hK _ _ ?_; clear hK K) | (refine Grow.lex_skip ?_ ?_; (· (rw [Hopsq.out]; rfl)); intro K hK; simp only [Grow.put_lit, Grow.setAt]; refine hK _ _ ?_; clear hK K))
  (refine Grow.lex_call ?_ rfl ?_; (· first | exact Grow.wanted_none | (rw [Hopsq.out]; rfl)); apply Exists.intro; apply Exists.intro; refine ⟨fun wq => ?_, ?_⟩; (· (go_simp; exact ⟨rfl, rfl⟩)); apply Exists.intro; refine ⟨fun wq hCq hKq => ?_, ?_⟩; (· exact HON.out _); intro K hK; simp only [Grow.put_lit, Grow.setAt]; refine hK _ _ ?_; clear hK K)
  repeat (first | (refine Grow.lex_move rfl ?_ rfl ?_; (· first | exact Grow.wanted_none | (rw [Hopsq.out]; rfl)); intro K hK; simp only [Grow.put_lit, Grow.setAt, Grow.eval_lit, Grow.ev]; refine hK _ _ ?_; clear hK K) | (refine Grow.lex_assign rfl ?_ rfl ?_; (· first | exact Grow.wanted_none | (rw [Hopsq.out]; rfl)); intro K hK; simp only [Grow.put_lit, Grow.setAt, Grow.eval_lit, Grow.ev]; refine hK _ _ ?_; clear hK K) | (refine Grow.lex_plain rfl rfl ?_ rfl ?_; (· first | exact Grow.wanted_none | (rw [Hopsq.out]; rfl)); apply Exists.intro; refine ⟨fun wq hCq _ => ?_, ?_⟩; (· (go_wp2_with fail; refine ⟨rfl, Below.refl _ _, ?_⟩; simp only [Grow.getD_lit, Grow.nth]; rfl)); intro K hK; simp only [Grow.put_lit, Grow.setAt]; refine hK _ _ ?_; clear hK K) | (refine Grow.lex_nilCheck rfl rfl ?_ rfl ?_; (· first | exact Grow.wanted_none | (rw [Hopsq.out]; rfl)); intro K hK; simp only [Grow.put_lit, Grow.setAt]; refine hK _ _ ?_; clear hK K) | (refine Grow.lex_skip ?_ ?_; (· (rw [Hopsq.out]; rfl)); intro K hK; simp only [Grow.put_lit, Grow.setAt]; refine hK _ _ ?_; clear hK K))
  (refine Grow.lex_call ?_ rfl ?_; (· first | exact Grow.wanted_none | (rw [Hopsq.out]; rfl)); apply Exists.intro; apply Exists.intro; refine ⟨fun wq => ?_, ?_⟩; (· (go_simp; exact ⟨rfl, rfl⟩)); apply Exists.intro; refine ⟨fun wq hCq hKq => ?_, ?_⟩; (· exact HMI.out _); intro K hK; simp only [Grow.put_lit, Grow.setAt]; refine hK _ _ ?_; clear hK K)
  repeat (first | (refine Grow.lex_move rfl ?_ rfl ?_; (· first | exact Grow.wanted_none | (rw [Hopsq.out]; rfl)); intro K hK; simp only [Grow.put_lit, Grow.setAt, Grow.eval_lit, Grow.ev]; refine hK _ _ ?_; clear hK K) | (refine Grow.lex_assign rfl ?_ rfl ?_; (· first | exact Grow.wanted_none | (rw [Hopsq.out]; rfl)); intro K hK; simp only [Grow.put_lit, Grow.setAt, Grow.eval_lit, Grow.ev]; refine hK _ _ ?_; clear hK K) | (refine Grow.lex_plain rfl rfl ?_ rfl ?_; (· first | exact Grow.wanted_none | (rw [Hopsq.out]; rfl)); apply Exists.intro; refine ⟨fun wq hCq _ => ?_, ?_⟩; (· (go_wp2_with fail; refine ⟨rfl, Below.refl _ _, ?_⟩; simp only [Grow.getD_lit, Grow.nth]; rfl)); intro K hK; simp only [Grow.put_lit, Grow.setAt]; refine hK _ _ ?_; clear hK K) | (refine Grow.lex_nilCheck rfl rfl ?_ rfl ?_; (· first | exact Grow.wanted_none | (rw [Hopsq.out]; rfl)); intro K hK; simp only [Grow.put_lit, Grow.setAt]; refine hK _ _ ?_; clear hK K) | (refine Grow.lex_skip ?_ ?_; (· (rw [Hopsq.out]; rfl)); intro K hK; simp only [Grow.put_lit, Grow.setAt]; refine hK _ _ ?_; clear hK K))
  (refine Grow.lex_nil ?_; intro w2 hb2 _; replace hb2 := Grow.Cl.base hb2; clear Hopsq opsq)
  have HA2 := Lib.hid (HA1'.out.next hb2); have HB2 := Lib.hid (HB1.out.next hb2); have HW2 := Lib.hid (HW1.out.trans (hb2.mono HW1.out.size))
  clear hb2 k0 k1 k2 k3 k4 k5 k6 k7 k8 HA1' HB1 HW1
  have k6 := (HA2.out).cell 6 _ rfl
  have k7 := (HA2.out).cell 7 _ rfl
  have f6 := HA2.out.fr 6; have f7 := HA2.out.fr 7
  go_upto_region 4 with fail
  have HA3 := Lib.hid ((HA2.out.set 6 (.int .u32 (m1.toNat : Int))).set 7 (.int .u32 (m2.toNat : Int)))
  have HB3 := Lib.hid ((HB2.out.other (g := w.heap.size) (by omega) (i := 6) (.int .u32 (m1.toNat : Int))).other (g := w.heap.size) (by omega) (i := 7) (.int .u32 (m2.toNat : Int)))
  have HW3 := Lib.hid ((HW2.out.setCell (p := ⟨w.heap.size, 6, none⟩) (Nat.le_refl _) (.int .u32 (m1.toNat : Int))).setCell (p := ⟨w.heap.size, 7, none⟩) (Nat.le_refl _) (.int .u32 (m2.toNat : Int)))
  clear k6 k7 f6 f7 HA2 HB2 HW2
  generalize (w2.setCell ⟨w.heap.size, 6, none⟩ (.int .u32 (m1.toNat : Int))).setCell ⟨w.heap.size, 7, none⟩ (.int .u32 (m2.toNat : Int)) = w3 at *
  have HA3' : Hid (Blk w3 w.heap.size [.int .i64 3, .int .i64 fl, .int .i64 dr, .int .i64 op, .int .i64 dor, .int .i64 tm, .int .u32 (m1.toNat : Int), .int .u32 (m2.toNat : Int), .int .u32 (car2.toNat : Int)]) := HA3
  clear HA3
  have k0 := (HA3'.out).cell 0 _ rfl
  have k1 := (HA3'.out).cell 1 _ rfl
  have k2 := (HA3'.out).cell 2 _ rfl
  have k3 := (HA3'.out).cell 3 _ rfl
  have k4 := (HA3'.out).cell 4 _ rfl
  have k5 := (HA3'.out).cell 5 _ rfl
  have k6 := (HA3'.out).cell 6 _ rfl
  have k7 := (HA3'.out).cell 7 _ rfl
  have k8 := (HA3'.out).cell 8 _ rfl
  have f0 := HB3.out.fr 0; have f1 := HB3.out.fr 1; have f2 := HB3.out.fr 2; have f3 := HB3.out.fr 3; have f4 := HB3.out.fr 4; have f5 := HB3.out.fr 5; have f6 := HB3.out.fr 6; have f7 := HB3.out.fr 7; have f8 := HB3.out.fr 8
  have j0 := (HB3.out).cell 0 _ rfl
  have j1 := (HB3.out).cell 1 _ rfl
  have j2 := (HB3.out).cell 2 _ rfl
  have j3 := (HB3.out).cell 3 _ rfl
  have j4 := (HB3.out).cell 4 _ rfl
  have j5 := (HB3.out).cell 5 _ rfl
  have j6 := (HB3.out).cell 6 _ rfl
  have j7 := (HB3.out).cell 7 _ rfl
  have j8 := (HB3.out).cell 8 _ rfl
  go_wp2_with fail
  have R9 := set9 HB3.out (.int .i64 3) (.int .i64 fl) (.int .i64 dr) (.int .i64 op) (.int .i64 dor) (.int .i64 tm) (.int .u32 (m1.toNat : Int)) (.int .u32 (m2.toNat : Int)) (.int .u32 (car2.toNat : Int))
  have r0 := (R9).cell 0 _ rfl
  have r1 := (R9).cell 1 _ rfl
  have r2 := (R9).cell 2 _ rfl
  have r3 := (R9).cell 3 _ rfl
  have r4 := (R9).cell 4 _ rfl
  have r5 := (R9).cell 5 _ rfl
  have r6 := (R9).cell 6 _ rfl
  have r7 := (R9).cell 7 _ rfl
  have r8 := (R9).cell 8 _ rfl
  exact bodyPost_ret (v := .agg #[.int .i64 3, .int .i64 fl, .int .i64 dr, .int .i64 op, .int .i64 dor, .int .i64 tm, .int .u32 (m1.toNat : Int), .int .u32 (m2.toNat : Int), .int .u32 (car2.toNat : Int)]) (by simp [results, Try.results42, go_sem, r0, r1, r2, r3, r4, r5, r6, r7, r8]) rfl ⟨by rw [HRES.out], low9 HW3.out hg01 _ _ _ _ _ _ _ _ _⟩
set_option maxHeartbeats 4000000 in
theorem contacts_any (s : RelV) (w : World) (hfl : 0 ≤ s.fl ∧ s.fl < 32) :
    Calls Try.prog 27 #[cvRel s] w fun e w' => e = .returned (.agg #[.int .u32 ((if s.st = 1 then 0#32 else bit s.fl).toNat : Int), .bool (s.dr == 1), .bool (s.dr == 2), .bool (s.dor == 1), .bool (s.dor == 2)]) ∧ Below w.heap.size w w' := by
  obtain ⟨st, fl, dr, op, dor, tm, ⟨c1, c2⟩, car⟩ := s
  obtain ⟨h0, h1⟩ := hfl
  simp only at h0 h1 ⊢
  have hpb := pow_bit fl h0 h1
  have d1 : decide (0 ≤ fl) = true := decide_eq_true h0
  have d2 : decide (fl < 32) = true := decide_eq_true h1
  obtain ⟨p1, hp1⟩ : ∃ x, (dr == 1) = x := ⟨_, rfl⟩
  obtain ⟨p2, hp2⟩ : ∃ x, (dr == 2) = x := ⟨_, rfl⟩
  obtain ⟨p3, hp3⟩ : ∃ x, (dor == 1) = x := ⟨_, rfl⟩
  obtain ⟨p4, hp4⟩ : ∃ x, (dor == 2) = x := ⟨_, rfl⟩
  rw [hp1, hp2, hp3, hp4]
  obtain ⟨bf, hbf⟩ : ∃ bf, bit fl = bf := ⟨_, rfl⟩
  rw [hbf] at hpb ⊢
  clear hbf
  obtain ⟨R, hR⟩ : ∃ R, (if st = 1 then 0#32 else bf) = R := ⟨_, rfl⟩
  rw [hR]
  have HR0 := Lib.hid hR
  clear hR
  have X0 : Blk (w.alloc (.cells #[.int .i64 st, .int .i64 fl, .int .i64 dr, .int .i64 op, .int .i64 dor, .int .i64 tm, .int .u32 (c1.toNat : Int), .int .u32 (c2.toNat : Int), .int .u32 (car.toNat : Int)] 59)) w.heap.size [.int .i64 st, .int .i64 fl, .int .i64 dr, .int .i64 op, .int .i64 dor, .int .i64 tm, .int .u32 (c1.toNat : Int), .int .u32 (c2.toNat : Int), .int .u32 (car.toNat : Int)] := by
    have hx := Blk.new w [.int .i64 st, .int .i64 fl, .int .i64 dr, .int .i64 op, .int .i64 dor, .int .i64 tm, .int .u32 (c1.toNat : Int), .int .u32 (c2.toNat : Int), .int .u32 (car.toNat : Int)] 59
    exact hx
  replace X0 : Blk ((w.alloc (.cells #[.int .i64 st, .int .i64 fl, .int .i64 dr, .int .i64 op, .int .i64 dor, .int .i64 tm, .int .u32 (c1.toNat : Int), .int .u32 (c2.toNat : Int), .int .u32 (car.toNat : Int)] 59)).alloc (.cells #[.int .u32 0, .bool false, .bool false, .bool false, .bool false] 64)) w.heap.size [.int .i64 st, .int .i64 fl, .int .i64 dr, .int .i64 op, .int .i64 dor, .int .i64 tm, .int .u32 (c1.toNat : Int), .int .u32 (c2.toNat : Int), .int .u32 (car.toNat : Int)] := X0.next (below1' _ _)
  have X1 : Blk ((w.alloc (.cells #[.int .i64 st, .int .i64 fl, .int .i64 dr, .int .i64 op, .int .i64 dor, .int .i64 tm, .int .u32 (c1.toNat : Int), .int .u32 (c2.toNat : Int), .int .u32 (car.toNat : Int)] 59)).alloc (.cells #[.int .u32 0, .bool false, .bool false, .bool false, .bool false] 64)) (w.heap.size + 1) [.int .u32 0, .bool false, .bool false, .bool false, .bool false] := by
    have hx := Blk.new (w.alloc (.cells #[.int .i64 st, .int .i64 fl, .int .i64 dr, .int .i64 op, .int .i64 dor, .int .i64 tm, .int .u32 (c1.toNat : Int), .int .u32 (c2.toNat : Int), .int .u32 (car.toNat : Int)] 59)) [.int .u32 0, .bool false, .bool false, .bool false, .bool false] 64
    rw [World.size_alloc] at hx
    exact hx
  have XW : Below w.heap.size w (w.alloc (.cells #[.int .i64 st, .int .i64 fl, .int .i64 dr, .int .i64 op, .int .i64 dor, .int .i64 tm, .int .u32 (c1.toNat : Int), .int .u32 (c2.toNat : Int), .int .u32 (car.toNat : Int)] 59)) := below1' w _
  replace XW : Below w.heap.size w ((w.alloc (.cells #[.int .i64 st, .int .i64 fl, .int .i64 dr, .int .i64 op, .int .i64 dor, .int .i64 tm, .int .u32 (c1.toNat : Int), .int .u32 (c2.toNat : Int), .int .u32 (car.toNat : Int)] 59)).alloc (.cells #[.int .u32 0, .bool false, .bool false, .bool false, .bool false] 64)) := XW.trans ((below1' _ _).mono XW.size)
  have HWW := Lib.hid XW; have HX0 := Lib.hid X0; have HX1 := Lib.hid X1
  clear XW X0 X1
  go_enter Try.func27, Try.ntmps27
  go_upto_region 1 with fail
  generalize ((w.alloc (.cells #[.int .i64 st, .int .i64 fl, .int .i64 dr, .int .i64 op, .int .i64 dor, .int .i64 tm, .int .u32 (c1.toNat : Int), .int .u32 (c2.toNat : Int), .int .u32 (car.toNat : Int)] 59)).alloc (.cells #[.int .u32 0, .bool false, .bool false, .bool false, .bool false] 64)) = w0 at *
  generalize hg1 : w.heap.size + 1 = g1 at *
  have HG1 := Lib.hid hg1; have hq1 : w.heap.size + 1 ≤ g1 := by omega
  clear hg1
  have HW := Lib.hid (Below.refl w0.heap.size w0)
  have hz0 := HX0.out.lt; have hz1 := HX1.out.lt
  have hg01 : w.heap.size ≤ g1 := by omega
  have k0 := (HX0.out).cell 0 _ rfl
  have k1 := (HX0.out).cell 1 _ rfl
  have k2 := (HX0.out).cell 2 _ rfl
  have k3 := (HX0.out).cell 3 _ rfl
  have k4 := (HX0.out).cell 4 _ rfl
  have k5 := (HX0.out).cell 5 _ rfl
  have k6 := (HX0.out).cell 6 _ rfl
  have k7 := (HX0.out).cell 7 _ rfl
  have k8 := (HX0.out).cell 8 _ rfl
  go_upto_region 2 with fail
  have BT := Blk.new w0 [.int .u32 0, .bool p1, .bool p2, .bool p3, .bool p4] 64
  have hbt := below1' w0 (.cells #[.int .u32 0, .bool p1, .bool p2, .bool p3, .bool p4] 64)
  change Blk (w0.alloc (.cells #[.int .u32 0, .bool p1, .bool p2, .bool p3, .bool p4] 64)) _ _ at BT
  have HT := Lib.hid BT; have HA1 := Lib.hid (HX0.out.next hbt); have HB1 := Lib.hid (HX1.out.next hbt); have HW1 := Lib.hid (HWW.out.trans (hbt.mono HWW.out.size))
  have hgT : w.heap.size ≤ w0.heap.size := HWW.out.size
  have hne1 : g1 ≠ w0.heap.size := by omega
  clear BT hbt k0 k1 k2 k3 k4 k5 k6 k7 k8 HX0 HX1 HWW HW hp1 hp2 hp3 hp4
  generalize w0.alloc (.cells #[.int .u32 0, .bool p1, .bool p2, .bool p3, .bool p4] 64) = w1 at *
  generalize w0.heap.size = gt at *
  have k0 := (HA1.out).cell 0 _ rfl
  have k1 := (HA1.out).cell 1 _ rfl
  by_cases hs1 : st = 1
  · have HIF : Hid (R = 0#32) := Lib.hid (by rw [← HR0.out, if_pos hs1])
    clear HR0
    subst hs1
    have z0 := (HT.out).cell 0 _ rfl
    have z1 := (HT.out).cell 1 _ rfl
    have z2 := (HT.out).cell 2 _ rfl
    have z3 := (HT.out).cell 3 _ rfl
    have z4 := (HT.out).cell 4 _ rfl
    have f0 := HB1.out.fr 0; have f1 := HB1.out.fr 1; have f2 := HB1.out.fr 2; have f3 := HB1.out.fr 3; have f4 := HB1.out.fr 4
    have j0 := (HB1.out).cell 0 _ rfl
    have j1 := (HB1.out).cell 1 _ rfl
    have j2 := (HB1.out).cell 2 _ rfl
    have j3 := (HB1.out).cell 3 _ rfl
    have j4 := (HB1.out).cell 4 _ rfl
    go_wp2_with fail
    have R5 := ((((HB1.out.set 0 (.int .u32 0)).set 1 (.bool p1)).set 2 (.bool p2)).set 3 (.bool p3)).set 4 (.bool p4)
    have r0 := (R5).cell 0 _ rfl
    have r1 := (R5).cell 1 _ rfl
    have r2 := (R5).cell 2 _ rfl
    have r3 := (R5).cell 3 _ rfl
    have r4 := (R5).cell 4 _ rfl
    exact bodyPost_ret (v := .agg #[.int .u32 0, .bool p1, .bool p2, .bool p3, .bool p4]) (by simp [results, Try.results27, go_sem, r0, r1, r2, r3, r4]) rfl ⟨by rw [HIF.out]; rfl, ((((HW1.out.setCell (p := ⟨g1, 0, none⟩) hg01 _).setCell (p := ⟨g1, 1, none⟩) hg01 _).setCell (p := ⟨g1, 2, none⟩) hg01 _).setCell (p := ⟨g1, 3, none⟩) hg01 _).setCell (p := ⟨g1, 4, none⟩) hg01 _⟩
  · have e1 : (st != 1) = true := by simpa using hs1
    have z0 := HT.out.cell 0 _ rfl
    have f0 := HT.out.fr 0
    go_upto_region 4 with fail
    have HT2 := Lib.hid (HT.out.set 0 (.int .u32 (bf.toNat : Int)))
    have HB2 := Lib.hid (HB1.out.other hne1 (i := 0) (.int .u32 (bf.toNat : Int)))
    have HW2 := Lib.hid (HW1.out.setCell (p := ⟨gt, 0, none⟩) hgT (.int .u32 (bf.toNat : Int)))
    clear z0 f0 HT HB1 HW1 k0 k1
    generalize w1.setCell ⟨gt, 0, none⟩ (.int .u32 (bf.toNat : Int)) = w2 at *
    have HT2' : Hid (Blk w2 gt [.int .u32 (bf.toNat : Int), .bool p1, .bool p2, .bool p3, .bool p4]) := HT2
    clear HT2
    have HIF : Hid (R = bf) := Lib.hid (by rw [← HR0.out, if_neg hs1])
    clear HR0
    clear e1 hs1
    have z0 := (HT2'.out).cell 0 _ rfl
    have z1 := (HT2'.out).cell 1 _ rfl
    have z2 := (HT2'.out).cell 2 _ rfl
    have z3 := (HT2'.out).cell 3 _ rfl
    have z4 := (HT2'.out).cell 4 _ rfl
    have f0 := HB2.out.fr 0; have f1 := HB2.out.fr 1; have f2 := HB2.out.fr 2; have f3 := HB2.out.fr 3; have f4 := HB2.out.fr 4
    have j0 := (HB2.out).cell 0 _ rfl
    have j1 := (HB2.out).cell 1 _ rfl
    have j2 := (HB2.out).cell 2 _ rfl
    have j3 := (HB2.out).cell 3 _ rfl
    have j4 := (HB2.out).cell 4 _ rfl
    go_wp2_with fail
    have R5 := ((((HB2.out.set 0 (.int .u32 (bf.toNat : Int))).set 1 (.bool p1)).set 2 (.bool p2)).set 3 (.bool p3)).set 4 (.bool p4)
    have r0 := (R5).cell 0 _ rfl
    have r1 := (R5).cell 1 _ rfl
    have r2 := (R5).cell 2 _ rfl
    have r3 := (R5).cell 3 _ rfl
    have r4 := (R5).cell 4 _ rfl
    exact bodyPost_ret (v := .agg #[.int .u32 (bf.toNat : Int), .bool p1, .bool p2, .bool p3, .bool p4]) (by simp [results, Try.results27, go_sem, r0, r1, r2, r3, r4]) rfl ⟨by rw [HIF.out], ((((HW2.out.setCell (p := ⟨g1, 0, none⟩) hg01 _).setCell (p := ⟨g1, 1, none⟩) hg01 _).setCell (p := ⟨g1, 2, none⟩) hg01 _).setCell (p := ⟨g1, 3, none⟩) hg01 _).setCell (p := ⟨g1, 4, none⟩) hg01 _⟩
theorem bit_inj {p i : Nat} (hp : p < 32) (hi : i < 32) : (((bit (p : Int)).toNat : Int) == ((bit (i : Int)).toNat : Int)) = decide (i = p) := by
  rw [Bool.eq_iff_iff, beq_iff_eq, decide_eq_true_eq]
  constructor
  · intro h
    have h2 : bit (p : Int) = bit (i : Int) := BitVec.eq_of_toNat_eq (by omega)
    have h3 := bitp hp p
    rw [h2, bitp hi] at h3
    simp at h3; omega
  · rintro rfl; rfl
theorem bit_pos {i : Nat} (hi : i < 32) : ((0 : Int) == ((bit (i : Int)).toNat : Int)) = false := by
  rw [beq_eq_false_iff_ne]
  intro h
  have h2 : bit (i : Int) = 0#32 := BitVec.eq_of_toNat_eq (by simp; omega)
  have h3 := bitp hi i
  rw [h2] at h3
  simp at h3
set_option maxHeartbeats 2000000 in
theorem floorAt_any (n : Int) (p : Nat) (w : World) (hn : 2 ≤ n ∧ n ≤ 31) (hp : (p : Int) < n) :
    Calls Try.prog 39 #[.int .i64 n, .int .u32 ((bit (p : Int)).toNat : Int)] w fun e w' => e = .returned (.int .i64 (p : Int)) ∧ Below w.heap.size w w' := by
  obtain ⟨hn1, hn2⟩ := hn
  have HOK : Hid (okB n = true) := Lib.hid (by unfold okB; simp; omega)
  go_enter Try.func39, Try.ntmps39
  go_wp2_with fail
  refine (refOk_any n w).mono ?_
  rw [HOK.out]
  rintro e w1 ⟨rfl, hb1⟩
  have HB := Lib.hid hb1
  clear hb1
  go_wp2_with fail
  go_loopw [5] (fun v wr => ∃ i : Nat, i ≤ p ∧ v = .int .i64 (i : Int) ∧ wr = w1) (fun v _ => 32 - (intOf v).toNat)
  case atStart => exact ⟨0, by omega, rfl, rfl⟩
  case round =>
    obtain ⟨i, hi, rfl, rfl⟩ := hrel
    have hd : decide ((i : Int) < n) = true := decide_eq_true (by omega)
    have hi0 : (0 : Int) ≤ (i : Int) := by omega
    have hpb := pow_bit (i : Int) (by omega) (by omega)
    rw [Int.toNat_natCast] at hpb
    have hbe := bit_inj (p := p) (i := i) (by omega) (by omega)
    generalize bit (p : Int) = bp at *
    generalize bit (i : Int) = bi at *
    by_cases hip : i = p
    · subst hip
      rw [decide_eq_true rfl] at hbe
      go_wp2_with fail
      go_ret
      exact ⟨rfl, HB.out⟩
    · rw [decide_eq_false hip] at hbe
      go_wp2_with fail
      exact ⟨⟨i + 1, by omega, by go_num, by first | rfl | trivial⟩, by simp [intOf]; omega⟩
set_option maxHeartbeats 2000000 in
theorem floorNo_any (n : Int) (w : World) (hn : 2 ≤ n ∧ n ≤ 31) :
    Calls Try.prog 39 #[.int .i64 n, .int .u32 0] w fun e w' => e = .returned (.int .i64 (-1)) ∧ Below w.heap.size w w' := by
  obtain ⟨hn1, hn2⟩ := hn
  have HOK : Hid (okB n = true) := Lib.hid (by unfold okB; simp; omega)
  go_enter Try.func39, Try.ntmps39
  go_wp2_with fail
  refine (refOk_any n w).mono ?_
  rw [HOK.out]
  rintro e w1 ⟨rfl, hb1⟩
  have HB := Lib.hid hb1
  clear hb1
  go_wp2_with fail
  go_loopw [5] (fun v wr => ∃ i : Nat, (i : Int) ≤ n ∧ v = .int .i64 (i : Int) ∧ wr = w1) (fun v _ => 32 - (intOf v).toNat)
  case atStart => exact ⟨0, by omega, rfl, rfl⟩
  case round =>
    obtain ⟨i, hi, rfl, rfl⟩ := hrel
    by_cases hlt : (i : Int) < n
    · have hd : decide ((i : Int) < n) = true := decide_eq_true hlt
      have hi0 : (0 : Int) ≤ (i : Int) := by omega
      have hpb := pow_bit (i : Int) (by omega) (by omega)
      rw [Int.toNat_natCast] at hpb
      have hbe := bit_pos (i := i) (by omega)
      generalize bit (i : Int) = bi at *
      go_wp2_with fail
      exact ⟨⟨i + 1, by omega, by go_num, by first | rfl | trivial⟩, by simp [intOf]; omega⟩
    · have hd : decide ((i : Int) < n) = false := decide_eq_false hlt
      go_wp2_with fail
      go_ret
      exact ⟨rfl, HB.out⟩
end Rel
end Go.Proofs.Ytfmmiafdlfdfoaa
