/- The walk over overlayref20.Coils. Conditions: cars and duties that can be read; slack times that are no more than the greatest number less one. -/
import Derived.Test.YtbhhjlemdpefkaaCoils
namespace Go.Proofs.Ytbhhjlemdpefkaa
open Go.RowKit
set_option maxHeartbeats 4000000 in
set_option maxRecDepth 100000 in
theorem refCoils_any (b : BldV) (q : Option Addr) (cap : Nat) (car p : Int) (s : BelV) (q' : Option Addr) (cap' : Nat) (w : World) (hlen : b.cars.length ≤ 1000) (hlen' : s.du.length ≤ 1000) (hsl : ∀ c ∈ b.cars, -9223372036854775808 ≤ c.sl ∧ c.sl < 9223372036854775807) (hr : RdC w q b.cars) (hd : RdD w q' s.du) :
    Calls Try.prog 11 #[cvB b q cap, .int .i64 car, .int .i64 p, cvS s q' cap'] w fun e w' => e = .returned (cvK (coilV b car p s) (!wiredOn b car p s)) ∧ Below w.heap.size w w' := by
  have X0 : Blk (w.alloc (.cells #[.int .i64 b.fl, .int .i64 b.deb, .int .i64 b.room, .int .i64 b.park, .float .f64 b.em, .float .f64 b.fu, .float .f64 b.ov, .slice q b.cars.length cap] 31)) w.heap.size [.int .i64 b.fl, .int .i64 b.deb, .int .i64 b.room, .int .i64 b.park, .float .f64 b.em, .float .f64 b.fu, .float .f64 b.ov, .slice q b.cars.length cap] := by
    have hx := Blk.new w [.int .i64 b.fl, .int .i64 b.deb, .int .i64 b.room, .int .i64 b.park, .float .f64 b.em, .float .f64 b.fu, .float .f64 b.ov, .slice q b.cars.length cap] 31
    exact hx
  replace X0 : Blk ((w.alloc (.cells #[.int .i64 b.fl, .int .i64 b.deb, .int .i64 b.room, .int .i64 b.park, .float .f64 b.em, .float .f64 b.fu, .float .f64 b.ov, .slice q b.cars.length cap] 31)).alloc (.cells #[.int .i64 s.fl, .int .i64 s.dir, .int .i64 s.door, .slice q' s.du.length cap', .int .i64 s.still, .bool s.late] 26)) w.heap.size [.int .i64 b.fl, .int .i64 b.deb, .int .i64 b.room, .int .i64 b.park, .float .f64 b.em, .float .f64 b.fu, .float .f64 b.ov, .slice q b.cars.length cap] := X0.next (below1' _ _)
  replace X0 : Blk (((w.alloc (.cells #[.int .i64 b.fl, .int .i64 b.deb, .int .i64 b.room, .int .i64 b.park, .float .f64 b.em, .float .f64 b.fu, .float .f64 b.ov, .slice q b.cars.length cap] 31)).alloc (.cells #[.int .i64 s.fl, .int .i64 s.dir, .int .i64 s.door, .slice q' s.du.length cap', .int .i64 s.still, .bool s.late] 26)).alloc (.cells #[.int .u32 0, .int .u32 0, .bool false] 41)) w.heap.size [.int .i64 b.fl, .int .i64 b.deb, .int .i64 b.room, .int .i64 b.park, .float .f64 b.em, .float .f64 b.fu, .float .f64 b.ov, .slice q b.cars.length cap] := X0.next (below1' _ _)
  have X1 : Blk ((w.alloc (.cells #[.int .i64 b.fl, .int .i64 b.deb, .int .i64 b.room, .int .i64 b.park, .float .f64 b.em, .float .f64 b.fu, .float .f64 b.ov, .slice q b.cars.length cap] 31)).alloc (.cells #[.int .i64 s.fl, .int .i64 s.dir, .int .i64 s.door, .slice q' s.du.length cap', .int .i64 s.still, .bool s.late] 26)) (w.heap.size + 1) [.int .i64 s.fl, .int .i64 s.dir, .int .i64 s.door, .slice q' s.du.length cap', .int .i64 s.still, .bool s.late] := by
    have hx := Blk.new (w.alloc (.cells #[.int .i64 b.fl, .int .i64 b.deb, .int .i64 b.room, .int .i64 b.park, .float .f64 b.em, .float .f64 b.fu, .float .f64 b.ov, .slice q b.cars.length cap] 31)) [.int .i64 s.fl, .int .i64 s.dir, .int .i64 s.door, .slice q' s.du.length cap', .int .i64 s.still, .bool s.late] 26
    rw [World.size_alloc] at hx
    exact hx
  replace X1 : Blk (((w.alloc (.cells #[.int .i64 b.fl, .int .i64 b.deb, .int .i64 b.room, .int .i64 b.park, .float .f64 b.em, .float .f64 b.fu, .float .f64 b.ov, .slice q b.cars.length cap] 31)).alloc (.cells #[.int .i64 s.fl, .int .i64 s.dir, .int .i64 s.door, .slice q' s.du.length cap', .int .i64 s.still, .bool s.late] 26)).alloc (.cells #[.int .u32 0, .int .u32 0, .bool false] 41)) (w.heap.size + 1) [.int .i64 s.fl, .int .i64 s.dir, .int .i64 s.door, .slice q' s.du.length cap', .int .i64 s.still, .bool s.late] := X1.next (below1' _ _)
  have X2 : Blk (((w.alloc (.cells #[.int .i64 b.fl, .int .i64 b.deb, .int .i64 b.room, .int .i64 b.park, .float .f64 b.em, .float .f64 b.fu, .float .f64 b.ov, .slice q b.cars.length cap] 31)).alloc (.cells #[.int .i64 s.fl, .int .i64 s.dir, .int .i64 s.door, .slice q' s.du.length cap', .int .i64 s.still, .bool s.late] 26)).alloc (.cells #[.int .u32 0, .int .u32 0, .bool false] 41)) (w.heap.size + 1 + 1) [.int .u32 0, .int .u32 0, .bool false] := by
    have hx := Blk.new ((w.alloc (.cells #[.int .i64 b.fl, .int .i64 b.deb, .int .i64 b.room, .int .i64 b.park, .float .f64 b.em, .float .f64 b.fu, .float .f64 b.ov, .slice q b.cars.length cap] 31)).alloc (.cells #[.int .i64 s.fl, .int .i64 s.dir, .int .i64 s.door, .slice q' s.du.length cap', .int .i64 s.still, .bool s.late] 26)) [.int .u32 0, .int .u32 0, .bool false] 41
    rw [World.size_alloc, World.size_alloc] at hx
    exact hx
  have XW : Below w.heap.size w (w.alloc (.cells #[.int .i64 b.fl, .int .i64 b.deb, .int .i64 b.room, .int .i64 b.park, .float .f64 b.em, .float .f64 b.fu, .float .f64 b.ov, .slice q b.cars.length cap] 31)) := below1' w _
  replace XW : Below w.heap.size w ((w.alloc (.cells #[.int .i64 b.fl, .int .i64 b.deb, .int .i64 b.room, .int .i64 b.park, .float .f64 b.em, .float .f64 b.fu, .float .f64 b.ov, .slice q b.cars.length cap] 31)).alloc (.cells #[.int .i64 s.fl, .int .i64 s.dir, .int .i64 s.door, .slice q' s.du.length cap', .int .i64 s.still, .bool s.late] 26)) := XW.trans ((below1' _ _).mono XW.size)
  replace XW : Below w.heap.size w (((w.alloc (.cells #[.int .i64 b.fl, .int .i64 b.deb, .int .i64 b.room, .int .i64 b.park, .float .f64 b.em, .float .f64 b.fu, .float .f64 b.ov, .slice q b.cars.length cap] 31)).alloc (.cells #[.int .i64 s.fl, .int .i64 s.dir, .int .i64 s.door, .slice q' s.du.length cap', .int .i64 s.still, .bool s.late] 26)).alloc (.cells #[.int .u32 0, .int .u32 0, .bool false] 41)) := XW.trans ((below1' _ _).mono XW.size)
  have HWW := Lib.hid XW; have HX0 := Lib.hid X0; have HX1 := Lib.hid X1; have HX2 := Lib.hid X2
  clear XW X0 X1 X2
  have HR := Lib.hid (hr.next HWW.out); have HD := Lib.hid (hd.next HWW.out)
  clear hr hd
  have HSL := Lib.hid hsl
  clear hsl
  have HL1 := Lib.hid hlen; have HL2 := Lib.hid hlen'
  go_enter Try.func11, Try.ntmps11
  go_upto_region 1 with fail
  generalize (((w.alloc (.cells #[.int .i64 b.fl, .int .i64 b.deb, .int .i64 b.room, .int .i64 b.park, .float .f64 b.em, .float .f64 b.fu, .float .f64 b.ov, .slice q b.cars.length cap] 31)).alloc (.cells #[.int .i64 s.fl, .int .i64 s.dir, .int .i64 s.door, .slice q' s.du.length cap', .int .i64 s.still, .bool s.late] 26)).alloc (.cells #[.int .u32 0, .int .u32 0, .bool false] 41)) = w0 at *
  generalize hg2 : w.heap.size + 1 + 1 = g2 at *
  generalize hg1 : w.heap.size + 1 = g1 at *
  have HG1 := Lib.hid hg1; have hq1 : w.heap.size + 1 ≤ g1 := by omega
  have HG2 := Lib.hid hg2; have hq2 : w.heap.size + 2 ≤ g2 := by omega
  clear hg1 hg2
  have HW := Lib.hid (Below.refl w0.heap.size w0)
  have hz0 := HX0.out.lt; have hz1 := HX1.out.lt; have hz2 := HX2.out.lt
  have k0 := (HX0.out).cell 0 _ rfl
  have k1 := (HX0.out).cell 1 _ rfl
  have k2 := (HX0.out).cell 2 _ rfl
  have k3 := (HX0.out).cell 3 _ rfl
  have k4 := (HX0.out).cell 4 _ rfl
  have k5 := (HX0.out).cell 5 _ rfl
  have k6 := (HX0.out).cell 6 _ rfl
  have k7 := (HX0.out).cell 7 _ rfl
  have j0 := (HX1.out).cell 0 _ rfl
  have j1 := (HX1.out).cell 1 _ rfl
  have j2 := (HX1.out).cell 2 _ rfl
  have j3 := (HX1.out).cell 3 _ rfl
  have j4 := (HX1.out).cell 4 _ rfl
  have j5 := (HX1.out).cell 5 _ rfl
  have hfin : ∀ (wr : World) (x y : Int) (o : Bool), Below w0.heap.size w0 wr → Blk (((wr.setCell ⟨g2, 0, none⟩ (.int .u32 x)).setCell ⟨g2, 1, none⟩ (.int .u32 y)).setCell ⟨g2, 2, none⟩ (.bool o)) g2 [.int .u32 x, .int .u32 y, .bool o] ∧ Below w.heap.size w (((wr.setCell ⟨g2, 0, none⟩ (.int .u32 x)).setCell ⟨g2, 1, none⟩ (.int .u32 y)).setCell ⟨g2, 2, none⟩ (.bool o)) := by
    intro wr x y o hb
    refine ⟨(((HX2.out.later hb hz2).set 0 _).set 1 _).set 2 _, (((HWW.out.trans (hb.mono HWW.out.size)).setCell (p := ⟨g2, 0, none⟩) (by show w.heap.size ≤ g2; omega) _).setCell (p := ⟨g2, 1, none⟩) (by show w.heap.size ≤ g2; omega) _).setCell (p := ⟨g2, 2, none⟩) (by show w.heap.size ≤ g2; omega) _⟩
  have HF := Lib.hid hfin
  clear hfin
  have c0 := base_cell HW.out
  have hsp : (p = 0 ∧ wiredB p = true) ∨ (¬ p = 0 ∧ p = 1 ∧ wiredB p = true) ∨ (¬ p = 0 ∧ ¬ p = 1 ∧ wiredB p = false) := by
    by_cases h0 : p = 0
    · exact .inl ⟨h0, by simp [wiredB, h0]⟩
    · by_cases h1 : p = 1
      · exact .inr (.inl ⟨h0, h1, by simp [wiredB, h1]⟩)
      · exact .inr (.inr ⟨h0, h1, by simp [wiredB, h0, h1]⟩)
  rcases hsp with ⟨h0, e1⟩ | ⟨h0, h1, e1⟩ | ⟨h0, h1, e1⟩
  rotate_left 2
  · have E1 := Lib.hid e1
    have q1 : (p != 0) = true := by simpa using h0
    have q2 : (p != 1) = true := by simpa using h1
    clear e1 h0 h1 c0
    have R1 := HX2.out.later HW.out hz2
    have z0 := (HX2.out).cell 0 _ rfl
    have z1 := (HX2.out).cell 1 _ rfl
    have z2 := (HX2.out).cell 2 _ rfl
    have f0 := R1.fr 0; have f1 := R1.fr 1; have f2 := R1.fr 2
    clear R1
    go_wp2_with fail
    obtain ⟨R8, hbf⟩ := HF.out w0 0 0 true HW.out
    have r0 := (R8).cell 0 _ rfl
    have r1 := (R8).cell 1 _ rfl
    have r2 := (R8).cell 2 _ rfl
    exact bodyPost_ret (v := cvK (0#32, 0#32) true) (by simp [results, Try.results11, go_sem, r0, r1, r2]) rfl ⟨by simp [coilV, wiredOn, E1.out], hbf⟩
  · have E1 := Lib.hid e1
    have q1 : (p != 0) = false := by simpa using h0
    clear e1 h0
    go_wp2_with fail
    refine (refIsState_any b q cap car s q' cap' _ HL1.out HL2.out HSL.out (HR.out.next HW.out) (HD.out.next HW.out)).mono ?_
    rintro e w2 ⟨rfl, hbn⟩
    have HWn := Lib.hid (HW.out.trans (hbn.mono HW.out.size))
    try clear c0
    clear HW hbn
    have HW := HWn
    clear HWn
    have c0 := base_cell HW.out
    cases e2 : stateB b car s
    · have E2 := Lib.hid e2
      clear e2
      have R1 := HX2.out.later HW.out hz2
      have z0 := (HX2.out).cell 0 _ rfl
      have z1 := (HX2.out).cell 1 _ rfl
      have z2 := (HX2.out).cell 2 _ rfl
      have f0 := R1.fr 0; have f1 := R1.fr 1; have f2 := R1.fr 2
      clear R1
      go_wp2_with fail
      obtain ⟨R8, hbf⟩ := HF.out w2 0 0 true HW.out
      have r0 := (R8).cell 0 _ rfl
      have r1 := (R8).cell 1 _ rfl
      have r2 := (R8).cell 2 _ rfl
      exact bodyPost_ret (v := cvK (0#32, 0#32) true) (by simp [results, Try.results11, go_sem, r0, r1, r2]) rfl ⟨by simp [coilV, wiredOn, E1.out, E2.out], hbf⟩
    · have E2 := Lib.hid e2
      obtain ⟨cc, hcn, hcl, hcg, hpu⟩ := car_pu b car (stateB_car _ _ _ e2)
      have hval : coilV b car p s = coilC cc.pu s.du ∧ wiredOn b car p s = true := by simp [coilV, wiredOn, E1.out, E2.out, hpu]
      have X3 := Lib.hid hcg
      have HV := Lib.hid hval
      clear e2 hcg hpu hval
      have C0 := Blk.new w2 [.int .u32 0, .int .u32 0, .bool false] 41
      change Blk (w2.alloc (.cells #[.int .u32 0, .int .u32 0, .bool false] 41)) _ _ at C0
      have hbe := below1' w2 (.cells #[.int .u32 0, .int .u32 0, .bool false] 41)
      have hg9 : w0.heap.size ≤ w2.heap.size := HW.out.size
      have HWn := Lib.hid (HW.out.trans (hbe.mono HW.out.size))
      clear HW c0 hbe
      have HW := HWn
      have c0 := base_cell HW.out
      have HC := Lib.hid C0
      clear C0 HWn
      obtain ⟨n, hn⟩ : ∃ n, n = s.du.length := ⟨_, rfl⟩
      rw [← hn] at hlen'
      have HN := Lib.hid hn
      rw [← hn] at j3
      clear hn
      go_wp2_with fail
      generalize w2.alloc (.cells #[.int .u32 0, .int .u32 0, .bool false] 41) = w3 at *
      generalize w2.heap.size = g9 at *
      go_loopw [10] (fun v wr => ∃ i : Nat, i ≤ n ∧ v = .int .i64 i ∧ Blk wr g9 (kC (coilC cc.pu (s.du.take i)) false) ∧ Below w0.heap.size w0 wr) (fun v _ => n - (intOf v).toNat)
      case atStart => exact ⟨0, by omega, rfl, HC.out, HW.out⟩
      case round =>
        clear c0 HW HC
        obtain ⟨i, hi', rfl, BC, hb⟩ := hrel
        have c0 := base_cell hb
        have HC := Lib.hid BC
        have HW := Lib.hid hb
        clear BC hb
        by_cases hlt : i < n
        · have hd : decide ((i : Int) < (n : Int)) = true := by simp; omega
          obtain ⟨d, hdu⟩ : ∃ d, s.du[i]? = some d := ⟨_, List.getElem?_eq_getElem (by rw [← HN.out]; exact hlt)⟩
          obtain ⟨A, hq, hA, d0, d1, d2⟩ := (HD.out.next HW.out).at hdu
          have X5 := Lib.hid hdu
          subst hq
          clear hdu
          have hgd : g9 < wr.heap.size := HC.out.lt
          have hcell : ∀ W, Grow.Cl wr.drew W → RdD W (some A) s.du := fun W h => (HD.out.next HW.out).next (Grow.Cl.base h)
          have hi0 : (0 : Int) ≤ (i : Int) := by omega
          have hin : (i : Int) < (n : Int) := by omega
          go_upto_region 7 with fail
          clear c0 d0 d1 d2 hA hd hcell
          have HW2 := HW
          have HC2 := HC
          obtain ⟨A2, hq3, hA3, d0, d1, d2⟩ := (HD.out.next HW2.out).reg X5.out
          obtain rfl : A = A2 := by simpa using hq3
          have s3 := (HX1.out.later HW2.out hz1).reg 3 _ rfl
          rw [← HN.out] at s3
          clear hq3 hA3
          have t7 := (HX0.out.later HW2.out hz0).reg 7 _ rfl
          obtain ⟨A', hq2, hA2, q0⟩ := (HR.out.next HW2.out).reg1 X3.out
          have X6 := Lib.hid hA2
          subst hq2
          clear hA2
          (refine Grow.wp_region Grow.noPlan Grow.noPlan_stable (by kernel_rfl) (by kernel_rfl) ?_; intro opsq Hopsq)
          repeat (first | (refine Grow.lex_move rfl ?_ rfl ?_; (· first | exact Grow.wanted_none | (rw [Hopsq.out]; rfl)); intro K hK; simp only [Grow.put_lit, Grow.setAt, Grow.eval_lit, Grow.ev]; refine hK _ _ ?_; clear hK K) | (refine Grow.lex_assign rfl ?_ rfl ?_; (· first | exact Grow.wanted_none | (rw [Hopsq.out]; rfl)); intro K hK; simp only [Grow.put_lit, Grow.setAt, Grow.eval_lit, Grow.ev]; refine hK _ _ ?_; clear hK K) | (refine Grow.lex_plain rfl rfl ?_ rfl ?_; (· first | exact Grow.wanted_none | (rw [Hopsq.out]; rfl)); apply Exists.intro; refine ⟨fun wq hCq _ => ?_, ?_⟩; (· (go_wp2_with fail; refine ⟨rfl, Below.refl _ _, ?_⟩; simp only [Grow.getD_lit, Grow.nth]; rfl)); intro K hK; simp only [Grow.put_lit, Grow.setAt]; refine hK _ _ ?_; clear hK K) | (refine Grow.lex_skip ?_ ?_; (· (rw [Hopsq.out]; rfl)); intro K hK; simp only [Grow.put_lit, Grow.setAt]; refine hK _ _ ?_; clear hK K))
          (refine Grow.lex_nil ?_; intro w7 hb7 _; replace hb7 := Grow.Cl.base hb7; clear Hopsq opsq)
          have HW3 := Lib.hid (HW2.out.trans (hb7.mono HW2.out.size))
          have HC3 := Lib.hid (HC2.out.next hb7)
          have HS := Lib.hid (coilC_snoc cc.pu s.du i d X5.out)
          clear hb7 HW HC HW2 HC2 t7 d0 d1 d2 s3 q0
          cases e3 : decide (d.2.2 < cc.pu)
          · have E3 := Lib.hid e3
            go_wp2_with fail
            exact ⟨⟨i + 1, by omega, by go_num, by rw [HS.out, if_neg (by simpa using E3.out)]; exact HC3.out, HW3.out⟩, by simp [intOf]; omega⟩
          · have E3 := Lib.hid e3
            go_upto_region 8 with fail
            clear e3
            generalize hcc : coilC cc.pu (s.du.take i) = c at *
            obtain ⟨A2, hq3, hA3, d0, d1, d2⟩ := (HD.out.next HW3.out).reg X5.out
            obtain rfl : A = A2 := by simpa using hq3
            have s3 := (HX1.out.later HW3.out hz1).reg 3 _ rfl
            rw [← HN.out] at s3
            clear hq3 hA3
            have s0 := (HC3.out).reg 0 _ rfl
            have s1 := (HC3.out).reg 1 _ rfl
            (refine Grow.wp_region_tail 17 Grow.noPlan Grow.noPlan_stable (by kernel_rfl) (by kernel_rfl) ?_; intro opsq Hopsq; simp only [List.take_succ_cons, List.take_zero, List.drop_succ_cons, List.drop_zero])
            repeat (first | (refine Grow.lex_move rfl ?_ rfl ?_; (· first | exact Grow.wanted_none | (rw [Hopsq.out]; rfl)); intro K hK; simp only [Grow.put_lit, Grow.setAt, Grow.eval_lit, Grow.ev]; refine hK _ _ ?_; clear hK K) | (refine Grow.lex_assign rfl ?_ rfl ?_; (· first | exact Grow.wanted_none | (rw [Hopsq.out]; rfl)); intro K hK; simp only [Grow.put_lit, Grow.setAt, Grow.eval_lit, Grow.ev]; refine hK _ _ ?_; clear hK K) | (refine Grow.lex_plain rfl rfl ?_ rfl ?_; (· first | exact Grow.wanted_none | (rw [Hopsq.out]; rfl)); apply Exists.intro; refine ⟨fun wq hCq _ => ?_, ?_⟩; (· (go_wp2_with fail; refine ⟨rfl, Below.refl _ _, ?_⟩; simp only [Grow.getD_lit, Grow.nth]; rfl)); intro K hK; simp only [Grow.put_lit, Grow.setAt]; refine hK _ _ ?_; clear hK K) | (refine Grow.lex_skip ?_ ?_; (· (rw [Hopsq.out]; rfl)); intro K hK; simp only [Grow.put_lit, Grow.setAt]; refine hK _ _ ?_; clear hK K))
            (refine Grow.lex_call ?_ rfl ?_; (· first | exact Grow.wanted_none | (rw [Hopsq.out]; rfl)); apply Exists.intro; apply Exists.intro; refine ⟨fun wq => ?_, ?_⟩; (· (go_simp; exact ⟨rfl, rfl⟩)); apply Exists.intro; refine ⟨fun wq hCq hKq => ?_, ?_⟩; (· exact refOne_any d.1 d.2.1 _); intro K hK; simp only [Grow.put_lit, Grow.setAt]; refine hK _ _ ?_; clear hK K)
            repeat (first | (refine Grow.lex_move rfl ?_ rfl ?_; (· first | exact Grow.wanted_none | (rw [Hopsq.out]; rfl)); intro K hK; simp only [Grow.put_lit, Grow.setAt, Grow.eval_lit, Grow.ev]; refine hK _ _ ?_; clear hK K) | (refine Grow.lex_assign rfl ?_ rfl ?_; (· first | exact Grow.wanted_none | (rw [Hopsq.out]; rfl)); intro K hK; simp only [Grow.put_lit, Grow.setAt, Grow.eval_lit, Grow.ev]; refine hK _ _ ?_; clear hK K) | (refine Grow.lex_plain rfl rfl ?_ rfl ?_; (· first | exact Grow.wanted_none | (rw [Hopsq.out]; rfl)); apply Exists.intro; refine ⟨fun wq hCq _ => ?_, ?_⟩; (· (go_wp2_with fail; refine ⟨rfl, Below.refl _ _, ?_⟩; simp only [Grow.getD_lit, Grow.nth]; rfl)); intro K hK; simp only [Grow.put_lit, Grow.setAt]; refine hK _ _ ?_; clear hK K) | (refine Grow.lex_skip ?_ ?_; (· (rw [Hopsq.out]; rfl)); intro K hK; simp only [Grow.put_lit, Grow.setAt]; refine hK _ _ ?_; clear hK K))
            (refine Grow.lex_call ?_ rfl ?_; (· first | exact Grow.wanted_none | (rw [Hopsq.out]; rfl)); apply Exists.intro; apply Exists.intro; refine ⟨fun wq => ?_, ?_⟩; (· (go_simp; exact ⟨rfl, rfl⟩)); apply Exists.intro; refine ⟨fun wq hCq hKq => ?_, ?_⟩; (· exact refUnion_any c (one d.1 d.2.1) _); intro K hK; simp only [Grow.put_lit, Grow.setAt]; refine hK _ _ ?_; clear hK K)
            repeat (first | (refine Grow.lex_move rfl ?_ rfl ?_; (· first | exact Grow.wanted_none | (rw [Hopsq.out]; rfl)); intro K hK; simp only [Grow.put_lit, Grow.setAt, Grow.eval_lit, Grow.ev]; refine hK _ _ ?_; clear hK K) | (refine Grow.lex_assign rfl ?_ rfl ?_; (· first | exact Grow.wanted_none | (rw [Hopsq.out]; rfl)); intro K hK; simp only [Grow.put_lit, Grow.setAt, Grow.eval_lit, Grow.ev]; refine hK _ _ ?_; clear hK K) | (refine Grow.lex_plain rfl rfl ?_ rfl ?_; (· first | exact Grow.wanted_none | (rw [Hopsq.out]; rfl)); apply Exists.intro; refine ⟨fun wq hCq _ => ?_, ?_⟩; (· (go_wp2_with fail; refine ⟨rfl, Below.refl _ _, ?_⟩; simp only [Grow.getD_lit, Grow.nth]; rfl)); intro K hK; simp only [Grow.put_lit, Grow.setAt]; refine hK _ _ ?_; clear hK K) | (refine Grow.lex_skip ?_ ?_; (· (rw [Hopsq.out]; rfl)); intro K hK; simp only [Grow.put_lit, Grow.setAt]; refine hK _ _ ?_; clear hK K))
            (refine Grow.lex_nil ?_; intro w8 hb8 _; replace hb8 := Grow.Cl.base hb8; clear Hopsq opsq)
            have BC := HC3.out.next hb8
            have z0 := (BC).cell 0 _ rfl
            have z1 := (BC).cell 1 _ rfl
            have f0 := BC.fr 0; have f1 := BC.fr 1
            have HC4 := Lib.hid BC
            have HW4 := Lib.hid (HW3.out.trans (hb8.mono HW3.out.size))
            clear BC hb8 d0 d1 d2 s3 s0 s1
            go_wp2_with fail
            refine ⟨⟨i + 1, by omega, by go_num, ?_, (HW4.out.setCell (p := ⟨g9, 0, none⟩) (by show w0.heap.size ≤ g9; omega) _).setCell (p := ⟨g9, 1, none⟩) (by show w0.heap.size ≤ g9; omega) _⟩, by simp [intOf]; omega⟩
            rw [HS.out, if_pos (by simpa using E3.out)]
            exact (HC4.out.set 0 _).set 1 _
        · have hd : decide ((i : Int) < (n : Int)) = false := by simp; omega
          obtain rfl : i = n := by omega
          have ht : s.du.take i = s.du := by rw [HN.out, List.take_length]
          have BC := HC.out
          rw [ht] at BC
          generalize hcc : coilC cc.pu s.du = c at *
          have H0 := Lib.hid hcc
          clear hcc
          have HC2 := Lib.hid BC
          have s0 := (BC).cell 0 _ rfl
          have s1 := (BC).cell 1 _ rfl
          have s2 := (BC).cell 2 _ rfl
          have R1 := HX2.out.later HW.out hz2
          have z0 := (HX2.out).cell 0 _ rfl
          have z1 := (HX2.out).cell 1 _ rfl
          have z2 := (HX2.out).cell 2 _ rfl
          have f0 := R1.fr 0; have f1 := R1.fr 1; have f2 := R1.fr 2
          clear R1 BC ht
          go_wp2_with fail
          obtain ⟨R8, hbf⟩ := HF.out wr (c.1.toNat : Int) (c.2.toNat : Int) false HW.out
          have r0 := (R8).cell 0 _ rfl
          have r1 := (R8).cell 1 _ rfl
          have r2 := (R8).cell 2 _ rfl
          exact bodyPost_ret (v := cvK c false) (by simp [results, Try.results11, go_sem, r0, r1, r2]) rfl ⟨by rw [HV.out.1, HV.out.2, ← H0.out]; rfl, hbf⟩
  · have E1 := Lib.hid e1
    have q1 : (p != 0) = true := by simpa using h0
    have q2 : (p != 1) = false := by simpa using h1
    clear e1 h0 h1
    go_wp2_with fail
    refine (refIsState_any b q cap car s q' cap' _ HL1.out HL2.out HSL.out (HR.out.next HW.out) (HD.out.next HW.out)).mono ?_
    rintro e w2 ⟨rfl, hbn⟩
    have HWn := Lib.hid (HW.out.trans (hbn.mono HW.out.size))
    try clear c0
    clear HW hbn
    have HW := HWn
    clear HWn
    have c0 := base_cell HW.out
    cases e2 : stateB b car s
    · have E2 := Lib.hid e2
      clear e2
      have R1 := HX2.out.later HW.out hz2
      have z0 := (HX2.out).cell 0 _ rfl
      have z1 := (HX2.out).cell 1 _ rfl
      have z2 := (HX2.out).cell 2 _ rfl
      have f0 := R1.fr 0; have f1 := R1.fr 1; have f2 := R1.fr 2
      clear R1
      go_wp2_with fail
      obtain ⟨R8, hbf⟩ := HF.out w2 0 0 true HW.out
      have r0 := (R8).cell 0 _ rfl
      have r1 := (R8).cell 1 _ rfl
      have r2 := (R8).cell 2 _ rfl
      exact bodyPost_ret (v := cvK (0#32, 0#32) true) (by simp [results, Try.results11, go_sem, r0, r1, r2]) rfl ⟨by simp [coilV, wiredOn, E1.out, E2.out], hbf⟩
    · have E2 := Lib.hid e2
      obtain ⟨cc, hcn, hcl, hcg, hpu⟩ := car_pu b car (stateB_car _ _ _ e2)
      have hval : coilV b car p s = coilC cc.pu s.du ∧ wiredOn b car p s = true := by simp [coilV, wiredOn, E1.out, E2.out, hpu]
      have X3 := Lib.hid hcg
      have HV := Lib.hid hval
      clear e2 hcg hpu hval
      have C0 := Blk.new w2 [.int .u32 0, .int .u32 0, .bool false] 41
      change Blk (w2.alloc (.cells #[.int .u32 0, .int .u32 0, .bool false] 41)) _ _ at C0
      have hbe := below1' w2 (.cells #[.int .u32 0, .int .u32 0, .bool false] 41)
      have hg9 : w0.heap.size ≤ w2.heap.size := HW.out.size
      have HWn := Lib.hid (HW.out.trans (hbe.mono HW.out.size))
      clear HW c0 hbe
      have HW := HWn
      have c0 := base_cell HW.out
      have HC := Lib.hid C0
      clear C0 HWn
      obtain ⟨n, hn⟩ : ∃ n, n = s.du.length := ⟨_, rfl⟩
      rw [← hn] at hlen'
      have HN := Lib.hid hn
      rw [← hn] at j3
      clear hn
      go_wp2_with fail
      generalize w2.alloc (.cells #[.int .u32 0, .int .u32 0, .bool false] 41) = w3 at *
      generalize w2.heap.size = g9 at *
      go_loopw [10] (fun v wr => ∃ i : Nat, i ≤ n ∧ v = .int .i64 i ∧ Blk wr g9 (kC (coilC cc.pu (s.du.take i)) false) ∧ Below w0.heap.size w0 wr) (fun v _ => n - (intOf v).toNat)
      case atStart => exact ⟨0, by omega, rfl, HC.out, HW.out⟩
      case round =>
        clear c0 HW HC
        obtain ⟨i, hi', rfl, BC, hb⟩ := hrel
        have c0 := base_cell hb
        have HC := Lib.hid BC
        have HW := Lib.hid hb
        clear BC hb
        by_cases hlt : i < n
        · have hd : decide ((i : Int) < (n : Int)) = true := by simp; omega
          obtain ⟨d, hdu⟩ : ∃ d, s.du[i]? = some d := ⟨_, List.getElem?_eq_getElem (by rw [← HN.out]; exact hlt)⟩
          obtain ⟨A, hq, hA, d0, d1, d2⟩ := (HD.out.next HW.out).at hdu
          have X5 := Lib.hid hdu
          subst hq
          clear hdu
          have hgd : g9 < wr.heap.size := HC.out.lt
          have hcell : ∀ W, Grow.Cl wr.drew W → RdD W (some A) s.du := fun W h => (HD.out.next HW.out).next (Grow.Cl.base h)
          have hi0 : (0 : Int) ≤ (i : Int) := by omega
          have hin : (i : Int) < (n : Int) := by omega
          go_upto_region 7 with fail
          clear c0 d0 d1 d2 hA hd hcell
          have HW2 := HW
          have HC2 := HC
          obtain ⟨A2, hq3, hA3, d0, d1, d2⟩ := (HD.out.next HW2.out).reg X5.out
          obtain rfl : A = A2 := by simpa using hq3
          have s3 := (HX1.out.later HW2.out hz1).reg 3 _ rfl
          rw [← HN.out] at s3
          clear hq3 hA3
          have t7 := (HX0.out.later HW2.out hz0).reg 7 _ rfl
          obtain ⟨A', hq2, hA2, q0⟩ := (HR.out.next HW2.out).reg1 X3.out
          have X6 := Lib.hid hA2
          subst hq2
          clear hA2
          (refine Grow.wp_region Grow.noPlan Grow.noPlan_stable (by kernel_rfl) (by kernel_rfl) ?_; intro opsq Hopsq)
          repeat (first | (refine Grow.lex_move rfl ?_ rfl ?_; (· first | exact Grow.wanted_none | (rw [Hopsq.out]; rfl)); intro K hK; simp only [Grow.put_lit, Grow.setAt, Grow.eval_lit, Grow.ev]; refine hK _ _ ?_; clear hK K) | (refine Grow.lex_assign rfl ?_ rfl ?_; (· first | exact Grow.wanted_none | (rw [Hopsq.out]; rfl)); intro K hK; simp only [Grow.put_lit, Grow.setAt, Grow.eval_lit, Grow.ev]; refine hK _ _ ?_; clear hK K) | (refine Grow.lex_plain rfl rfl ?_ rfl ?_; (· first | exact Grow.wanted_none | (rw [Hopsq.out]; rfl)); apply Exists.intro; refine ⟨fun wq hCq _ => ?_, ?_⟩; (· (go_wp2_with fail; refine ⟨rfl, Below.refl _ _, ?_⟩; simp only [Grow.getD_lit, Grow.nth]; rfl)); intro K hK; simp only [Grow.put_lit, Grow.setAt]; refine hK _ _ ?_; clear hK K) | (refine Grow.lex_skip ?_ ?_; (· (rw [Hopsq.out]; rfl)); intro K hK; simp only [Grow.put_lit, Grow.setAt]; refine hK _ _ ?_; clear hK K))
          (refine Grow.lex_nil ?_; intro w7 hb7 _; replace hb7 := Grow.Cl.base hb7; clear Hopsq opsq)
          have HW3 := Lib.hid (HW2.out.trans (hb7.mono HW2.out.size))
          have HC3 := Lib.hid (HC2.out.next hb7)
          have HS := Lib.hid (coilC_snoc cc.pu s.du i d X5.out)
          clear hb7 HW HC HW2 HC2 t7 d0 d1 d2 s3 q0
          cases e3 : decide (d.2.2 < cc.pu)
          · have E3 := Lib.hid e3
            go_wp2_with fail
            exact ⟨⟨i + 1, by omega, by go_num, by rw [HS.out, if_neg (by simpa using E3.out)]; exact HC3.out, HW3.out⟩, by simp [intOf]; omega⟩
          · have E3 := Lib.hid e3
            go_upto_region 8 with fail
            clear e3
            generalize hcc : coilC cc.pu (s.du.take i) = c at *
            obtain ⟨A2, hq3, hA3, d0, d1, d2⟩ := (HD.out.next HW3.out).reg X5.out
            obtain rfl : A = A2 := by simpa using hq3
            have s3 := (HX1.out.later HW3.out hz1).reg 3 _ rfl
            rw [← HN.out] at s3
            clear hq3 hA3
            have s0 := (HC3.out).reg 0 _ rfl
            have s1 := (HC3.out).reg 1 _ rfl
            (refine Grow.wp_region_tail 17 Grow.noPlan Grow.noPlan_stable (by kernel_rfl) (by kernel_rfl) ?_; intro opsq Hopsq; simp only [List.take_succ_cons, List.take_zero, List.drop_succ_cons, List.drop_zero])
            repeat (first | (refine Grow.lex_move rfl ?_ rfl ?_; (· first | exact Grow.wanted_none | (rw [Hopsq.out]; rfl)); intro K hK; simp only [Grow.put_lit, Grow.setAt, Grow.eval_lit, Grow.ev]; refine hK _ _ ?_; clear hK K) | (refine Grow.lex_assign rfl ?_ rfl ?_; (· first | exact Grow.wanted_none | (rw [Hopsq.out]; rfl)); intro K hK; simp only [Grow.put_lit, Grow.setAt, Grow.eval_lit, Grow.ev]; refine hK _ _ ?_; clear hK K) | (refine Grow.lex_plain rfl rfl ?_ rfl ?_; (· first | exact Grow.wanted_none | (rw [Hopsq.out]; rfl)); apply Exists.intro; refine ⟨fun wq hCq _ => ?_, ?_⟩; (· (go_wp2_with fail; refine ⟨rfl, Below.refl _ _, ?_⟩; simp only [Grow.getD_lit, Grow.nth]; rfl)); intro K hK; simp only [Grow.put_lit, Grow.setAt]; refine hK _ _ ?_; clear hK K) | (refine Grow.lex_skip ?_ ?_; (· (rw [Hopsq.out]; rfl)); intro K hK; simp only [Grow.put_lit, Grow.setAt]; refine hK _ _ ?_; clear hK K))
            (refine Grow.lex_call ?_ rfl ?_; (· first | exact Grow.wanted_none | (rw [Hopsq.out]; rfl)); apply Exists.intro; apply Exists.intro; refine ⟨fun wq => ?_, ?_⟩; (· (go_simp; exact ⟨rfl, rfl⟩)); apply Exists.intro; refine ⟨fun wq hCq hKq => ?_, ?_⟩; (· exact refOne_any d.1 d.2.1 _); intro K hK; simp only [Grow.put_lit, Grow.setAt]; refine hK _ _ ?_; clear hK K)
            repeat (first | (refine Grow.lex_move rfl ?_ rfl ?_; (· first | exact Grow.wanted_none | (rw [Hopsq.out]; rfl)); intro K hK; simp only [Grow.put_lit, Grow.setAt, Grow.eval_lit, Grow.ev]; refine hK _ _ ?_; clear hK K) | (refine Grow.lex_assign rfl ?_ rfl ?_; (· first | exact Grow.wanted_none | (rw [Hopsq.out]; rfl)); intro K hK; simp only [Grow.put_lit, Grow.setAt, Grow.eval_lit, Grow.ev]; refine hK _ _ ?_; clear hK K) | (refine Grow.lex_plain rfl rfl ?_ rfl ?_; (· first | exact Grow.wanted_none | (rw [Hopsq.out]; rfl)); apply Exists.intro; refine ⟨fun wq hCq _ => ?_, ?_⟩; (· (go_wp2_with fail; refine ⟨rfl, Below.refl _ _, ?_⟩; simp only [Grow.getD_lit, Grow.nth]; rfl)); intro K hK; simp only [Grow.put_lit, Grow.setAt]; refine hK _ _ ?_; clear hK K) | (refine Grow.lex_skip ?_ ?_; (· (rw [Hopsq.out]; rfl)); intro K hK; simp only [Grow.put_lit, Grow.setAt]; refine hK _ _ ?_; clear hK K))
            (refine Grow.lex_call ?_ rfl ?_; (· first | exact Grow.wanted_none | (rw [Hopsq.out]; rfl)); apply Exists.intro; apply Exists.intro; refine ⟨fun wq => ?_, ?_⟩; (· (go_simp; exact ⟨rfl, rfl⟩)); apply Exists.intro; refine ⟨fun wq hCq hKq => ?_, ?_⟩; (· exact refUnion_any c (one d.1 d.2.1) _); intro K hK; simp only [Grow.put_lit, Grow.setAt]; refine hK _ _ ?_; clear hK K)
            repeat (first | (refine Grow.lex_move rfl ?_ rfl ?_; (· first | exact Grow.wanted_none | (rw [Hopsq.out]; rfl)); intro K hK; simp only [Grow.put_lit, Grow.setAt, Grow.eval_lit, Grow.ev]; refine hK _ _ ?_; clear hK K) | (refine Grow.lex_assign rfl ?_ rfl ?_; (· first | exact Grow.wanted_none | (rw [Hopsq.out]; rfl)); intro K hK; simp only [Grow.put_lit, Grow.setAt, Grow.eval_lit, Grow.ev]; refine hK _ _ ?_; clear hK K) | (refine Grow.lex_plain rfl rfl ?_ rfl ?_; (· first | exact Grow.wanted_none | (rw [Hopsq.out]; rfl)); apply Exists.intro; refine ⟨fun wq hCq _ => ?_, ?_⟩; (· (go_wp2_with fail; refine ⟨rfl, Below.refl _ _, ?_⟩; simp only [Grow.getD_lit, Grow.nth]; rfl)); intro K hK; simp only [Grow.put_lit, Grow.setAt]; refine hK _ _ ?_; clear hK K) | (refine Grow.lex_skip ?_ ?_; (· (rw [Hopsq.out]; rfl)); intro K hK; simp only [Grow.put_lit, Grow.setAt]; refine hK _ _ ?_; clear hK K))
            (refine Grow.lex_nil ?_; intro w8 hb8 _; replace hb8 := Grow.Cl.base hb8; clear Hopsq opsq)
            have BC := HC3.out.next hb8
            have z0 := (BC).cell 0 _ rfl
            have z1 := (BC).cell 1 _ rfl
            have f0 := BC.fr 0; have f1 := BC.fr 1
            have HC4 := Lib.hid BC
            have HW4 := Lib.hid (HW3.out.trans (hb8.mono HW3.out.size))
            clear BC hb8 d0 d1 d2 s3 s0 s1
            go_wp2_with fail
            refine ⟨⟨i + 1, by omega, by go_num, ?_, (HW4.out.setCell (p := ⟨g9, 0, none⟩) (by show w0.heap.size ≤ g9; omega) _).setCell (p := ⟨g9, 1, none⟩) (by show w0.heap.size ≤ g9; omega) _⟩, by simp [intOf]; omega⟩
            rw [HS.out, if_pos (by simpa using E3.out)]
            exact (HC4.out.set 0 _).set 1 _
        · have hd : decide ((i : Int) < (n : Int)) = false := by simp; omega
          obtain rfl : i = n := by omega
          have ht : s.du.take i = s.du := by rw [HN.out, List.take_length]
          have BC := HC.out
          rw [ht] at BC
          generalize hcc : coilC cc.pu s.du = c at *
          have H0 := Lib.hid hcc
          clear hcc
          have HC2 := Lib.hid BC
          have s0 := (BC).cell 0 _ rfl
          have s1 := (BC).cell 1 _ rfl
          have s2 := (BC).cell 2 _ rfl
          have R1 := HX2.out.later HW.out hz2
          have z0 := (HX2.out).cell 0 _ rfl
          have z1 := (HX2.out).cell 1 _ rfl
          have z2 := (HX2.out).cell 2 _ rfl
          have f0 := R1.fr 0; have f1 := R1.fr 1; have f2 := R1.fr 2
          clear R1 BC ht
          go_wp2_with fail
          obtain ⟨R8, hbf⟩ := HF.out wr (c.1.toNat : Int) (c.2.toNat : Int) false HW.out
          have r0 := (R8).cell 0 _ rfl
          have r1 := (R8).cell 1 _ rfl
          have r2 := (R8).cell 2 _ rfl
          exact bodyPost_ret (v := cvK c false) (by simp [results, Try.results11, go_sem, r0, r1, r2]) rfl ⟨by rw [HV.out.1, HV.out.2, ← H0.out]; rfl, hbf⟩
end Go.Proofs.Ytbhhjlemdpefkaa
