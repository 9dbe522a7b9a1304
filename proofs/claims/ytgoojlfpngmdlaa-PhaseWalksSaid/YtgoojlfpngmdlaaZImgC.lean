/- The walks over log.isEntry, log.compare and overlayref10.less. Conditions: cars that can be read. -/
import Derived.Test.YtgoojlfpngmdlaaZImg
namespace Go.Proofs.Ytgoojlfpngmdlaa
open Go.RowKit
set_option maxHeartbeats 2000000 in
theorem isEntry_any (b : BldV) (q : Option Addr) (cap : Nat) (e : E5) (w : World) (hlen : b.cars.length ≤ 1000) (hr : RdC w q b.cars) :
    Calls Try.prog 47 #[cvB b q cap, cvE e] w fun r w' => r = .returned (.bool (entryB b e)) ∧ Below w.heap.size w w' := by
  obtain ⟨n, hn⟩ : ∃ n, n = b.cars.length := ⟨_, rfl⟩
  have h4 : (decide (-2 ≤ e.2.2.1) = false) ∨ (decide (-2 ≤ e.2.2.1) = true ∧ decide (e.2.2.1 < (n : Int)) = false) ∨ (decide (-2 ≤ e.2.2.1) = true ∧ decide (e.2.2.1 < (n : Int)) = true ∧ decide (0 ≤ e.2.2.2.1) = false) ∨ (decide (-2 ≤ e.2.2.1) = true ∧ decide (e.2.2.1 < (n : Int)) = true ∧ decide (0 ≤ e.2.2.2.1) = true) := by
    cases decide (-2 ≤ e.2.2.1) <;> cases decide (e.2.2.1 < (n : Int)) <;> cases decide (0 ≤ e.2.2.2.1) <;> simp
  have X0 : Blk (w.alloc (.cells #[.int .i64 b.fl, .int .i64 b.deb, .int .i64 b.room, .int .i64 b.park, .float .f64 b.em, .float .f64 b.fu, .float .f64 b.ov, .slice q b.cars.length cap] 29)) w.heap.size [.int .i64 b.fl, .int .i64 b.deb, .int .i64 b.room, .int .i64 b.park, .float .f64 b.em, .float .f64 b.fu, .float .f64 b.ov, .slice q b.cars.length cap] := by
    have hx := Blk.new w [.int .i64 b.fl, .int .i64 b.deb, .int .i64 b.room, .int .i64 b.park, .float .f64 b.em, .float .f64 b.fu, .float .f64 b.ov, .slice q b.cars.length cap] 29
    exact hx
  replace X0 : Blk ((w.alloc (.cells #[.int .i64 b.fl, .int .i64 b.deb, .int .i64 b.room, .int .i64 b.park, .float .f64 b.em, .float .f64 b.fu, .float .f64 b.ov, .slice q b.cars.length cap] 29)).alloc (.cells #[.int .i64 e.1, .int .i64 e.2.1, .int .i64 e.2.2.1, .int .i64 e.2.2.2.1, .bool e.2.2.2.2] 52)) w.heap.size [.int .i64 b.fl, .int .i64 b.deb, .int .i64 b.room, .int .i64 b.park, .float .f64 b.em, .float .f64 b.fu, .float .f64 b.ov, .slice q b.cars.length cap] := X0.next (below1' _ _)
  have X1 : Blk ((w.alloc (.cells #[.int .i64 b.fl, .int .i64 b.deb, .int .i64 b.room, .int .i64 b.park, .float .f64 b.em, .float .f64 b.fu, .float .f64 b.ov, .slice q b.cars.length cap] 29)).alloc (.cells #[.int .i64 e.1, .int .i64 e.2.1, .int .i64 e.2.2.1, .int .i64 e.2.2.2.1, .bool e.2.2.2.2] 52)) (w.heap.size + 1) [.int .i64 e.1, .int .i64 e.2.1, .int .i64 e.2.2.1, .int .i64 e.2.2.2.1, .bool e.2.2.2.2] := by
    have hx := Blk.new (w.alloc (.cells #[.int .i64 b.fl, .int .i64 b.deb, .int .i64 b.room, .int .i64 b.park, .float .f64 b.em, .float .f64 b.fu, .float .f64 b.ov, .slice q b.cars.length cap] 29)) [.int .i64 e.1, .int .i64 e.2.1, .int .i64 e.2.2.1, .int .i64 e.2.2.2.1, .bool e.2.2.2.2] 52
    rw [World.size_alloc] at hx
    exact hx
  have XW : Below w.heap.size w (w.alloc (.cells #[.int .i64 b.fl, .int .i64 b.deb, .int .i64 b.room, .int .i64 b.park, .float .f64 b.em, .float .f64 b.fu, .float .f64 b.ov, .slice q b.cars.length cap] 29)) := below1' w _
  replace XW : Below w.heap.size w ((w.alloc (.cells #[.int .i64 b.fl, .int .i64 b.deb, .int .i64 b.room, .int .i64 b.park, .float .f64 b.em, .float .f64 b.fu, .float .f64 b.ov, .slice q b.cars.length cap] 29)).alloc (.cells #[.int .i64 e.1, .int .i64 e.2.1, .int .i64 e.2.2.1, .int .i64 e.2.2.2.1, .bool e.2.2.2.2] 52)) := XW.trans ((below1' _ _).mono XW.size)
  have HWW := Lib.hid XW; have HX0 := Lib.hid X0; have HX1 := Lib.hid X1
  clear XW X0 X1
  have HR := Lib.hid (hr.next HWW.out)
  have HL := Lib.hid hlen
  have HN := Lib.hid hn; have H4 := Lib.hid h4
  clear hr hlen hn h4
  go_enter Try.func47, Try.ntmps47
  go_upto_region 1 with fail
  generalize ((w.alloc (.cells #[.int .i64 b.fl, .int .i64 b.deb, .int .i64 b.room, .int .i64 b.park, .float .f64 b.em, .float .f64 b.fu, .float .f64 b.ov, .slice q b.cars.length cap] 29)).alloc (.cells #[.int .i64 e.1, .int .i64 e.2.1, .int .i64 e.2.2.1, .int .i64 e.2.2.2.1, .bool e.2.2.2.2] 52)) = w0 at *
  generalize hg1 : w.heap.size + 1 = g1 at *
  have HG1 := Lib.hid hg1; have hq1 : w.heap.size + 1 ≤ g1 := by omega
  clear hg1
  have HW := Lib.hid (Below.refl w0.heap.size w0)
  have hz0 := HX0.out.lt; have hz1 := HX1.out.lt
  have k0 := (HX0.out).cell 0 _ rfl
  have k1 := (HX0.out).cell 1 _ rfl
  have k2 := (HX0.out).cell 2 _ rfl
  have k3 := (HX0.out).cell 3 _ rfl
  have k4 := (HX0.out).cell 4 _ rfl
  have k5 := (HX0.out).cell 5 _ rfl
  have k6 := (HX0.out).cell 6 _ rfl
  have k7 := (HX0.out).cell 7 _ rfl
  rw [← HN.out] at k7
  have y0 := (HX1.out).cell 0 _ rfl
  have y1 := (HX1.out).cell 1 _ rfl
  have y2 := (HX1.out).cell 2 _ rfl
  have y3 := (HX1.out).cell 3 _ rfl
  have y4 := (HX1.out).cell 4 _ rfl
  go_wp2_with fail
  rw [HN.out]
  refine (bIsCall_any b q cap e.1 e.2.1 _ (by have := HL.out; unfold maxLen; omega) HR.out).mono ?_
  rintro r w1 ⟨rfl, hb1⟩
  have HY0 := Lib.hid (HX0.out.next hb1); have HY1 := Lib.hid (HX1.out.next hb1)
  have HW1 := Lib.hid (HWW.out.trans (hb1.mono HWW.out.size))
  have hz0' := HY0.out.lt; have hz1' := HY1.out.lt
  clear HX0 HX1 HWW hb1 k0 k1 k2 k3 k4 k5 k6 k7 y0 y1 y2 y3 y4 HW hz0 hz1
  have k7 := HY0.out.cell 7 _ rfl
  rw [← HN.out] at k7
  have y0 := (HY1.out).cell 0 _ rfl
  have y1 := (HY1.out).cell 1 _ rfl
  have y2 := (HY1.out).cell 2 _ rfl
  have y3 := (HY1.out).cell 3 _ rfl
  have y4 := (HY1.out).cell 4 _ rfl
  cases hc : callB b e.1 e.2.1
  · have HE := Lib.hid hc
    clear hc
    go_wp2_with fail
    go_ret
    exact ⟨by rw [entryB, HE.out]; rfl, HW1.out⟩
  · have HE := Lib.hid hc
    clear hc
    rcases H4.out with h1 | ⟨h1, h2⟩ | ⟨h1, h2, h3⟩ | ⟨h1, h2, h3⟩
    · have HA := Lib.hid h1
      go_wp2_with fail
      go_ret
      exact ⟨by rw [entryB, HE.out, HA.out]; rfl, HW1.out⟩
    · have HA := Lib.hid h1; have HB := Lib.hid h2
      go_wp2_with fail
      go_ret
      exact ⟨by rw [entryB, HE.out, HA.out, ← HN.out, HB.out]; rfl, HW1.out⟩
    · have HA := Lib.hid h1; have HB := Lib.hid h2; have HC := Lib.hid h3
      go_wp2_with fail
      go_ret
      exact ⟨by rw [entryB, HE.out, HA.out, ← HN.out, HB.out, HC.out]; rfl, HW1.out⟩
    · have HA := Lib.hid h1; have HB := Lib.hid h2; have HC := Lib.hid h3
      go_wp2_with fail
      go_ret
      exact ⟨by rw [entryB, HE.out, HA.out, ← HN.out, HB.out, HC.out]; rfl, HW1.out⟩
set_option maxHeartbeats 1000000 in
theorem compareE_any (x y : E5) (w : World) :
    Calls Try.prog 48 #[cvE x, cvE y] w fun e w' => e = .returned (.int .i64 (cmpE x y)) ∧ Below w.heap.size w w' := by
  have X0 : Blk (w.alloc (.cells #[.int .i64 x.1, .int .i64 x.2.1, .int .i64 x.2.2.1, .int .i64 x.2.2.2.1, .bool x.2.2.2.2] 52)) w.heap.size [.int .i64 x.1, .int .i64 x.2.1, .int .i64 x.2.2.1, .int .i64 x.2.2.2.1, .bool x.2.2.2.2] := by
    have hx := Blk.new w [.int .i64 x.1, .int .i64 x.2.1, .int .i64 x.2.2.1, .int .i64 x.2.2.2.1, .bool x.2.2.2.2] 52
    exact hx
  replace X0 : Blk ((w.alloc (.cells #[.int .i64 x.1, .int .i64 x.2.1, .int .i64 x.2.2.1, .int .i64 x.2.2.2.1, .bool x.2.2.2.2] 52)).alloc (.cells #[.int .i64 y.1, .int .i64 y.2.1, .int .i64 y.2.2.1, .int .i64 y.2.2.2.1, .bool y.2.2.2.2] 52)) w.heap.size [.int .i64 x.1, .int .i64 x.2.1, .int .i64 x.2.2.1, .int .i64 x.2.2.2.1, .bool x.2.2.2.2] := X0.next (below1' _ _)
  have X1 : Blk ((w.alloc (.cells #[.int .i64 x.1, .int .i64 x.2.1, .int .i64 x.2.2.1, .int .i64 x.2.2.2.1, .bool x.2.2.2.2] 52)).alloc (.cells #[.int .i64 y.1, .int .i64 y.2.1, .int .i64 y.2.2.1, .int .i64 y.2.2.2.1, .bool y.2.2.2.2] 52)) (w.heap.size + 1) [.int .i64 y.1, .int .i64 y.2.1, .int .i64 y.2.2.1, .int .i64 y.2.2.2.1, .bool y.2.2.2.2] := by
    have hx := Blk.new (w.alloc (.cells #[.int .i64 x.1, .int .i64 x.2.1, .int .i64 x.2.2.1, .int .i64 x.2.2.2.1, .bool x.2.2.2.2] 52)) [.int .i64 y.1, .int .i64 y.2.1, .int .i64 y.2.2.1, .int .i64 y.2.2.2.1, .bool y.2.2.2.2] 52
    rw [World.size_alloc] at hx
    exact hx
  have XW : Below w.heap.size w (w.alloc (.cells #[.int .i64 x.1, .int .i64 x.2.1, .int .i64 x.2.2.1, .int .i64 x.2.2.2.1, .bool x.2.2.2.2] 52)) := below1' w _
  replace XW : Below w.heap.size w ((w.alloc (.cells #[.int .i64 x.1, .int .i64 x.2.1, .int .i64 x.2.2.1, .int .i64 x.2.2.2.1, .bool x.2.2.2.2] 52)).alloc (.cells #[.int .i64 y.1, .int .i64 y.2.1, .int .i64 y.2.2.1, .int .i64 y.2.2.2.1, .bool y.2.2.2.2] 52)) := XW.trans ((below1' _ _).mono XW.size)
  have HWW := Lib.hid XW; have HX0 := Lib.hid X0; have HX1 := Lib.hid X1
  clear XW X0 X1
  go_enter Try.func48, Try.ntmps48
  go_upto_region 1 with fail
  generalize ((w.alloc (.cells #[.int .i64 x.1, .int .i64 x.2.1, .int .i64 x.2.2.1, .int .i64 x.2.2.2.1, .bool x.2.2.2.2] 52)).alloc (.cells #[.int .i64 y.1, .int .i64 y.2.1, .int .i64 y.2.2.1, .int .i64 y.2.2.2.1, .bool y.2.2.2.2] 52)) = w0 at *
  generalize hg1 : w.heap.size + 1 = g1 at *
  have HG1 := Lib.hid hg1; have hq1 : w.heap.size + 1 ≤ g1 := by omega
  clear hg1
  have HW := Lib.hid (Below.refl w0.heap.size w0)
  have hz0 := HX0.out.lt; have hz1 := HX1.out.lt
  have a0 := (HX0.out).reg 0 _ rfl
  have a1 := (HX0.out).reg 1 _ rfl
  have b0 := (HX1.out).reg 0 _ rfl
  have b1 := (HX1.out).reg 1 _ rfl
  (refine Grow.wp_region (mkPlan 10 newI2 0 [.int .i64 (cmpI x.1 y.1), .int .i64 (cmpI x.2.1 y.2.1)]) (mkPlan_stable _ _ _ _) (by kernel_rfl) (by kernel_rfl) ?_; intro opsq Hopsq)
  repeat (first | (refine Grow.lex_move rfl ?_ rfl ?_; (· first | exact Grow.wanted_none | (rw [Hopsq.out]; rfl)); intro K hK; simp only [Grow.put_lit, Grow.setAt, Grow.eval_lit, Grow.ev]; refine hK _ _ ?_; clear hK K) | (refine Grow.lex_assign rfl ?_ rfl ?_; (· first | exact Grow.wanted_none | (rw [Hopsq.out]; rfl)); intro K hK; simp only [Grow.put_lit, Grow.setAt, Grow.eval_lit, Grow.ev]; refine hK _ _ ?_; clear hK K) | (refine Grow.lex_plain rfl rfl ?_ rfl ?_; (· first | exact Grow.wanted_none | (rw [Hopsq.out]; rfl)); apply Exists.intro; refine ⟨fun wq hCq _ => ?_, ?_⟩; (· (go_wp2_with fail; refine ⟨rfl, Below.refl _ _, ?_⟩; simp only [Grow.getD_lit, Grow.nth]; rfl)); intro K hK; simp only [Grow.put_lit, Grow.setAt]; refine hK _ _ ?_; clear hK K) | (refine Grow.lex_nilCheck rfl rfl ?_ rfl ?_; (· first | exact Grow.wanted_none | (rw [Hopsq.out]; rfl)); intro K hK; simp only [Grow.put_lit, Grow.setAt]; refine hK _ _ ?_; clear hK K) | (refine Grow.lex_skip ?_ ?_; (· (rw [Hopsq.out]; rfl)); intro K hK; simp only [Grow.put_lit, Grow.setAt]; refine hK _ _ ?_; clear hK K))
  (refine Grow.lex_call ?_ rfl ?_; (· first | exact Grow.wanted_none | (rw [Hopsq.out]; rfl)); apply Exists.intro; apply Exists.intro; refine ⟨fun wq => ?_, ?_⟩; (· (go_simp; exact ⟨rfl, rfl⟩)); apply Exists.intro; refine ⟨fun wq hCq hKq => ?_, ?_⟩; (· exact cmp_any x.1 y.1 _); intro K hK; simp only [Grow.put_lit, Grow.setAt]; refine hK _ _ ?_; clear hK K)
  repeat (first | (refine Grow.lex_move rfl ?_ rfl ?_; (· first | exact Grow.wanted_none | (rw [Hopsq.out]; rfl)); intro K hK; simp only [Grow.put_lit, Grow.setAt, Grow.eval_lit, Grow.ev]; refine hK _ _ ?_; clear hK K) | (refine Grow.lex_assign rfl ?_ rfl ?_; (· first | exact Grow.wanted_none | (rw [Hopsq.out]; rfl)); intro K hK; simp only [Grow.put_lit, Grow.setAt, Grow.eval_lit, Grow.ev]; refine hK _ _ ?_; clear hK K) | (refine Grow.lex_plain rfl rfl ?_ rfl ?_; (· first | exact Grow.wanted_none | (rw [Hopsq.out]; rfl)); apply Exists.intro; refine ⟨fun wq hCq _ => ?_, ?_⟩; (· (go_wp2_with fail; refine ⟨rfl, Below.refl _ _, ?_⟩; simp only [Grow.getD_lit, Grow.nth]; rfl)); intro K hK; simp only [Grow.put_lit, Grow.setAt]; refine hK _ _ ?_; clear hK K) | (refine Grow.lex_nilCheck rfl rfl ?_ rfl ?_; (· first | exact Grow.wanted_none | (rw [Hopsq.out]; rfl)); intro K hK; simp only [Grow.put_lit, Grow.setAt]; refine hK _ _ ?_; clear hK K) | (refine Grow.lex_skip ?_ ?_; (· (rw [Hopsq.out]; rfl)); intro K hK; simp only [Grow.put_lit, Grow.setAt]; refine hK _ _ ?_; clear hK K))
  (refine Grow.lex_call ?_ rfl ?_; (· first | exact Grow.wanted_none | (rw [Hopsq.out]; rfl)); apply Exists.intro; apply Exists.intro; refine ⟨fun wq => ?_, ?_⟩; (· (go_simp; exact ⟨rfl, rfl⟩)); apply Exists.intro; refine ⟨fun wq hCq hKq => ?_, ?_⟩; (· exact cmp_any x.2.1 y.2.1 _); intro K hK; simp only [Grow.put_lit, Grow.setAt]; refine hK _ _ ?_; clear hK K)
  refine lex_mk 10 newI2 0 [.int .i64 (cmpI x.1 y.1), .int .i64 (cmpI x.2.1 y.2.1)] 3 ?_ (fun wq => ?_) (Nat.zero_le _) ?_
  · first | exact Grow.wanted_none | (rw [Hopsq.out]; rfl)
  · go_simp
    first | rfl | exact ⟨rfl, rfl⟩
  intro g hg
  simp only [Grow.put_lit, Grow.setAt]
  (refine Grow.lex_call ?_ rfl ?_; (· first | exact Grow.wanted_none | (rw [Hopsq.out]; rfl)); apply Exists.intro; apply Exists.intro; refine ⟨fun wq => ?_, ?_⟩; (· (go_simp; exact ⟨rfl, rfl⟩)); apply Exists.intro; refine ⟨fun wq hCq hKq => ?_, ?_⟩; (· exact or_any (newI2 g) [cmpI x.1 y.1, cmpI x.2.1 y.2.1] _ (by simp) (rdI_blk (mk_fact newI2_inj ((hKq 10 ⟨[], by rw [Hopsq.out]; kernel_rfl⟩).2 rfl)))); intro K hK; simp only [Grow.put_lit, Grow.setAt]; refine hK _ _ ?_; clear hK K)
  repeat (first | (refine Grow.lex_move rfl ?_ rfl ?_; (· first | exact Grow.wanted_none | (rw [Hopsq.out]; rfl)); intro K hK; simp only [Grow.put_lit, Grow.setAt, Grow.eval_lit, Grow.ev]; refine hK _ _ ?_; clear hK K) | (refine Grow.lex_assign rfl ?_ rfl ?_; (· first | exact Grow.wanted_none | (rw [Hopsq.out]; rfl)); intro K hK; simp only [Grow.put_lit, Grow.setAt, Grow.eval_lit, Grow.ev]; refine hK _ _ ?_; clear hK K) | (refine Grow.lex_plain rfl rfl ?_ rfl ?_; (· first | exact Grow.wanted_none | (rw [Hopsq.out]; rfl)); apply Exists.intro; refine ⟨fun wq hCq _ => ?_, ?_⟩; (· (go_wp2_with fail; refine ⟨rfl, Below.refl _ _, ?_⟩; simp only [Grow.getD_lit, Grow.nth]; rfl)); intro K hK; simp only [Grow.put_lit, Grow.setAt]; refine hK _ _ ?_; clear hK K) | (refine Grow.lex_nilCheck rfl rfl ?_ rfl ?_; (· first | exact Grow.wanted_none | (rw [Hopsq.out]; rfl)); intro K hK; simp only [Grow.put_lit, Grow.setAt]; refine hK _ _ ?_; clear hK K) | (refine Grow.lex_skip ?_ ?_; (· (rw [Hopsq.out]; rfl)); intro K hK; simp only [Grow.put_lit, Grow.setAt]; refine hK _ _ ?_; clear hK K))
  (refine Grow.lex_nil ?_; intro w1 hb1 _; replace hb1 := Grow.Cl.base hb1; clear Hopsq opsq)
  go_wp2_with fail
  go_ret
  exact ⟨rfl, HWW.out.trans (hb1.mono HWW.out.size)⟩
set_option maxHeartbeats 1000000 in
theorem less_any (x y : E5) (w : World) :
    Calls Try.prog 54 #[cvE x, cvE y] w fun e w' => e = .returned (.bool (lessE x y)) ∧ Below w.heap.size w w' := by
  have h3 : (decide (x.1 < y.1) = true) ∨ (decide (x.1 < y.1) = false ∧ (x.1 == y.1) = false) ∨ (decide (x.1 < y.1) = false ∧ (x.1 == y.1) = true) := by
    cases decide (x.1 < y.1) <;> cases (x.1 == y.1) <;> simp
  have X0 : Blk (w.alloc (.cells #[.int .i64 x.1, .int .i64 x.2.1, .int .i64 x.2.2.1, .int .i64 x.2.2.2.1, .bool x.2.2.2.2] 52)) w.heap.size [.int .i64 x.1, .int .i64 x.2.1, .int .i64 x.2.2.1, .int .i64 x.2.2.2.1, .bool x.2.2.2.2] := by
    have hx := Blk.new w [.int .i64 x.1, .int .i64 x.2.1, .int .i64 x.2.2.1, .int .i64 x.2.2.2.1, .bool x.2.2.2.2] 52
    exact hx
  replace X0 : Blk ((w.alloc (.cells #[.int .i64 x.1, .int .i64 x.2.1, .int .i64 x.2.2.1, .int .i64 x.2.2.2.1, .bool x.2.2.2.2] 52)).alloc (.cells #[.int .i64 y.1, .int .i64 y.2.1, .int .i64 y.2.2.1, .int .i64 y.2.2.2.1, .bool y.2.2.2.2] 52)) w.heap.size [.int .i64 x.1, .int .i64 x.2.1, .int .i64 x.2.2.1, .int .i64 x.2.2.2.1, .bool x.2.2.2.2] := X0.next (below1' _ _)
  have X1 : Blk ((w.alloc (.cells #[.int .i64 x.1, .int .i64 x.2.1, .int .i64 x.2.2.1, .int .i64 x.2.2.2.1, .bool x.2.2.2.2] 52)).alloc (.cells #[.int .i64 y.1, .int .i64 y.2.1, .int .i64 y.2.2.1, .int .i64 y.2.2.2.1, .bool y.2.2.2.2] 52)) (w.heap.size + 1) [.int .i64 y.1, .int .i64 y.2.1, .int .i64 y.2.2.1, .int .i64 y.2.2.2.1, .bool y.2.2.2.2] := by
    have hx := Blk.new (w.alloc (.cells #[.int .i64 x.1, .int .i64 x.2.1, .int .i64 x.2.2.1, .int .i64 x.2.2.2.1, .bool x.2.2.2.2] 52)) [.int .i64 y.1, .int .i64 y.2.1, .int .i64 y.2.2.1, .int .i64 y.2.2.2.1, .bool y.2.2.2.2] 52
    rw [World.size_alloc] at hx
    exact hx
  have XW : Below w.heap.size w (w.alloc (.cells #[.int .i64 x.1, .int .i64 x.2.1, .int .i64 x.2.2.1, .int .i64 x.2.2.2.1, .bool x.2.2.2.2] 52)) := below1' w _
  replace XW : Below w.heap.size w ((w.alloc (.cells #[.int .i64 x.1, .int .i64 x.2.1, .int .i64 x.2.2.1, .int .i64 x.2.2.2.1, .bool x.2.2.2.2] 52)).alloc (.cells #[.int .i64 y.1, .int .i64 y.2.1, .int .i64 y.2.2.1, .int .i64 y.2.2.2.1, .bool y.2.2.2.2] 52)) := XW.trans ((below1' _ _).mono XW.size)
  have HWW := Lib.hid XW; have HX0 := Lib.hid X0; have HX1 := Lib.hid X1
  clear XW X0 X1
  have H3 := Lib.hid h3
  clear h3
  go_enter Try.func54, Try.ntmps54
  go_upto_region 1 with fail
  generalize ((w.alloc (.cells #[.int .i64 x.1, .int .i64 x.2.1, .int .i64 x.2.2.1, .int .i64 x.2.2.2.1, .bool x.2.2.2.2] 52)).alloc (.cells #[.int .i64 y.1, .int .i64 y.2.1, .int .i64 y.2.2.1, .int .i64 y.2.2.2.1, .bool y.2.2.2.2] 52)) = w0 at *
  generalize hg1 : w.heap.size + 1 = g1 at *
  have HG1 := Lib.hid hg1; have hq1 : w.heap.size + 1 ≤ g1 := by omega
  clear hg1
  have HW := Lib.hid (Below.refl w0.heap.size w0)
  have hz0 := HX0.out.lt; have hz1 := HX1.out.lt
  have a0 := (HX0.out).cell 0 _ rfl
  have a1 := (HX0.out).cell 1 _ rfl
  have b0 := (HX1.out).cell 0 _ rfl
  have b1 := (HX1.out).cell 1 _ rfl
  rcases H3.out with h1 | ⟨h1, h2⟩ | ⟨h1, h2⟩
  · have HA := Lib.hid h1
    go_wp2_with fail
    go_ret
    exact ⟨by rw [lessE, HA.out]; rfl, HWW.out⟩
  · have HA := Lib.hid h1; have HB := Lib.hid h2
    go_wp2_with fail
    go_ret
    exact ⟨by have h := HB.out; rw [lessE, HA.out, show decide (x.1 = y.1) = false by simpa using h]; rfl, HWW.out⟩
  · have HA := Lib.hid h1; have HB := Lib.hid h2
    go_wp2_with fail
    go_ret
    exact ⟨by have h := HB.out; rw [lessE, HA.out, show decide (x.1 = y.1) = true by simpa using h]; rfl, HWW.out⟩
end Go.Proofs.Ytgoojlfpngmdlaa
