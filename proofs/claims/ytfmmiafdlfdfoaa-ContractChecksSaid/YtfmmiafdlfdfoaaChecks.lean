/- ContractChecks: in which tick a contract is broken first, and which duties there are in the end. The law's function answers true at every argument. Conditions: none. -/
import Derived.Test.YtfmmiafdlfdfoaaSane18
import Derived.Test.YtfmmiafdlfdfoaaArgsMark
namespace Go.Proofs.Ytfmmiafdlfdfoaa
open Go.ChangeShapes Go.WideShapes Go.ChangeAt Go.RowKit
attribute [local go_sem] run_store_float
def zBld : BldV := ⟨0, 0, 0, 0, 0, 0, 0, []⟩
theorem z_proper (car : Int) (n : Nat) : properB zBld car n = false := by
  have h : validN zBld = 10 := by decide +kernel
  unfold properB
  rw [h]
  rfl
theorem z_run (car : Int) (L : List MarkV) : (runB zBld car L).1 = -1 := by
  unfold runB
  rw [z_proper]
  rfl
theorem z_keeps (car : Int) (L : List MarkV) : keepsB zBld car L = false := by
  unfold keepsB
  rw [z_proper]
  rfl
set_option maxHeartbeats 2500000 in
set_option maxRecDepth 100000 in
theorem checks_walk (n t : Nat) (l : List Nat) (ql : Option Addr) (capl : Nat) (X : List MarkV) (qx : Option Addr) (capx : Nat) (w : World) (hn : n < 256) (ht : t < 256) (hl : l.length ≤ maxLen) (hu : RdU w ql l) (hxl : X.length ≤ maxLen) (hx : RdM w qx X) :
    Calls Try.prog 3 #[.agg #[.int .u8 n, .int .u8 t], .slice ql l.length capl, .slice qx X.length capx] w fun e w' => e = .returned (.bool true) ∧ Below w.heap.size w w' := by
  have X0 : Blk (w.alloc (.cells #[.int .u8 n, .int .u8 t] 22)) w.heap.size [.int .u8 n, .int .u8 t] := by
    have hx := Blk.new w [.int .u8 n, .int .u8 t] 22
    exact hx
  have XW : Below w.heap.size w (w.alloc (.cells #[.int .u8 n, .int .u8 t] 22)) := below1' w _
  have HWW := Lib.hid XW; have HX0 := Lib.hid X0
  clear XW X0
  have HU := Lib.hid (hu.next HWW.out); have HXB := Lib.hid (hx.next HWW.out)
  have HL2 := Lib.hid hl; have HXL := Lib.hid hxl
  clear hu hx
  obtain ⟨nl, hnl⟩ : ∃ n, n = l.length := ⟨_, rfl⟩
  have HNL := Lib.hid hnl
  rw [← hnl] at hl ⊢
  clear hnl
  obtain ⟨nx, hnx⟩ : ∃ n, n = X.length := ⟨_, rfl⟩
  have HNX := Lib.hid hnx
  rw [← hnx] at hxl ⊢
  clear hnx
  unfold maxLen at hxl
  go_enter Try.func3, Try.ntmps3
  go_upto_region 1 with fail
  generalize (w.alloc (.cells #[.int .u8 n, .int .u8 t] 22)) = w0 at *
  have HW := Lib.hid (Below.refl w0.heap.size w0)
  have hz0 := HX0.out.lt
  have k0 := (HX0.out).cell 0 _ rfl
  have k1 := (HX0.out).cell 1 _ rfl
  by_cases hx200 : nx ≤ 200
  · have hdx : decide ((200 : Int) < (nx : Int)) = false := by simp; omega
    go_wp2_with fail
    refine (b18_val2 n t _ hn ht).mono ?_
    rintro e w1 ⟨g, cap, rfl, hg0, hg1, hown, hr, hb⟩
    have HL1 : Hid ((b18 n t).cars.length ≤ 1000) := Lib.hid (by show (cars18 n t).length ≤ 1000; rw [cars18_len]; have := (k18_range n).2; omega)
    have HSL : Hid (∀ c ∈ (b18 n t).cars, -9223372036854775808 ≤ c.sl ∧ c.sl < 9223372036854775807) := Lib.hid (slack18 n t)
    have hfl : 2 ≤ (b18 n t).fl ∧ (b18 n t).fl ≤ 6 := fl18_range n
    have hcl : 1 ≤ (b18 n t).cars.length ∧ (b18 n t).cars.length ≤ 3 := by show 1 ≤ (cars18 n t).length ∧ (cars18 n t).length ≤ 3; rw [cars18_len]; exact k18_range n
    obtain ⟨hf2, hf6⟩ := hfl
    have HR1 := Lib.hid hr; have HB1 := Lib.hid (HW.out.trans (hb.mono HW.out.size))
    clear hown hr hb HW k0 k1
    generalize b18 n t = b at *
    go_upto_region 4 with fail
    have B5 := Blk.new w1 [.int .i64 b.fl, .int .i64 b.deb, .int .i64 b.room, .int .i64 b.park, .float .f64 b.em, .float .f64 b.fu, .float .f64 b.ov, .slice (some ⟨g, 0, none⟩) b.cars.length cap] 29
    have hb5 := below1' w1 (.cells #[.int .i64 b.fl, .int .i64 b.deb, .int .i64 b.room, .int .i64 b.park, .float .f64 b.em, .float .f64 b.fu, .float .f64 b.ov, .slice (some ⟨g, 0, none⟩) b.cars.length cap] 29)
    change Blk (w1.alloc (.cells #[.int .i64 b.fl, .int .i64 b.deb, .int .i64 b.room, .int .i64 b.park, .float .f64 b.em, .float .f64 b.fu, .float .f64 b.ov, .slice (some ⟨g, 0, none⟩) b.cars.length cap] 29)) _ _ at B5
    have HB3 := Lib.hid (HB1.out.trans (hb5.mono HB1.out.size))
    have HR3 := Lib.hid (HR1.out.next hb5)
    have HB5 := Lib.hid B5
    clear B5 hb5 HB1 HR1
    generalize w1.alloc (.cells #[.int .i64 b.fl, .int .i64 b.deb, .int .i64 b.room, .int .i64 b.park, .float .f64 b.em, .float .f64 b.fu, .float .f64 b.ov, .slice (some ⟨g, 0, none⟩) b.cars.length cap] 29) = w2 at *
    generalize w1.heap.size = g5 at *
    have hzz5 : g5 < w2.heap.size := HB5.out.lt
    have ht := trace_any b (some ⟨g, 0, none⟩) cap l ql capl w2 HL2.out hf2 (by omega) (HU.out.next HB3.out)
    rw [← HNL.out] at ht
    have HTR := Lib.hid ht
    clear ht
    have k0 := (HB5.out).cell 0 _ rfl
    have k1 := (HB5.out).cell 1 _ rfl
    have k2 := (HB5.out).cell 2 _ rfl
    have k3 := (HB5.out).cell 3 _ rfl
    have k4 := (HB5.out).cell 4 _ rfl
    have k5 := (HB5.out).cell 5 _ rfl
    have k6 := (HB5.out).cell 6 _ rfl
    have k7 := (HB5.out).cell 7 _ rfl
    go_wp2_with fail
    refine HTR.out.mono ?_
    rintro e w3 ⟨v, L, rfl, hL150, hobs, hown, hb3⟩
    obtain ⟨qm, capm, rfl⟩ := row_form hown
    have HM := Lib.hid (rdM_of_owns hown rfl)
    have HB4 := Lib.hid (HB3.out.trans (hb3.mono HB3.out.size))
    have HB53 := Lib.hid (HB5.out.next hb3)
    have HR4 := Lib.hid (HR3.out.next hb3)
    clear hobs hown hb3 HTR HB5 HR3 HB3 k0 k1 k2 k3 k4 k5 k6 k7 HU
    have BV := Blk.new w3 [.slice qm L.length capm, .slice qx nx capx] 24
    have hbv := below1' w3 (.cells #[.slice qm L.length capm, .slice qx nx capx] 24)
    change Blk (w3.alloc (.cells #[.slice qm L.length capm, .slice qx nx capx] 24)) _ _ at BV
    have HV := Lib.hid BV
    have HB6 := Lib.hid (HB4.out.trans (hbv.mono HB4.out.size))
    have HB56 := Lib.hid (HB53.out.next hbv)
    have HR6 := Lib.hid (HR4.out.next hbv)
    have HM6 := Lib.hid (HM.out.next hbv)
    have HX6 := Lib.hid (HXB.out.next HB6.out)
    have hz0 := HB53.out.lt
    clear BV hbv HB4 HB53 HR4 HM HXB
    go_upto_region 5 with fail
    generalize w3.alloc (.cells #[.slice qm L.length capm, .slice qx nx capx] 24) = w4 at *
    generalize w3.heap.size = gv at *
    have hz56 := HB56.out.lt
    have hzv := HV.out.lt
    have hrow : ∀ j : Nat, j < 2 → ∃ (Y : List MarkV) (qy : Option Addr) (cy : Nat), w4.cell? ⟨gv, j, none⟩ = some (.slice qy Y.length cy) ∧ Y.length ≤ 200 ∧ RdM w4 qy Y := by
      intro j hj
      have h01 : j = 0 ∨ j = 1 := by omega
      rcases h01 with rfl | rfl
      · exact ⟨L, qm, capm, HV.out.cell 0 _ rfl, by omega, HM6.out⟩
      · exact ⟨X, qx, capx, by rw [← HNX.out]; exact HV.out.cell 1 _ rfl, by rw [← HNX.out]; exact hx200, HX6.out⟩
    have HROW := Lib.hid hrow
    clear hrow hx200 hdx hxl hl HM6
    go_wp2_with fail
    go_loopw [26] (fun v wr => ∃ j : Nat, j ≤ 2 ∧ v = .int .i64 j ∧ Below w4.heap.size w4 wr) (fun v _ => 2 - (intOf v).toNat)
    case atStart => exact ⟨0, by omega, rfl, Below.refl _ _⟩
    case round =>
      obtain ⟨j, hj, rfl, hb⟩ := hrel
      have HW := Lib.hid hb
      clear hb
      by_cases hlt : j < 2
      · have hd : decide ((j : Int) < 2) = true := by simp; omega
        have hj0 : (0 : Int) ≤ (j : Int) := by omega
        have hj1 : (j : Int) < 2 := by omega
        obtain ⟨Y, qy, cy, hcell, hY, hYm⟩ := HROW.out j hlt
        have hcv := cell_later HW.out hcell
        have HYM := Lib.hid hYm; have HY := Lib.hid hY
        obtain ⟨ny, hny⟩ : ∃ ny, ny = Y.length := ⟨_, rfl⟩
        have HNY := Lib.hid hny
        rw [← hny] at hcv hY
        have hk7 := cell_later HW.out (HB56.out.cell 7 _ rfl)
        clear hcell hYm hny
        go_wp2_with fail
        go_loopw [10] (fun v wx => ∃ car : Int, -1 ≤ car ∧ car ≤ (b.cars.length : Int) + 1 ∧ v = .int .i64 car ∧ Below w4.heap.size w4 wx) (fun v _ => ((b.cars.length : Int) + 1 - intOf v).toNat)
        case atStart => exact ⟨-1, by omega, by omega, rfl, HW.out⟩
        case round =>
          clear HW hcv hd hk7
          obtain ⟨car, hc0, hc1, rfl, hb⟩ := hrel
          have HW := Lib.hid hb
          clear hb
          have hk7 := cell_later HW.out (HB56.out.cell 7 _ rfl)
          by_cases hlc : car ≤ (b.cars.length : Int)
          · have hHK := ref_check b car Y
            have hHD := ref_duties b car Y
            have HC1 : Hid (∀ W, Below w4.heap.size w4 W → Calls Try.prog 12 #[cvB b (some ⟨g, 0, none⟩) cap, .int .i64 car, .slice qy ny cy] W fun e w' => e = .returned (.int .i64 (runB b car Y).1) ∧ Below W.heap.size W w') := by
              refine Lib.hid fun W hW => ?_
              have h := check_any b (some ⟨g, 0, none⟩) cap car Y qy cy W HL1.out (HR6.out.next hW) (by have := HY.out; unfold maxLen; omega) (HYM.out.next hW)
              rw [← HNY.out] at h
              exact h
            have HC2 : Hid (∀ W, Below w4.heap.size w4 W → Calls Try.prog 13 #[cvB b (some ⟨g, 0, none⟩) cap, .int .i64 car, .slice qy ny cy] W fun e w' => e = .returned (.int .i64 (runB b car Y).1) ∧ Below W.heap.size W w') := by
              refine Lib.hid fun W hW => ?_
              have h := refCheck_any b (some ⟨g, 0, none⟩) cap car Y qy cy W HL1.out HSL.out (HR6.out.next hW) (by have := HY.out; unfold maxLen; omega) (HYM.out.next hW)
              rw [← HNY.out, hHK] at h
              exact h
            have HC3 : Hid (∀ W, Below w4.heap.size w4 W → Calls Try.prog 14 #[cvB b (some ⟨g, 0, none⟩) cap, .int .i64 car, .slice qy ny cy] W fun e w' => e = .returned (.bool (keepsB b car Y)) ∧ Below W.heap.size W w') := by
              refine Lib.hid fun W hW => ?_
              have h := keeps_any b (some ⟨g, 0, none⟩) cap car Y qy cy W HL1.out (HR6.out.next hW) (by have := HY.out; unfold maxLen; omega) (HYM.out.next hW)
              rw [← HNY.out] at h
              exact h
            have HC4 : Hid (∀ W, Below w4.heap.size w4 W → Calls Try.prog 15 #[cvB b (some ⟨g, 0, none⟩) cap, .int .i64 car, .slice qy ny cy] W fun e w' => e = .returned (.bool (keepsB b car Y)) ∧ Below W.heap.size W w') := by
              refine Lib.hid fun W hW => ?_
              have h := refKeeps_any b (some ⟨g, 0, none⟩) cap car Y qy cy W HL1.out HSL.out (HR6.out.next hW) (by have := HY.out; unfold maxLen; omega) (HYM.out.next hW)
              rw [hHK] at h
              have e : (properB b car Y.length && decide ((runB b car Y).1 < 0)) = keepsB b car Y := rfl
              rw [e, ← HNY.out] at h
              exact h
            have HC5 : Hid (∀ W, Below w4.heap.size w4 W → Calls Try.prog 17 #[cvB b (some ⟨g, 0, none⟩) cap, .int .i64 car, .slice qy ny cy] W fun e w' => ∃ v, e = .returned v ∧ Below W.heap.size W w' ∧ duR 0 (runB b car Y).2 v w') := by
              refine Lib.hid fun W hW => ?_
              have h := duties_any b (some ⟨g, 0, none⟩) cap car Y qy cy W HL1.out (HR6.out.next hW) (by have := HY.out; unfold maxLen; omega) (HYM.out.next hW)
              rw [← HNY.out] at h
              exact h.mono fun e w' ⟨v, he, hb, hd⟩ => ⟨v, he, hb, duR_lo hd (Nat.zero_le _)⟩
            have HC6 : Hid (∀ W, Below w4.heap.size w4 W → Calls Try.prog 18 #[cvB b (some ⟨g, 0, none⟩) cap, .int .i64 car, .slice qy ny cy] W fun e w' => ∃ v, e = .returned v ∧ Below W.heap.size W w' ∧ duR 0 (runB b car Y).2 v w') := by
              refine Lib.hid fun W hW => ?_
              have h := refDuties_any b (some ⟨g, 0, none⟩) cap car Y qy cy W HL1.out HSL.out (HR6.out.next hW) (by have := HY.out; unfold maxLen; omega) (HYM.out.next hW)
              rw [← HNY.out, hHD] at h
              exact h.mono fun e w' ⟨v, he, hb, hd⟩ => ⟨v, he, hb, duR_lo hd (Nat.zero_le _)⟩
            have HDL := Lib.hid (runB_len b car Y)
            clear hHK hHD
            generalize keepsB b car Y = kb at *
            generalize hRR : runB b car Y = R at *
            clear hRR
            obtain ⟨R1, R2⟩ := R
            have HSC : Hid (∀ (W : World) (q3 : Option Addr) (cap3 : Nat) (q4 : Option Addr) (cap4 : Nat), RdD W q3 R2 → RdD W q4 R2 → Calls Try.prog 16 #[.slice q3 R2.length cap3, .slice q4 R2.length cap4] W fun e w' => e = .returned (.bool true) ∧ Below W.heap.size W w') :=
              Lib.hid fun W q3 cap3 q4 cap4 h3 h4 => calls_bool (same18_any R2 q3 cap3 R2 q4 cap4 W (by have h : R2.length ≤ 64 := HDL.out; omega) h3 h4) (by simp)
            simp only at HC1 HC2 HC5 HC6
            go_upto_region 10 with fail
            clear hk7
            have t0 := ((HB56.out.next HW.out)).reg 0 _ rfl
            have t1 := ((HB56.out.next HW.out)).reg 1 _ rfl
            have t2 := ((HB56.out.next HW.out)).reg 2 _ rfl
            have t3 := ((HB56.out.next HW.out)).reg 3 _ rfl
            have t4 := ((HB56.out.next HW.out)).reg 4 _ rfl
            have t5 := ((HB56.out.next HW.out)).reg 5 _ rfl
            have t6 := ((HB56.out.next HW.out)).reg 6 _ rfl
            have t7 := ((HB56.out.next HW.out)).reg 7 _ rfl
            have hst := relPlan2_stable 24 (duR 0 R2) 28 (duR 0 R2) (duR_stable 0 _) (duR_stable 0 _)
            refine Grow.wp_region (relPlan2 24 (duR 0 R2) 28 (duR 0 R2)) hst (by kernel_rfl) (by kernel_rfl) ?_
            clear hst
            intro opsq Hopsq
            repeat (first | (refine Grow.lex_move rfl ?_ rfl ?_; (· first | exact Grow.wanted_none | (rw [Hopsq.out]; rfl)); intro K hK; simp only [Grow.put_lit, Grow.setAt, Grow.eval_lit, Grow.ev]; refine hK _ _ ?_; clear hK K) | (refine Grow.lex_assign rfl ?_ rfl ?_; (· first | exact Grow.wanted_none | (rw [Hopsq.out]; rfl)); intro K hK; simp only [Grow.put_lit, Grow.setAt, Grow.eval_lit, Grow.ev]; refine hK _ _ ?_; clear hK K) | (refine Grow.lex_plain rfl rfl ?_ rfl ?_; (· first | exact Grow.wanted_none | (rw [Hopsq.out]; rfl)); apply Exists.intro; refine ⟨fun wq hCq _ => ?_, ?_⟩; (· (go_wp2_with fail; refine ⟨rfl, Below.refl _ _, ?_⟩; simp only [Grow.getD_lit, Grow.nth]; rfl)); intro K hK; simp only [Grow.put_lit, Grow.setAt]; refine hK _ _ ?_; clear hK K) | (refine Grow.lex_nilCheck rfl rfl ?_ rfl ?_; (· first | exact Grow.wanted_none | (rw [Hopsq.out]; rfl)); intro K hK; simp only [Grow.put_lit, Grow.setAt]; refine hK _ _ ?_; clear hK K) | (refine Grow.lex_skip ?_ ?_; (· (rw [Hopsq.out]; rfl)); intro K hK; simp only [Grow.put_lit, Grow.setAt]; refine hK _ _ ?_; clear hK K))
            (refine Grow.lex_call ?_ rfl ?_; (· first | exact Grow.wanted_none | (rw [Hopsq.out]; rfl)); apply Exists.intro; apply Exists.intro; refine ⟨fun wq => ?_, ?_⟩; (· (go_simp; exact ⟨rfl, rfl⟩)); apply Exists.intro; refine ⟨fun wq hCq hKq => ?_, ?_⟩; (· exact HC1.out _ (HW.out.trans ((Grow.Cl.base hCq).mono HW.out.size))); intro K hK; simp only [Grow.put_lit, Grow.setAt]; refine hK _ _ ?_; clear hK K)
            repeat (first | (refine Grow.lex_move rfl ?_ rfl ?_; (· first | exact Grow.wanted_none | (rw [Hopsq.out]; rfl)); intro K hK; simp only [Grow.put_lit, Grow.setAt, Grow.eval_lit, Grow.ev]; refine hK _ _ ?_; clear hK K) | (refine Grow.lex_assign rfl ?_ rfl ?_; (· first | exact Grow.wanted_none | (rw [Hopsq.out]; rfl)); intro K hK; simp only [Grow.put_lit, Grow.setAt, Grow.eval_lit, Grow.ev]; refine hK _ _ ?_; clear hK K) | (refine Grow.lex_plain rfl rfl ?_ rfl ?_; (· first | exact Grow.wanted_none | (rw [Hopsq.out]; rfl)); apply Exists.intro; refine ⟨fun wq hCq _ => ?_, ?_⟩; (· (go_wp2_with fail; refine ⟨rfl, Below.refl _ _, ?_⟩; simp only [Grow.getD_lit, Grow.nth]; rfl)); intro K hK; simp only [Grow.put_lit, Grow.setAt]; refine hK _ _ ?_; clear hK K) | (refine Grow.lex_nilCheck rfl rfl ?_ rfl ?_; (· first | exact Grow.wanted_none | (rw [Hopsq.out]; rfl)); intro K hK; simp only [Grow.put_lit, Grow.setAt]; refine hK _ _ ?_; clear hK K) | (refine Grow.lex_skip ?_ ?_; (· (rw [Hopsq.out]; rfl)); intro K hK; simp only [Grow.put_lit, Grow.setAt]; refine hK _ _ ?_; clear hK K))
            (refine Grow.lex_call ?_ rfl ?_; (· first | exact Grow.wanted_none | (rw [Hopsq.out]; rfl)); apply Exists.intro; apply Exists.intro; refine ⟨fun wq => ?_, ?_⟩; (· (go_simp; exact ⟨rfl, rfl⟩)); apply Exists.intro; refine ⟨fun wq hCq hKq => ?_, ?_⟩; (· exact HC2.out _ (HW.out.trans ((Grow.Cl.base hCq).mono HW.out.size))); intro K hK; simp only [Grow.put_lit, Grow.setAt]; refine hK _ _ ?_; clear hK K)
            repeat (first | (refine Grow.lex_move rfl ?_ rfl ?_; (· first | exact Grow.wanted_none | (rw [Hopsq.out]; rfl)); intro K hK; simp only [Grow.put_lit, Grow.setAt, Grow.eval_lit, Grow.ev]; refine hK _ _ ?_; clear hK K) | (refine Grow.lex_assign rfl ?_ rfl ?_; (· first | exact Grow.wanted_none | (rw [Hopsq.out]; rfl)); intro K hK; simp only [Grow.put_lit, Grow.setAt, Grow.eval_lit, Grow.ev]; refine hK _ _ ?_; clear hK K) | (refine Grow.lex_plain rfl rfl ?_ rfl ?_; (· first | exact Grow.wanted_none | (rw [Hopsq.out]; rfl)); apply Exists.intro; refine ⟨fun wq hCq _ => ?_, ?_⟩; (· (go_wp2_with fail; refine ⟨rfl, Below.refl _ _, ?_⟩; simp only [Grow.getD_lit, Grow.nth]; rfl)); intro K hK; simp only [Grow.put_lit, Grow.setAt]; refine hK _ _ ?_; clear hK K) | (refine Grow.lex_nilCheck rfl rfl ?_ rfl ?_; (· first | exact Grow.wanted_none | (rw [Hopsq.out]; rfl)); intro K hK; simp only [Grow.put_lit, Grow.setAt]; refine hK _ _ ?_; clear hK K) | (refine Grow.lex_skip ?_ ?_; (· (rw [Hopsq.out]; rfl)); intro K hK; simp only [Grow.put_lit, Grow.setAt]; refine hK _ _ ?_; clear hK K))
            (refine Grow.lex_call ?_ rfl ?_; (· first | exact Grow.wanted_none | (rw [Hopsq.out]; rfl)); apply Exists.intro; apply Exists.intro; refine ⟨fun wq => ?_, ?_⟩; (· (go_simp; exact ⟨rfl, rfl⟩)); apply Exists.intro; refine ⟨fun wq hCq hKq => ?_, ?_⟩; (· exact HC3.out _ (HW.out.trans ((Grow.Cl.base hCq).mono HW.out.size))); intro K hK; simp only [Grow.put_lit, Grow.setAt]; refine hK _ _ ?_; clear hK K)
            repeat (first | (refine Grow.lex_move rfl ?_ rfl ?_; (· first | exact Grow.wanted_none | (rw [Hopsq.out]; rfl)); intro K hK; simp only [Grow.put_lit, Grow.setAt, Grow.eval_lit, Grow.ev]; refine hK _ _ ?_; clear hK K) | (refine Grow.lex_assign rfl ?_ rfl ?_; (· first | exact Grow.wanted_none | (rw [Hopsq.out]; rfl)); intro K hK; simp only [Grow.put_lit, Grow.setAt, Grow.eval_lit, Grow.ev]; refine hK _ _ ?_; clear hK K) | (refine Grow.lex_plain rfl rfl ?_ rfl ?_; (· first | exact Grow.wanted_none | (rw [Hopsq.out]; rfl)); apply Exists.intro; refine ⟨fun wq hCq _ => ?_, ?_⟩; (· (go_wp2_with fail; refine ⟨rfl, Below.refl _ _, ?_⟩; simp only [Grow.getD_lit, Grow.nth]; rfl)); intro K hK; simp only [Grow.put_lit, Grow.setAt]; refine hK _ _ ?_; clear hK K) | (refine Grow.lex_nilCheck rfl rfl ?_ rfl ?_; (· first | exact Grow.wanted_none | (rw [Hopsq.out]; rfl)); intro K hK; simp only [Grow.put_lit, Grow.setAt]; refine hK _ _ ?_; clear hK K) | (refine Grow.lex_skip ?_ ?_; (· (rw [Hopsq.out]; rfl)); intro K hK; simp only [Grow.put_lit, Grow.setAt]; refine hK _ _ ?_; clear hK K))
            (refine Grow.lex_call ?_ rfl ?_; (· first | exact Grow.wanted_none | (rw [Hopsq.out]; rfl)); apply Exists.intro; apply Exists.intro; refine ⟨fun wq => ?_, ?_⟩; (· (go_simp; exact ⟨rfl, rfl⟩)); apply Exists.intro; refine ⟨fun wq hCq hKq => ?_, ?_⟩; (· exact HC4.out _ (HW.out.trans ((Grow.Cl.base hCq).mono HW.out.size))); intro K hK; simp only [Grow.put_lit, Grow.setAt]; refine hK _ _ ?_; clear hK K)
            repeat (first | (refine Grow.lex_move rfl ?_ rfl ?_; (· first | exact Grow.wanted_none | (rw [Hopsq.out]; rfl)); intro K hK; simp only [Grow.put_lit, Grow.setAt, Grow.eval_lit, Grow.ev]; refine hK _ _ ?_; clear hK K) | (refine Grow.lex_assign rfl ?_ rfl ?_; (· first | exact Grow.wanted_none | (rw [Hopsq.out]; rfl)); intro K hK; simp only [Grow.put_lit, Grow.setAt, Grow.eval_lit, Grow.ev]; refine hK _ _ ?_; clear hK K) | (refine Grow.lex_plain rfl rfl ?_ rfl ?_; (· first | exact Grow.wanted_none | (rw [Hopsq.out]; rfl)); apply Exists.intro; refine ⟨fun wq hCq _ => ?_, ?_⟩; (· (go_wp2_with fail; refine ⟨rfl, Below.refl _ _, ?_⟩; simp only [Grow.getD_lit, Grow.nth]; rfl)); intro K hK; simp only [Grow.put_lit, Grow.setAt]; refine hK _ _ ?_; clear hK K) | (refine Grow.lex_nilCheck rfl rfl ?_ rfl ?_; (· first | exact Grow.wanted_none | (rw [Hopsq.out]; rfl)); intro K hK; simp only [Grow.put_lit, Grow.setAt]; refine hK _ _ ?_; clear hK K) | (refine Grow.lex_skip ?_ ?_; (· (rw [Hopsq.out]; rfl)); intro K hK; simp only [Grow.put_lit, Grow.setAt]; refine hK _ _ ?_; clear hK K))
            (refine Grow.lex_callR (r := (fun _ v w => duR 0 R2 v w)) ?_ rfl ?_; (· first | exact Grow.wanted_none | (rw [Hopsq.out]; rfl)); apply Exists.intro; apply Exists.intro; refine ⟨fun wq => ?_, ?_, ?_⟩; (· (go_simp; exact ⟨rfl, rfl⟩)); (· (intro wq hCq hKq; exact HC5.out _ (HW.out.trans ((Grow.Cl.base hCq).mono HW.out.size)))); intro vq hWq; obtain ⟨_, _, hTT⟩ := hWq; obtain ⟨q3, cap3, hvq⟩ := duR_form (Grow.Holds.of_upd hTT).2; subst hvq; clear hTT; intro K hK; simp only [Grow.put_lit, Grow.setAt]; refine hK _ _ ?_; clear hK K)
            repeat (first | (refine Grow.lex_move rfl ?_ rfl ?_; (· first | exact Grow.wanted_none | (rw [Hopsq.out]; rfl)); intro K hK; simp only [Grow.put_lit, Grow.setAt, Grow.eval_lit, Grow.ev]; refine hK _ _ ?_; clear hK K) | (refine Grow.lex_assign rfl ?_ rfl ?_; (· first | exact Grow.wanted_none | (rw [Hopsq.out]; rfl)); intro K hK; simp only [Grow.put_lit, Grow.setAt, Grow.eval_lit, Grow.ev]; refine hK _ _ ?_; clear hK K) | (refine Grow.lex_plain rfl rfl ?_ rfl ?_; (· first | exact Grow.wanted_none | (rw [Hopsq.out]; rfl)); apply Exists.intro; refine ⟨fun wq hCq _ => ?_, ?_⟩; (· (go_wp2_with fail; refine ⟨rfl, Below.refl _ _, ?_⟩; simp only [Grow.getD_lit, Grow.nth]; rfl)); intro K hK; simp only [Grow.put_lit, Grow.setAt]; refine hK _ _ ?_; clear hK K) | (refine Grow.lex_nilCheck rfl rfl ?_ rfl ?_; (· first | exact Grow.wanted_none | (rw [Hopsq.out]; rfl)); intro K hK; simp only [Grow.put_lit, Grow.setAt]; refine hK _ _ ?_; clear hK K) | (refine Grow.lex_skip ?_ ?_; (· (rw [Hopsq.out]; rfl)); intro K hK; simp only [Grow.put_lit, Grow.setAt]; refine hK _ _ ?_; clear hK K))
            (refine Grow.lex_callR (r := (fun _ v w => duR 0 R2 v w)) ?_ rfl ?_; (· first | exact Grow.wanted_none | (rw [Hopsq.out]; rfl)); apply Exists.intro; apply Exists.intro; refine ⟨fun wq => ?_, ?_, ?_⟩; (· (go_simp; exact ⟨rfl, rfl⟩)); (· (intro wq hCq hKq; exact HC6.out _ (HW.out.trans ((Grow.Cl.base hCq).mono HW.out.size)))); intro vq hWq; obtain ⟨_, _, hTT⟩ := hWq; obtain ⟨q4, cap4, hvq⟩ := duR_form (Grow.Holds.of_upd hTT).2; subst hvq; clear hTT; intro K hK; simp only [Grow.put_lit, Grow.setAt]; refine hK _ _ ?_; clear hK K)
            repeat (first | (refine Grow.lex_move rfl ?_ rfl ?_; (· first | exact Grow.wanted_none | (rw [Hopsq.out]; rfl)); intro K hK; simp only [Grow.put_lit, Grow.setAt, Grow.eval_lit, Grow.ev]; refine hK _ _ ?_; clear hK K) | (refine Grow.lex_assign rfl ?_ rfl ?_; (· first | exact Grow.wanted_none | (rw [Hopsq.out]; rfl)); intro K hK; simp only [Grow.put_lit, Grow.setAt, Grow.eval_lit, Grow.ev]; refine hK _ _ ?_; clear hK K) | (refine Grow.lex_plain rfl rfl ?_ rfl ?_; (· first | exact Grow.wanted_none | (rw [Hopsq.out]; rfl)); apply Exists.intro; refine ⟨fun wq hCq _ => ?_, ?_⟩; (· (go_wp2_with fail; refine ⟨rfl, Below.refl _ _, ?_⟩; simp only [Grow.getD_lit, Grow.nth]; rfl)); intro K hK; simp only [Grow.put_lit, Grow.setAt]; refine hK _ _ ?_; clear hK K) | (refine Grow.lex_nilCheck rfl rfl ?_ rfl ?_; (· first | exact Grow.wanted_none | (rw [Hopsq.out]; rfl)); intro K hK; simp only [Grow.put_lit, Grow.setAt]; refine hK _ _ ?_; clear hK K) | (refine Grow.lex_skip ?_ ?_; (· (rw [Hopsq.out]; rfl)); intro K hK; simp only [Grow.put_lit, Grow.setAt]; refine hK _ _ ?_; clear hK K))
            (refine Grow.lex_call ?_ rfl ?_; (· first | exact Grow.wanted_none | (rw [Hopsq.out]; rfl)); apply Exists.intro; apply Exists.intro; refine ⟨fun wq => ?_, ?_⟩; (· (go_simp; exact ⟨rfl, rfl⟩)); apply Exists.intro; refine ⟨fun wq hCq hKq => ?_, ?_⟩; (· exact HSC.out _ q3 cap3 q4 cap4 (duR_out ((hKq 24 ⟨[], by rw [Hopsq.out]; kernel_rfl⟩).1.2 rfl)).1 (duR_out ((hKq 28 ⟨[], by rw [Hopsq.out]; kernel_rfl⟩).2 rfl)).1); intro K hK; simp only [Grow.put_lit, Grow.setAt]; refine hK _ _ ?_; clear hK K)
            repeat (first | (refine Grow.lex_move rfl ?_ rfl ?_; (· first | exact Grow.wanted_none | (rw [Hopsq.out]; rfl)); intro K hK; simp only [Grow.put_lit, Grow.setAt, Grow.eval_lit, Grow.ev]; refine hK _ _ ?_; clear hK K) | (refine Grow.lex_assign rfl ?_ rfl ?_; (· first | exact Grow.wanted_none | (rw [Hopsq.out]; rfl)); intro K hK; simp only [Grow.put_lit, Grow.setAt, Grow.eval_lit, Grow.ev]; refine hK _ _ ?_; clear hK K) | (refine Grow.lex_plain rfl rfl ?_ rfl ?_; (· first | exact Grow.wanted_none | (rw [Hopsq.out]; rfl)); apply Exists.intro; refine ⟨fun wq hCq _ => ?_, ?_⟩; (· (go_wp2_with fail; refine ⟨rfl, Below.refl _ _, ?_⟩; simp only [Grow.getD_lit, Grow.nth]; rfl)); intro K hK; simp only [Grow.put_lit, Grow.setAt]; refine hK _ _ ?_; clear hK K) | (refine Grow.lex_nilCheck rfl rfl ?_ rfl ?_; (· first | exact Grow.wanted_none | (rw [Hopsq.out]; rfl)); intro K hK; simp only [Grow.put_lit, Grow.setAt]; refine hK _ _ ?_; clear hK K) | (refine Grow.lex_skip ?_ ?_; (· (rw [Hopsq.out]; rfl)); intro K hK; simp only [Grow.put_lit, Grow.setAt]; refine hK _ _ ?_; clear hK K))
            (refine Grow.lex_nil ?_; intro wz hbz _; replace hbz := Grow.Cl.base hbz; clear Hopsq opsq)
            have HWz := Lib.hid (HW.out.trans (hbz.mono HW.out.size))
            clear hbz HW t0 t1 t2 t3 t4 t5 t6 t7
            go_wp2_with fail
            exact ⟨⟨car + 1, by omega, by omega, by go_num, HWz.out⟩, by simp [intOf]; omega⟩
          · go_wp2_with fail
            exact ⟨⟨j + 1, by omega, by go_num, HW.out⟩, by simp [intOf]; omega⟩
      · obtain rfl : j = 2 := by omega
        have hZ := z_run 0 X; have hK := z_keeps 0 X
        have HZ1 : Hid (∀ W, Below w4.heap.size w4 W → Calls Try.prog 12 #[cvB zBld none 0, .int .i64 0, .slice qx nx capx] W fun e w' => e = .returned (.int .i64 (-1)) ∧ Below W.heap.size W w') := by
          refine Lib.hid fun W hW => ?_
          have h := check_any zBld none 0 0 X qx capx W (by simp [zBld]) (fun i c h => by simp [zBld] at h) HXL.out (HX6.out.next hW)
          rw [← HNX.out, hZ] at h
          exact h
        have HZ2 : Hid (∀ W, Below w4.heap.size w4 W → Calls Try.prog 14 #[cvB zBld none 0, .int .i64 0, .slice qx nx capx] W fun e w' => e = .returned (.bool false) ∧ Below W.heap.size W w') := by
          refine Lib.hid fun W hW => ?_
          have h := keeps_any zBld none 0 0 X qx capx W (by simp [zBld]) (fun i c h => by simp [zBld] at h) HXL.out (HX6.out.next hW)
          rw [← HNX.out, hK] at h
          exact h
        clear hZ hK
        go_wp2_with fail
        refine (HZ1.out _ HW.out).mono ?_
        rintro e z1 ⟨rfl, hb1⟩
        have HW1 := Lib.hid (HW.out.trans (hb1.mono HW.out.size))
        clear hb1 HW
        go_wp2_with fail
        refine (HZ2.out _ HW1.out).mono ?_
        rintro e z2 ⟨rfl, hb2⟩
        have HW2 := Lib.hid (HW1.out.trans (hb2.mono HW1.out.size))
        clear hb2 HW1
        go_wp2_with fail
        refine (sane18_any _).mono ?_
        rintro e z3 ⟨rfl, hb3⟩
        have HW3 := Lib.hid (HB6.out.trans ((HW2.out.trans (hb3.mono HW2.out.size)).mono HB6.out.size))
        clear hb3 HW2
        go_wp2_with fail
        go_ret
        exact ⟨rfl, HWW.out.trans (HW3.out.mono HWW.out.size)⟩
  · have hdx : decide ((200 : Int) < (nx : Int)) = true := by simp; omega
    go_wp2_with fail
    refine (sane18_any _).mono ?_
    rintro e w1 ⟨rfl, hb⟩
    go_wp2_with fail
    go_ret
    exact ⟨rfl, HWW.out.trans ((HW.out.trans (hb.mono HW.out.size)).mono HWW.out.size)⟩
set_option maxHeartbeats 1000000 in
set_option maxRecDepth 100000 in
theorem contractChecks_lifted (os : Os) (started : os.Started) (H : Type) (enc : TypeId × Value → H) :
    ReturnsInHanded {} Try.checked os 3 .any (Rows.contractChecksSpec.pre6 enc Try.prog Try.f3 Rows.contractChecksRow.domain false) (Rows.contractChecksSpec.post enc Try.prog Try.f3 false true false false) := by
  refine law_lifted (C := Try.checked) own laidOut started (by kernel_rfl) Try.func3 4 rfl Try.underlying4 (by kernel_rfl) rfl H enc
    (fun ds h => by match ds, h with | [d0, d1, d2], _ => rfl)
    (ChangeSpec.witness6 (enc := enc) (C := Try.checked) false ⟨#[], #[.agg #[.int .u8 0, .int .u8 0], .slice none 0 0, .slice none 0 0], []⟩ 8 (by kernel_rfl) (by kernel_rfl) (by kernel_rfl) (by kernel_rfl)) ?_
  intro W base args ds ps hval hA hsz
  have hA' : DataW.TrodAll enc Try.prog W 0 (fun _ => true) true Try.f3.params.toList args.toList ds ps := hA
  have hval' : ∀ (j : Nat) t v, Try.f3.params[j]? = some t → args[j]? = some v → Value.okWide Try.prog W .any base t v := hval
  rw [Try.params3] at hA' hval'
  obtain ⟨v0, vs0, d0, ds0, p0, q0, hargs, rfl, rfl, h0, r0⟩ := trodAll_cons hA'
  obtain ⟨v1, vs1, d1, ds1, p1, q1, rfl, rfl, rfl, h1, r1⟩ := trodAll_cons r0
  obtain ⟨v2, vs2, d2, ds2, p2, q2, rfl, rfl, rfl, h2, r2⟩ := trodAll_cons r1
  obtain ⟨rfl, rfl, rfl⟩ := trodAll_nil r2
  obtain rfl : args = #[v0, v1, v2] := by cases args; simp_all
  obtain ⟨n0, t0, rfl, hn0, ht0⟩ := open_u8x2 (hval' 0 22 v0 rfl rfl) h0
  obtain ⟨l1, q1x, cap1, rfl, hl1, hu1⟩ := open_u8s (hval' 1 23 v1 rfl rfl) h1
  obtain ⟨x2, q2x, cap2, rfl, hl2, hx2⟩ := open_marks (hval' 2 24 v2 rfl rfl) h2
  exact checks_walk n0 t0 l1 q1x cap1 x2 q2x cap2 W hn0 ht0 hl1 hu1 hl2 hx2

theorem contractChecks_over : Rows.contractChecksRow.holds Try.pinned (OpenSpec.ofChange Rows.contractChecksSpec) :=
  OpenClaim.holds_of_wide 3 Try.f3 rfl rfl rfl rfl rfl rfl rfl ⟨rfl, rfl, rfl, rfl, rfl⟩ rfl rfl rfl rfl rfl (by kernel_rfl) Try.func3 (by kernel_rfl)
    (of_decide_eq_true (by kernel_rfl)) (by unfold Func.isWrapper; first | (rw [if_pos (by decide +kernel)]; kernel_rfl) | (rw [if_neg (by decide +kernel)]; exact ⟨rfl, rfl⟩))
    (fun os started H enc _ => contractChecks_lifted os started H enc)

/-- THE STATEMENT. -/
theorem contractChecks_holds : Rows.ContractChecksSaid := contractChecks_over
#print axioms contractChecks_holds
end Go.Proofs.Ytfmmiafdlfdfoaa
