/- ContractLimits: how long a trace may be: at the limit, and one more. The law's function answers true at every argument. Conditions: none. -/
import Derived.Test.YtfmmiafdlfdfoaaPrefLaw
import Derived.Test.YtfmmiafdlfdfoaaArgs
namespace Go.Proofs.Ytfmmiafdlfdfoaa
open Go.ChangeShapes Go.WideShapes Go.ChangeAt Go.RowKit
attribute [local go_sem] run_store_float
theorem b18_dl (n t : Nat) : dlOf (b18 n t) 0 = 1 + (t : Int) % 16 := by
  have : 0 < k18 n := (k18_range n).1
  unfold dlOf b18 cars18
  simp [this, c18]
theorem b18_car0 (n t : Nat) : ∃ c, (b18 n t).cars[0]? = some c ∧ c.dl = 1 + (t : Int) % 16 := by
  have : 0 < k18 n := (k18_range n).1
  exact ⟨c18 t (fl18 n) 0, by simp [b18, cars18, this], rfl⟩
theorem lim_row (N : Nat) (h : 1 ≤ N) : ((markCells (List.replicate N zM)).set 0 (.int .u32 1)).set 1 (.int .u32 0) = markCells (limL N) ∧ (markCells (List.replicate N zM))[0]? = some (.int .u32 0) ∧ (markCells (List.replicate N zM))[1]? = some (.int .u32 0) := by
  obtain ⟨M, rfl⟩ : ∃ M, N = M + 1 := ⟨N - 1, by omega⟩
  rw [limL_cons, List.replicate_succ]
  exact ⟨rfl, rfl, rfl⟩
set_option maxHeartbeats 4000000 in
set_option maxRecDepth 100000 in
theorem limits_walk (n : Nat) (w : World) (hn : n < 256) :
    Calls Try.prog 7 #[.int .u8 n] w fun e w' => e = .returned (.bool true) ∧ Below w.heap.size w w' := by
  go_enter Try.func7, Try.ntmps7
  go_wp2_with fail
  refine (b18_val2 n n _ hn hn).mono ?_
  rintro e w1 ⟨g, cap, rfl, hg0, hg1, hown, hr, hb⟩
  have HL1 : Hid ((b18 n n).cars.length ≤ 1000) := Lib.hid (by show (cars18 n n).length ≤ 1000; rw [cars18_len]; have := (k18_range n).2; omega)
  have HV := Lib.hid (valid18 n n)
  obtain ⟨c0, hc0, hc1⟩ := b18_car0 n n
  have hdl := b18_dl n n
  have hcl : (0 : Int) < ((b18 n n).cars.length : Int) := by have := (List.getElem?_eq_some_iff.1 hc0).1; omega
  have HC0 := Lib.hid hc0
  have HR1 := Lib.hid hr; have HB1 := Lib.hid hb
  clear hown hr hb hc0
  generalize b18 n n = b at *
  obtain ⟨dl, hd⟩ : ∃ dl : Int, dl = 1 + (n : Int) % 16 := ⟨_, rfl⟩
  rw [← hd] at hc1 hdl
  have hd0 : 1 ≤ dl := by omega
  have hd1 : dl ≤ 16 := by omega
  have HDL := Lib.hid hdl; have HCD := Lib.hid hc1
  clear hd hdl hc1
  go_upto_region 2 with fail
  have B5 := Blk.new w1 [.int .i64 b.fl, .int .i64 b.deb, .int .i64 b.room, .int .i64 b.park, .float .f64 b.em, .float .f64 b.fu, .float .f64 b.ov, .slice (some ⟨g, 0, none⟩) b.cars.length cap] 29
  have hb5 := below1' w1 (.cells #[.int .i64 b.fl, .int .i64 b.deb, .int .i64 b.room, .int .i64 b.park, .float .f64 b.em, .float .f64 b.fu, .float .f64 b.ov, .slice (some ⟨g, 0, none⟩) b.cars.length cap] 29)
  change Blk (w1.alloc (.cells #[.int .i64 b.fl, .int .i64 b.deb, .int .i64 b.room, .int .i64 b.park, .float .f64 b.em, .float .f64 b.fu, .float .f64 b.ov, .slice (some ⟨g, 0, none⟩) b.cars.length cap] 29)) _ _ at B5
  have HB3 := Lib.hid (HB1.out.trans (hb5.mono HB1.out.size))
  have HR3 := Lib.hid (HR1.out.next hb5)
  have HB5 := Lib.hid B5
  clear B5 hb5 HB1 HR1
  generalize w1.alloc (.cells #[.int .i64 b.fl, .int .i64 b.deb, .int .i64 b.room, .int .i64 b.park, .float .f64 b.em, .float .f64 b.fu, .float .f64 b.ov, .slice (some ⟨g, 0, none⟩) b.cars.length cap] 29) = w2 at *
  generalize w1.heap.size = g5 at *
  have hz5 : g5 < w2.heap.size := HB5.out.lt
  obtain ⟨N, hN⟩ : ∃ N : Nat, (N : Int) = 5000 + (n : Int) % 3 - 1 := ⟨4999 + n % 3, by omega⟩
  have hN0 : 4999 ≤ N := by omega
  have hN1 : N ≤ 5001 := by omega
  have hmk := run_mkM N (by omega)
  rw [hN] at hmk
  have HO1 := Lib.hid (ownsM_made w2 N w2.heap.size (Nat.le_refl _) (by omega))
  have hbm := below1' w2 (.cells (zerosM N) 51)
  have HB6 := Lib.hid (HB3.out.trans (hbm.mono HB3.out.size)); have HR6 := Lib.hid (HR3.out.next hbm); have HX6 := Lib.hid (HB5.out.next hbm)
  have hwg : w.heap.size ≤ w2.heap.size := HB3.out.size
  clear hbm HB3 HR3 HB5
  go_upto_region 3 with fail
  generalize w2.alloc (.cells (zerosM N) 51) = w3 at *
  generalize w2.heap.size = gl at *
  have hgl := (HO1.out.lt gl rfl).2
  obtain ⟨e1, r0, r1⟩ := lim_row N (by omega)
  have k0 : w3.cell? ⟨gl, 0, none⟩ = some (.int .u32 0) := by rw [HO1.out.cellAt 0 (by omega)]; exact r0
  have k1 : w3.cell? ⟨gl, 1, none⟩ = some (.int .u32 0) := by rw [HO1.out.cellAt 1 (by omega)]; exact r1
  have f0 := row_fr HO1.out 0; have f1 := row_fr HO1.out 1
  have h5l : g5 ≠ gl := by omega
  have hnN : (0 : Int) < (N : Int) := by omega
  have h2 := row_upd (row_upd HO1.out 0 (.int .u32 1)) 1 (.int .u32 0)
  rw [e1] at h2
  have HO2 := Lib.hid h2
  have HX7 := Lib.hid ((HX6.out.other (i := 0) h5l (.int .u32 1)).other (i := 1) h5l (.int .u32 0))
  have HB7 := Lib.hid ((HB6.out.setCell (p := ⟨gl, 0, none⟩) hwg (.int .u32 1)).setCell (p := ⟨gl, 1, none⟩) hwg (.int .u32 0))
  have HR7 := Lib.hid (rdC_low HR6.out (g := gl) (fun A hA => by cases hA; show g < gl; omega) (((Below.refl gl w3).setCell (p := ⟨gl, 0, none⟩) (Nat.le_refl _) (.int .u32 1)).setCell (p := ⟨gl, 1, none⟩) (Nat.le_refl _) (.int .u32 0)) (by simp [World.setCell]))
  clear h2 e1 r0 r1 h5l hmk hN
  go_upto_region 4 with fail
  clear HO1 HX6 HB6 HR6 k0 k1 f0 f1
  generalize (w3.setCell ⟨gl, 0, none⟩ (.int .u32 1)).setCell ⟨gl, 1, none⟩ (.int .u32 0) = w4 at *
  have HM := Lib.hid (rdM_of_owns HO2.out (limL_len _))
  have HC1 : Hid (∀ W, Below w4.heap.size w4 W → Calls Try.prog 12 #[cvB b (some ⟨g, 0, none⟩) cap, .int .i64 0, .slice (some ⟨gl, 0, none⟩) N N] W fun e w' => e = .returned (.int .i64 (runB b 0 (limL N)).1) ∧ Below W.heap.size W w') := by
    refine Lib.hid fun W hW => ?_
    have h := check_any b (some ⟨g, 0, none⟩) cap 0 (limL N) (some ⟨gl, 0, none⟩) N W HL1.out (HR7.out.next hW) (by rw [limL_len]; unfold maxLen; omega) (HM.out.next hW)
    rw [limL_len] at h
    exact h
  have HC2 : Hid (∀ W, Below w4.heap.size w4 W → Calls Try.prog 14 #[cvB b (some ⟨g, 0, none⟩) cap, .int .i64 0, .slice (some ⟨gl, 0, none⟩) N N] W fun e w' => e = .returned (.bool (keepsB b 0 (limL N))) ∧ Below W.heap.size W w') := by
    refine Lib.hid fun W hW => ?_
    have h := keeps_any b (some ⟨g, 0, none⟩) cap 0 (limL N) (some ⟨gl, 0, none⟩) N W HL1.out (HR7.out.next hW) (by rw [limL_len]; unfold maxLen; omega) (HM.out.next hW)
    rw [limL_len] at h
    exact h
  have hz5 := HX7.out.lt
  have HWr := Lib.hid (Below.refl w4.heap.size w4)
  by_cases hNN : N ≤ 5000
  · have hd : decide ((5000 : Int) < (N : Int)) = false := by simp; omega
    have e2 := lim_law b N HV.out hNN (by rw [HDL.out]; exact hd0) (by rw [HDL.out]; omega)
    have e3 := lim_keeps b N HV.out hNN (by rw [HDL.out]; exact hd0) (by rw [HDL.out]; omega)
    rw [e2, HDL.out] at HC1
    rw [e3] at HC2
    clear e2 e3
    go_upto_region 6 with fail
    clear hd hNN
    have t0 := (HX7.out).reg 0 _ rfl
    have t1 := (HX7.out).reg 1 _ rfl
    have t2 := (HX7.out).reg 2 _ rfl
    have t3 := (HX7.out).reg 3 _ rfl
    have t4 := (HX7.out).reg 4 _ rfl
    have t5 := (HX7.out).reg 5 _ rfl
    have t6 := (HX7.out).reg 6 _ rfl
    have t7 := (HX7.out).reg 7 _ rfl
    obtain ⟨A', hq2, hA2, q0⟩ := HR7.out.reg0 HC0.out
    rw [HCD.out] at q0
    obtain rfl : A' = ⟨g, 0, none⟩ := by simpa using hq2.symm
    clear hq2 hA2
    have q1 : ∀ W, Grow.Cl w4.drew W → W.cell? ⟨g, 0, none⟩ = some (.int .i64 dl) := fun W hW => by have := q0 W hW; simpa [go_sem] using this
    clear q0
    (refine Grow.wp_region Grow.noPlan Grow.noPlan_stable (by kernel_rfl) (by kernel_rfl) ?_; intro opsq Hopsq)
    repeat (first | (refine Grow.lex_move rfl ?_ rfl ?_; (· first | exact Grow.wanted_none | (rw [Hopsq.out]; rfl)); intro K hK; simp only [Grow.put_lit, Grow.setAt, Grow.eval_lit, Grow.ev]; refine hK _ _ ?_; clear hK K) | (refine Grow.lex_assign rfl ?_ rfl ?_; (· first | exact Grow.wanted_none | (rw [Hopsq.out]; rfl)); intro K hK; simp only [Grow.put_lit, Grow.setAt, Grow.eval_lit, Grow.ev]; refine hK _ _ ?_; clear hK K) | (refine Grow.lex_plain rfl rfl ?_ rfl ?_; (· first | exact Grow.wanted_none | (rw [Hopsq.out]; rfl)); apply Exists.intro; refine ⟨fun wq hCq _ => ?_, ?_⟩; (· (go_wp2_with fail; refine ⟨rfl, Below.refl _ _, ?_⟩; simp only [Grow.getD_lit, Grow.nth]; rfl)); intro K hK; simp only [Grow.put_lit, Grow.setAt]; refine hK _ _ ?_; clear hK K) | (refine Grow.lex_nilCheck rfl rfl ?_ rfl ?_; (· first | exact Grow.wanted_none | (rw [Hopsq.out]; rfl)); intro K hK; simp only [Grow.put_lit, Grow.setAt]; refine hK _ _ ?_; clear hK K) | (refine Grow.lex_skip ?_ ?_; (· (rw [Hopsq.out]; rfl)); intro K hK; simp only [Grow.put_lit, Grow.setAt]; refine hK _ _ ?_; clear hK K))
    (refine Grow.lex_call ?_ rfl ?_; (· first | exact Grow.wanted_none | (rw [Hopsq.out]; rfl)); apply Exists.intro; apply Exists.intro; refine ⟨fun wq => ?_, ?_⟩; (· (go_simp; exact ⟨rfl, rfl⟩)); apply Exists.intro; refine ⟨fun wq hCq hKq => ?_, ?_⟩; (· exact HC1.out _ (Grow.Cl.base hCq)); intro K hK; simp only [Grow.put_lit, Grow.setAt]; refine hK _ _ ?_; clear hK K)
    repeat (first | (refine Grow.lex_move rfl ?_ rfl ?_; (· first | exact Grow.wanted_none | (rw [Hopsq.out]; rfl)); intro K hK; simp only [Grow.put_lit, Grow.setAt, Grow.eval_lit, Grow.ev]; refine hK _ _ ?_; clear hK K) | (refine Grow.lex_assign rfl ?_ rfl ?_; (· first | exact Grow.wanted_none | (rw [Hopsq.out]; rfl)); intro K hK; simp only [Grow.put_lit, Grow.setAt, Grow.eval_lit, Grow.ev]; refine hK _ _ ?_; clear hK K) | (refine Grow.lex_plain rfl rfl ?_ rfl ?_; (· first | exact Grow.wanted_none | (rw [Hopsq.out]; rfl)); apply Exists.intro; refine ⟨fun wq hCq _ => ?_, ?_⟩; (· (go_wp2_with fail; refine ⟨rfl, Below.refl _ _, ?_⟩; simp only [Grow.getD_lit, Grow.nth]; rfl)); intro K hK; simp only [Grow.put_lit, Grow.setAt]; refine hK _ _ ?_; clear hK K) | (refine Grow.lex_nilCheck rfl rfl ?_ rfl ?_; (· first | exact Grow.wanted_none | (rw [Hopsq.out]; rfl)); intro K hK; simp only [Grow.put_lit, Grow.setAt]; refine hK _ _ ?_; clear hK K) | (refine Grow.lex_skip ?_ ?_; (· (rw [Hopsq.out]; rfl)); intro K hK; simp only [Grow.put_lit, Grow.setAt]; refine hK _ _ ?_; clear hK K))
    (refine Grow.lex_call ?_ rfl ?_; (· first | exact Grow.wanted_none | (rw [Hopsq.out]; rfl)); apply Exists.intro; apply Exists.intro; refine ⟨fun wq => ?_, ?_⟩; (· (go_simp; exact ⟨rfl, rfl⟩)); apply Exists.intro; refine ⟨fun wq hCq hKq => ?_, ?_⟩; (· exact HC2.out _ (Grow.Cl.base hCq)); intro K hK; simp only [Grow.put_lit, Grow.setAt]; refine hK _ _ ?_; clear hK K)
    repeat (first | (refine Grow.lex_move rfl ?_ rfl ?_; (· first | exact Grow.wanted_none | (rw [Hopsq.out]; rfl)); intro K hK; simp only [Grow.put_lit, Grow.setAt, Grow.eval_lit, Grow.ev]; refine hK _ _ ?_; clear hK K) | (refine Grow.lex_assign rfl ?_ rfl ?_; (· first | exact Grow.wanted_none | (rw [Hopsq.out]; rfl)); intro K hK; simp only [Grow.put_lit, Grow.setAt, Grow.eval_lit, Grow.ev]; refine hK _ _ ?_; clear hK K) | (refine Grow.lex_plain rfl rfl ?_ rfl ?_; (· first | exact Grow.wanted_none | (rw [Hopsq.out]; rfl)); apply Exists.intro; refine ⟨fun wq hCq _ => ?_, ?_⟩; (· (go_wp2_with fail; refine ⟨rfl, Below.refl _ _, ?_⟩; simp only [Grow.getD_lit, Grow.nth]; rfl)); intro K hK; simp only [Grow.put_lit, Grow.setAt]; refine hK _ _ ?_; clear hK K) | (refine Grow.lex_nilCheck rfl rfl ?_ rfl ?_; (· first | exact Grow.wanted_none | (rw [Hopsq.out]; rfl)); intro K hK; simp only [Grow.put_lit, Grow.setAt]; refine hK _ _ ?_; clear hK K) | (refine Grow.lex_skip ?_ ?_; (· (rw [Hopsq.out]; rfl)); intro K hK; simp only [Grow.put_lit, Grow.setAt]; refine hK _ _ ?_; clear hK K))
    (refine Grow.lex_call ?_ rfl ?_; (· first | exact Grow.wanted_none | (rw [Hopsq.out]; rfl)); apply Exists.intro; apply Exists.intro; refine ⟨fun wq => ?_, ?_⟩; (· (go_simp; exact ⟨rfl, rfl⟩)); apply Exists.intro; refine ⟨fun wq hCq hKq => ?_, ?_⟩; (· exact sane18_any _); intro K hK; simp only [Grow.put_lit, Grow.setAt]; refine hK _ _ ?_; clear hK K)
    repeat (first | (refine Grow.lex_move rfl ?_ rfl ?_; (· first | exact Grow.wanted_none | (rw [Hopsq.out]; rfl)); intro K hK; simp only [Grow.put_lit, Grow.setAt, Grow.eval_lit, Grow.ev]; refine hK _ _ ?_; clear hK K) | (refine Grow.lex_assign rfl ?_ rfl ?_; (· first | exact Grow.wanted_none | (rw [Hopsq.out]; rfl)); intro K hK; simp only [Grow.put_lit, Grow.setAt, Grow.eval_lit, Grow.ev]; refine hK _ _ ?_; clear hK K) | (refine Grow.lex_plain rfl rfl ?_ rfl ?_; (· first | exact Grow.wanted_none | (rw [Hopsq.out]; rfl)); apply Exists.intro; refine ⟨fun wq hCq _ => ?_, ?_⟩; (· (go_wp2_with fail; refine ⟨rfl, Below.refl _ _, ?_⟩; simp only [Grow.getD_lit, Grow.nth]; rfl)); intro K hK; simp only [Grow.put_lit, Grow.setAt]; refine hK _ _ ?_; clear hK K) | (refine Grow.lex_nilCheck rfl rfl ?_ rfl ?_; (· first | exact Grow.wanted_none | (rw [Hopsq.out]; rfl)); intro K hK; simp only [Grow.put_lit, Grow.setAt]; refine hK _ _ ?_; clear hK K) | (refine Grow.lex_skip ?_ ?_; (· (rw [Hopsq.out]; rfl)); intro K hK; simp only [Grow.put_lit, Grow.setAt]; refine hK _ _ ?_; clear hK K))
    (refine Grow.lex_nil ?_; intro wz hbz _; replace hbz := Grow.Cl.base hbz; clear Hopsq opsq)
    go_wp2_with fail
    go_ret
    exact ⟨rfl, HB7.out.trans (hbz.mono HB7.out.size)⟩
  · have hd : decide ((5000 : Int) < (N : Int)) = true := by simp; omega
    obtain ⟨e2, e3⟩ := lim_long b N (by omega)
    rw [e2] at HC1
    rw [e3] at HC2
    clear e2 e3 hNN
    have k0 := (HX7.out).cell 0 _ rfl
    have k1 := (HX7.out).cell 1 _ rfl
    have k2 := (HX7.out).cell 2 _ rfl
    have k3 := (HX7.out).cell 3 _ rfl
    have k4 := (HX7.out).cell 4 _ rfl
    have k5 := (HX7.out).cell 5 _ rfl
    have k6 := (HX7.out).cell 6 _ rfl
    have k7 := (HX7.out).cell 7 _ rfl
    go_wp2_with fail
    refine (HC1.out _ HWr.out).mono ?_
    rintro e z1 ⟨rfl, hb1⟩
    have HW1 := Lib.hid hb1
    clear hb1 k0 k1 k2 k3 k4 k5 k6 k7
    have XX := HX7.out.next HW1.out
    have k0 := (XX).cell 0 _ rfl
    have k1 := (XX).cell 1 _ rfl
    have k2 := (XX).cell 2 _ rfl
    have k3 := (XX).cell 3 _ rfl
    have k4 := (XX).cell 4 _ rfl
    have k5 := (XX).cell 5 _ rfl
    have k6 := (XX).cell 6 _ rfl
    have k7 := (XX).cell 7 _ rfl
    clear XX
    go_wp2_with fail
    refine (HC2.out _ HW1.out).mono ?_
    rintro e z2 ⟨rfl, hb2⟩
    have HW2 := Lib.hid (HW1.out.trans (hb2.mono HW1.out.size))
    clear hb2 HW1 k0 k1 k2 k3 k4 k5 k6 k7
    go_wp2_with fail
    refine (sane18_any _).mono ?_
    rintro e z3 ⟨rfl, hb3⟩
    have HW3 := Lib.hid (HB7.out.trans ((HW2.out.trans (hb3.mono HW2.out.size)).mono HB7.out.size))
    clear hb3 HW2
    go_wp2_with fail
    go_ret
    exact ⟨rfl, HW3.out⟩
set_option maxHeartbeats 1000000 in
set_option maxRecDepth 100000 in
theorem contractLimits_lifted (os : Os) (started : os.Started) (H : Type) (enc : TypeId × Value → H) :
    ReturnsInHanded {} Try.checked os 7 .any (Rows.contractLimitsSpec.pre6 enc Try.prog Try.f7 Rows.contractLimitsRow.domain false) (Rows.contractLimitsSpec.post enc Try.prog Try.f7 false true false false) := by
  refine law_lifted (C := Try.checked) own laidOut started (by kernel_rfl) Try.func7 4 rfl Try.underlying4 (by kernel_rfl) rfl H enc
    (fun ds h => by match ds, h with | [d0], _ => rfl)
    (ChangeSpec.witness6 (enc := enc) (C := Try.checked) false ⟨#[], #[.int .u8 0], []⟩ 8 (by kernel_rfl) (by kernel_rfl) (by kernel_rfl) (by kernel_rfl)) ?_
  intro W base args ds ps hval hA hsz
  have hA' : DataW.TrodAll enc Try.prog W 0 (fun _ => true) true Try.f7.params.toList args.toList ds ps := hA
  have hval' : ∀ (j : Nat) t v, Try.f7.params[j]? = some t → args[j]? = some v → Value.okWide Try.prog W .any base t v := hval
  rw [Try.params7] at hA' hval'
  obtain ⟨v0, vs0, d0, ds0, p0, q0, hargs, rfl, rfl, h0, r0⟩ := trodAll_cons hA'
  obtain ⟨rfl, rfl, rfl⟩ := trodAll_nil r0
  obtain rfl : args = #[v0] := by cases args; simp_all
  obtain ⟨x0, rfl, rfl, rfl, wx0⟩ := open_int Try.underlying5 (hval' 0 5 v0 rfl rfl) h0
  (obtain ⟨m0, rfl, hm0⟩ := u8_wf wx0; exact limits_walk m0 W hm0)

theorem contractLimits_over : Rows.contractLimitsRow.holds Try.pinned (OpenSpec.ofChange Rows.contractLimitsSpec) :=
  OpenClaim.holds_of_wide 7 Try.f7 rfl rfl rfl rfl rfl rfl rfl ⟨rfl, rfl, rfl, rfl, rfl⟩ rfl rfl rfl rfl rfl (by kernel_rfl) Try.func7 (by kernel_rfl)
    (of_decide_eq_true (by kernel_rfl)) (by unfold Func.isWrapper; first | (rw [if_pos (by decide +kernel)]; kernel_rfl) | (rw [if_neg (by decide +kernel)]; exact ⟨rfl, rfl⟩))
    (fun os started H enc _ => contractLimits_lifted os started H enc)

/-- THE STATEMENT. -/
theorem contractLimits_holds : Rows.ContractLimitsSaid := contractLimits_over
#print axioms contractLimits_holds
end Go.Proofs.Ytfmmiafdlfdfoaa
