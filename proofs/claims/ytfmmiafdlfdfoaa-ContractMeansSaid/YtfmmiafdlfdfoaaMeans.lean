/- ContractMeans: what a contract says, by all pairs of ticks. The law's function answers true at every argument. Conditions: none. -/
import Derived.Test.YtfmmiafdlfdfoaaMeansLaw
import Derived.Test.YtfmmiafdlfdfoaaArgs
namespace Go.Proofs.Ytfmmiafdlfdfoaa
open Go.ChangeShapes Go.WideShapes Go.ChangeAt Go.RowKit
attribute [local go_sem] run_store_float
theorem b18_dlM (n t : Nat) : dlOf (b18 n t) 0 = 1 + (t : Int) % 16 := by
  have : 0 < k18 n := (k18_range n).1
  unfold dlOf b18 cars18
  simp [this, c18]
theorem b18_carM (n t : Nat) : ∃ c, (b18 n t).cars[0]? = some c ∧ c.dl = 1 + (t : Int) % 16 := by
  have : 0 < k18 n := (k18_range n).1
  exact ⟨c18 t (fl18 n) 0, by simp [b18, cars18, this], rfl⟩
theorem scan_stay (b : BldV) (p : Int × Int) (L : List MarkV) (u j : Nat) (h : 0 ≤ scanV b p L u j) : ∀ n, scanV b p L u (j + n) = scanV b p L u j
  | 0 => rfl
  | n + 1 => by
    show (if 0 ≤ scanV b p L u (j + n) then scanV b p L u (j + n) else _) = _
    rw [scan_stay b p L u j h n, if_pos h]
set_option maxHeartbeats 4000000 in
set_option maxRecDepth 100000 in
theorem means_walk (n t : Nat) (l : List Nat) (ql : Option Addr) (capl : Nat) (w : World) (hn : n < 256) (ht : t < 256) (hl : l.length ≤ maxLen) (hu : RdU w ql l) :
    Calls Try.prog 4 #[.agg #[.int .u8 n, .int .u8 t], .slice ql l.length capl] w fun e w' => e = .returned (.bool true) ∧ Below w.heap.size w w' := by
  have X0 : Blk (w.alloc (.cells #[.int .u8 n, .int .u8 t] 22)) w.heap.size [.int .u8 n, .int .u8 t] := by
    have hx := Blk.new w [.int .u8 n, .int .u8 t] 22
    exact hx
  have XW : Below w.heap.size w (w.alloc (.cells #[.int .u8 n, .int .u8 t] 22)) := below1' w _
  have HWW := Lib.hid XW; have HX0 := Lib.hid X0
  clear XW X0
  have HU := Lib.hid (hu.next HWW.out)
  have HL2 := Lib.hid hl
  clear hu
  obtain ⟨nl, hnl⟩ : ∃ n, n = l.length := ⟨_, rfl⟩
  have HNL := Lib.hid hnl
  rw [← hnl] at hl ⊢
  clear hnl
  go_enter Try.func4, Try.ntmps4
  go_upto_region 1 with fail
  generalize (w.alloc (.cells #[.int .u8 n, .int .u8 t] 22)) = w0 at *
  have HW := Lib.hid (Below.refl w0.heap.size w0)
  have hz0 := HX0.out.lt
  have k0 := (HX0.out).cell 0 _ rfl
  have k1 := (HX0.out).cell 1 _ rfl
  go_wp2_with fail
  refine (b18_val2 n t _ hn ht).mono ?_
  rintro e w1 ⟨g, cap, rfl, hg0, hg1, hown, hr, hb⟩
  have HL1 : Hid ((b18 n t).cars.length ≤ 1000) := Lib.hid (by show (cars18 n t).length ≤ 1000; rw [cars18_len]; have := (k18_range n).2; omega)
  have HV := Lib.hid (valid18 n t)
  have hfl : 2 ≤ (b18 n t).fl ∧ (b18 n t).fl ≤ 6 := fl18_range n
  have HSL : Hid (∀ c ∈ (b18 n t).cars, -9223372036854775808 ≤ c.sl ∧ c.sl < 9223372036854775807) := Lib.hid (slack18 n t)
  obtain ⟨c0, hc0, hc1⟩ := b18_carM n t
  have hdl := b18_dlM n t
  have hcl : (0 : Int) < ((b18 n t).cars.length : Int) := by have := (List.getElem?_eq_some_iff.1 hc0).1; omega
  obtain ⟨dn, hdn⟩ : ∃ dn : Nat, (dn : Int) = 1 + (t : Int) % 16 := ⟨1 + t % 16, by omega⟩
  rw [← hdn] at hc1 hdl
  have hd0 : 1 ≤ dn := by omega
  have hd1 : dn ≤ 16 := by omega
  have HC0 := Lib.hid hc0; have HDL := Lib.hid hdl; have HCD := Lib.hid hc1
  clear hdn hdl hc1 hc0
  obtain ⟨hf2, hf6⟩ := hfl
  have HR1 := Lib.hid hr; have HB1 := Lib.hid (HW.out.trans (hb.mono HW.out.size))
  clear hown hr hb HW k0 k1
  generalize b18 n t = b at *
  go_upto_region 2 with fail
  have B5 := Blk.new w1 [.int .i64 b.fl, .int .i64 b.deb, .int .i64 b.room, .int .i64 b.park, .float .f64 b.em, .float .f64 b.fu, .float .f64 b.ov, .slice (some ⟨g, 0, none⟩) b.cars.length cap] 29
  have hb5 := below1' w1 (.cells #[.int .i64 b.fl, .int .i64 b.deb, .int .i64 b.room, .int .i64 b.park, .float .f64 b.em, .float .f64 b.fu, .float .f64 b.ov, .slice (some ⟨g, 0, none⟩) b.cars.length cap] 29)
  change Blk (w1.alloc (.cells #[.int .i64 b.fl, .int .i64 b.deb, .int .i64 b.room, .int .i64 b.park, .float .f64 b.em, .float .f64 b.fu, .float .f64 b.ov, .slice (some ⟨g, 0, none⟩) b.cars.length cap] 29)) _ _ at B5
  have HB3 := Lib.hid (HB1.out.trans (hb5.mono HB1.out.size))
  have HR3 := Lib.hid (HR1.out.next hb5)
  have HB5 := Lib.hid B5
  clear B5 hb5 HB1 HR1
  generalize w1.alloc (.cells #[.int .i64 b.fl, .int .i64 b.deb, .int .i64 b.room, .int .i64 b.park, .float .f64 b.em, .float .f64 b.fu, .float .f64 b.ov, .slice (some ⟨g, 0, none⟩) b.cars.length cap] 29) = w2 at *
  generalize w1.heap.size = g5 at *
  have hzz5 : g5 < w2.heap.size := HB5.out.lt
  have ht := trace_any b (some ⟨g, 0, none⟩) cap l ql capl w2 HL2.out hf2 (by omega) (HU.out.next HB3.out)
  rw [← HNL.out] at ht
  have HTR := Lib.hid ht
  clear ht
  have k0 := (HB5.out).cell 0 _ rfl
  have k1 := (HB5.out).cell 1 _ rfl
  have k2 := (HB5.out).cell 2 _ rfl
  have k3 := (HB5.out).cell 3 _ rfl
  have k4 := (HB5.out).cell 4 _ rfl
  have k5 := (HB5.out).cell 5 _ rfl
  have k6 := (HB5.out).cell 6 _ rfl
  have k7 := (HB5.out).cell 7 _ rfl
  go_wp2_with fail
  refine HTR.out.mono ?_
  rintro e w3 ⟨v, L, rfl, hL150, hobs, hown, hb3⟩
  obtain ⟨qm, capm, rfl⟩ := row_form hown
  have HM := Lib.hid (rdM_of_owns hown rfl)
  have HB4 := Lib.hid (HB3.out.trans (hb3.mono HB3.out.size))
  have HB53 := Lib.hid (HB5.out.next hb3)
  have HR4 := Lib.hid (HR3.out.next hb3)
  clear hobs hown hb3 HTR HB5 HR3 HB3 k0 k1 k2 k3 k4 k5 k6 k7 HU
  have hz53 := HB53.out.lt
  have HAL : Hid ((runB b 0 L).1 = checkV b (dn : Int) L (listC (hallC b))) := Lib.hid (by rw [← HDL.out]; exact run_fold b L HV.out (by omega))
  have HCX : Hid (∀ (W : World), Below w3.heap.size w3 W → Calls Try.prog 12 #[cvB b (some ⟨g, 0, none⟩) cap, .int .i64 0, .slice qm L.length capm] W fun e w' => e = .returned (.int .i64 (runB b 0 L).1) ∧ Below W.heap.size W w') :=
    Lib.hid fun W hW => check_any b (some ⟨g, 0, none⟩) cap 0 L qm capm W HL1.out (HR4.out.next hW) (by unfold maxLen; omega) (HM.out.next hW)
  obtain ⟨N, hN⟩ : ∃ N, N = L.length := ⟨_, rfl⟩
  have HN := Lib.hid hN
  rw [← hN] at hL150 HCX ⊢
  clear hN
  obtain ⟨A', hq2, _, q1⟩ := HR4.out.at0 HC0.out
  obtain rfl : A' = ⟨g, 0, none⟩ := by simpa using hq2.symm
  rw [HCD.out] at q1
  have q2 : w3.cell? ⟨g, 0, none⟩ = some (.int .i64 (dn : Int)) := by simpa [go_sem] using q1
  clear hq2 q1
  have k0 := (HB53.out).cell 0 _ rfl
  have k1 := (HB53.out).cell 1 _ rfl
  have k2 := (HB53.out).cell 2 _ rfl
  have k3 := (HB53.out).cell 3 _ rfl
  have k4 := (HB53.out).cell 4 _ rfl
  have k5 := (HB53.out).cell 5 _ rfl
  have k6 := (HB53.out).cell 6 _ rfl
  have k7 := (HB53.out).cell 7 _ rfl
  have HW := Lib.hid (Below.refl w3.heap.size w3)
  go_wp2_with fail
  refine (HCX.out _ HW.out).mono ?_
  rintro e w3b ⟨rfl, hb3b⟩
  have HW3 := Lib.hid hb3b
  clear hb3b HW k0 k1 k2 k3 k4 k5 k6 k7 q2 HCX
  have XB := HB53.out.next HW3.out
  have k0 := (XB).cell 0 _ rfl
  have k1 := (XB).cell 1 _ rfl
  have k2 := (XB).cell 2 _ rfl
  have k3 := (XB).cell 3 _ rfl
  have k4 := (XB).cell 4 _ rfl
  have k5 := (XB).cell 5 _ rfl
  have k6 := (XB).cell 6 _ rfl
  have k7 := (XB).cell 7 _ rfl
  clear XB
  generalize (runB b 0 L).1 = fst at *
  go_wp2_with fail
  refine (refHall_any b (some ⟨g, 0, none⟩) cap _ HL1.out HSL.out (HR4.out.next HW3.out)).mono ?_
  rintro e w4 ⟨rfl, hb4⟩
  go_wp2_with fail
  refine (refList_any (hallC b) _).mono ?_
  rintro e w5 ⟨v, rfl, hown, hb5⟩
  obtain ⟨qe, cape, rfl⟩ := row_form hown
  have HE := Lib.hid (rdE_of_owns hown rfl)
  have HW5 := Lib.hid (HW3.out.trans ((hb4.trans (hb5.mono hb4.size)).mono HW3.out.size))
  clear HW3 hb4 hb5 hown k0 k1 k2 k3 k4 k5 k6 k7
  have hne64 := listC_len (hallC b)
  generalize hall : listC (hallC b) = all at *
  clear hall
  obtain ⟨ne, hne⟩ : ∃ ne, ne = all.length := ⟨_, rfl⟩
  have HNE := Lib.hid hne
  rw [← hne] at hne64 ⊢
  clear hne
  go_wp2_with fail
  go_loopw [9, 11] (fun v9 v11 wr => ∃ i : Nat, i ≤ ne ∧ v11 = .int .i64 i ∧ v9 = .int .i64 (checkV b (dn : Int) L (all.take i)) ∧ Below w5.heap.size w5 wr) (fun _ v _ => ne - (intOf v).toNat)
  case atStart => exact ⟨0, by omega, rfl, rfl, Below.refl _ _⟩
  case round =>
    obtain ⟨i, hi, rfl, rfl, hb⟩ := hrel
    have HB := Lib.hid hb
    clear hb
    by_cases hlt : i < ne
    · have hd : decide ((i : Int) < (ne : Int)) = true := by simp; omega
      obtain ⟨p, hp⟩ : ∃ p, all[i]? = some p := ⟨_, List.getElem?_eq_getElem (by rw [← HNE.out]; exact hlt)⟩
      have HT := Lib.hid (checkV_snoc b (dn : Int) L all i p hp)
      have HP := Lib.hid hp
      have hiw : (0 : Int) ≤ (i : Int) := by omega
      have hiw' : (i : Int) < (ne : Int) := by omega
      generalize checkV b (dn : Int) L (all.take i) = W0 at *
      clear hp
      go_wp2_with fail
      go_loopw [9, 12, 13] (fun v9 v12 v13 wr => ∃ (u : Nat) (free want : Int), u ≤ N ∧ v13 = .int .i64 u ∧ v12 = .int .i64 free ∧ v9 = .int .i64 want ∧ MeanI b dn p L W0 u free want ∧ Below w5.heap.size w5 wr) (fun _ _ v _ => N - (intOf v).toNat)
      case atStart => exact ⟨0, 0, W0, by omega, rfl, rfl, rfl, mean_start b dn p L W0, HB.out⟩
      case round =>
        clear HB hd
        obtain ⟨u, free, want, hu, rfl, rfl, rfl, hmean, hb⟩ := hrel
        have HB := Lib.hid hb; have HMI := Lib.hid hmean
        clear hb hmean
        go_upto_region 12 with fail
        go_cut [53] from 41 to 53 (fun v wx => v = .bool (decide (u < N ∧ (want < 0 ∨ (u : Int) < want))) ∧ wx = wr)
        case first =>
          go_wp2_with fail
          all_goals
            go_meet
            refine ⟨?_, rfl⟩
            first
              | rw [decide_eq_true (show u < N ∧ (want < 0 ∨ (u : Int) < want) by omega)]
              | rw [decide_eq_false (show ¬ (u < N ∧ (want < 0 ∨ (u : Int) < want)) by omega)]
              | (congr 1; rw [decide_eq_decide]; omega)
              | (congr 1; rw [← Bool.decide_or, decide_eq_decide]; omega)
        case rest =>
        obtain ⟨rfl, hwc⟩ := hcut
        have hwc' := hwc.symm
        subst hwc'
        clear hwc
        by_cases hst : u < N ∧ (want < 0 ∨ (u : Int) < want)
        · rw [decide_eq_true hst]
          obtain ⟨huN, _⟩ := hst
          obtain ⟨m, hm⟩ : ∃ m, L[u]? = some m := ⟨_, List.getElem?_eq_getElem (by rw [← HN.out]; exact huN)⟩
          have HMM := Lib.hid hm
          obtain ⟨A, hqA, _, d0, d1, d2, d3, d4⟩ := (HM.out.next (HW5.out.trans (HB.out.mono HW5.out.size))).reg hm
          subst hqA
          obtain ⟨Ae, hqe, _, r0, r1⟩ := (HE.out.next HB.out).reg HP.out
          subst hqe
          have hu0 : (0 : Int) ≤ (u : Int) := by omega
          have hu1 : (u : Int) < (N : Int) := by omega
          clear hm
          by_cases hf : (u : Int) < free
          · have hfT : ((u : Int) < free) = True := eq_true hf
            have HSK := Lib.hid (mean_skip b dn p L W0 u free want m HMI.out HMM.out (Or.inl hf))
            clear hf
            go_upto_region 14 with fail
            (refine Grow.wp_region Grow.noPlan Grow.noPlan_stable (by kernel_rfl) (by kernel_rfl) ?_; intro opsq Hopsq)
            repeat (first | (refine Grow.lex_move rfl ?_ rfl ?_; (· first | exact Grow.wanted_none | (rw [Hopsq.out]; rfl)); intro K hK; simp only [Grow.put_lit, Grow.setAt, Grow.eval_lit, Grow.ev]; refine hK _ _ ?_; clear hK K) | (refine Grow.lex_assign rfl ?_ rfl ?_; (· first | exact Grow.wanted_none | (rw [Hopsq.out]; rfl)); intro K hK; simp only [Grow.put_lit, Grow.setAt, Grow.eval_lit, Grow.ev]; refine hK _ _ ?_; clear hK K) | (refine Grow.lex_plain rfl rfl ?_ rfl ?_; (· first | exact Grow.wanted_none | (rw [Hopsq.out]; rfl)); apply Exists.intro; refine ⟨fun wq hCq _ => ?_, ?_⟩; (· (go_wp2_with fail; refine ⟨rfl, Below.refl _ _, ?_⟩; simp only [Grow.getD_lit, Grow.nth]; rfl)); intro K hK; simp only [Grow.put_lit, Grow.setAt]; refine hK _ _ ?_; clear hK K) | (refine Grow.lex_nilCheck rfl rfl ?_ rfl ?_; (· first | exact Grow.wanted_none | (rw [Hopsq.out]; rfl)); intro K hK; simp only [Grow.put_lit, Grow.setAt]; refine hK _ _ ?_; clear hK K) | (refine Grow.lex_skip ?_ ?_; (· (rw [Hopsq.out]; rfl)); intro K hK; simp only [Grow.put_lit, Grow.setAt]; refine hK _ _ ?_; clear hK K))
            (refine Grow.lex_nil ?_; intro wz hbz _; replace hbz := Grow.Cl.base hbz; clear Hopsq opsq)
            have HBz := Lib.hid (HB.out.trans (hbz.mono HB.out.size))
            clear hbz d0 d1 d2 d3 d4 r0 r1
            go_wp2_with fail
            exact ⟨⟨u + 1, free, want, by omega, by go_num, rfl, rfl, HSK.out, HBz.out⟩, by simp [intOf]; omega⟩
          · have hfT : ((u : Int) < free) = False := eq_false hf
            have HNF := Lib.hid hf
            clear hf
            cases hh : has m.1 p.1 p.2
            · have HSK := Lib.hid (mean_skip b dn p L W0 u free want m HMI.out HMM.out (Or.inr hh))
              have HHH := Lib.hid hh
              clear hh
              have HHA := Lib.hid fun W => calls_bool (refHas_any m.1 p.1 p.2 W) HHH.out
              clear HHH HNF
              go_upto_region 14 with fail
              (refine Grow.wp_region Grow.noPlan Grow.noPlan_stable (by kernel_rfl) (by kernel_rfl) ?_; intro opsq Hopsq)
              repeat (first | (refine Grow.lex_move rfl ?_ rfl ?_; (· first | exact Grow.wanted_none | (rw [Hopsq.out]; rfl)); intro K hK; simp only [Grow.put_lit, Grow.setAt, Grow.eval_lit, Grow.ev]; refine hK _ _ ?_; clear hK K) | (refine Grow.lex_assign rfl ?_ rfl ?_; (· first | exact Grow.wanted_none | (rw [Hopsq.out]; rfl)); intro K hK; simp only [Grow.put_lit, Grow.setAt, Grow.eval_lit, Grow.ev]; refine hK _ _ ?_; clear hK K) | (refine Grow.lex_plain rfl rfl ?_ rfl ?_; (· first | exact Grow.wanted_none | (rw [Hopsq.out]; rfl)); apply Exists.intro; refine ⟨fun wq hCq _ => ?_, ?_⟩; (· (go_wp2_with fail; refine ⟨rfl, Below.refl _ _, ?_⟩; simp only [Grow.getD_lit, Grow.nth]; rfl)); intro K hK; simp only [Grow.put_lit, Grow.setAt]; refine hK _ _ ?_; clear hK K) | (refine Grow.lex_nilCheck rfl rfl ?_ rfl ?_; (· first | exact Grow.wanted_none | (rw [Hopsq.out]; rfl)); intro K hK; simp only [Grow.put_lit, Grow.setAt]; refine hK _ _ ?_; clear hK K) | (refine Grow.lex_skip ?_ ?_; (· (rw [Hopsq.out]; rfl)); intro K hK; simp only [Grow.put_lit, Grow.setAt]; refine hK _ _ ?_; clear hK K))
              (refine Grow.lex_call ?_ rfl ?_; (· first | exact Grow.wanted_none | (rw [Hopsq.out]; rfl)); apply Exists.intro; apply Exists.intro; refine ⟨fun wq => ?_, ?_⟩; (· (go_simp; exact ⟨rfl, rfl⟩)); apply Exists.intro; refine ⟨fun wq hCq hKq => ?_, ?_⟩; (· exact HHA.out _); intro K hK; simp only [Grow.put_lit, Grow.setAt]; refine hK _ _ ?_; clear hK K)
              repeat (first | (refine Grow.lex_move rfl ?_ rfl ?_; (· first | exact Grow.wanted_none | (rw [Hopsq.out]; rfl)); intro K hK; simp only [Grow.put_lit, Grow.setAt, Grow.eval_lit, Grow.ev]; refine hK _ _ ?_; clear hK K) | (refine Grow.lex_assign rfl ?_ rfl ?_; (· first | exact Grow.wanted_none | (rw [Hopsq.out]; rfl)); intro K hK; simp only [Grow.put_lit, Grow.setAt, Grow.eval_lit, Grow.ev]; refine hK _ _ ?_; clear hK K) | (refine Grow.lex_plain rfl rfl ?_ rfl ?_; (· first | exact Grow.wanted_none | (rw [Hopsq.out]; rfl)); apply Exists.intro; refine ⟨fun wq hCq _ => ?_, ?_⟩; (· (go_wp2_with fail; refine ⟨rfl, Below.refl _ _, ?_⟩; simp only [Grow.getD_lit, Grow.nth]; rfl)); intro K hK; simp only [Grow.put_lit, Grow.setAt]; refine hK _ _ ?_; clear hK K) | (refine Grow.lex_nilCheck rfl rfl ?_ rfl ?_; (· first | exact Grow.wanted_none | (rw [Hopsq.out]; rfl)); intro K hK; simp only [Grow.put_lit, Grow.setAt]; refine hK _ _ ?_; clear hK K) | (refine Grow.lex_skip ?_ ?_; (· (rw [Hopsq.out]; rfl)); intro K hK; simp only [Grow.put_lit, Grow.setAt]; refine hK _ _ ?_; clear hK K))
              (refine Grow.lex_nil ?_; intro wz hbz _; replace hbz := Grow.Cl.base hbz; clear Hopsq opsq)
              have HBz := Lib.hid (HB.out.trans (hbz.mono HB.out.size))
              clear hbz d0 d1 d2 d3 d4 r0 r1 hfT
              go_wp2_with fail
              exact ⟨⟨u + 1, free, want, by omega, by go_num, rfl, rfl, HSK.out, HBz.out⟩, by simp [intOf]; omega⟩
            · have HHH := Lib.hid hh
              clear hh
              have HHA := Lib.hid fun W => calls_bool (refHas_any m.1 p.1 p.2 W) HHH.out
              obtain ⟨K, hK, hK2, hK3⟩ : ∃ K : Nat, K ≤ dn ∧ u + K < N ∧ (K = dn ∨ u + K + 1 = N) := by
                by_cases h : u + dn < N
                · exact ⟨dn, Nat.le_refl _, h, Or.inl rfl⟩
                · exact ⟨N - 1 - u, by omega, by omega, Or.inr (by omega)⟩
              have HDU := Lib.hid (mean_duty b dn p L W0 u free want m HMI.out HMM.out HNF.out HHH.out K hK (by rw [← HN.out]; exact hK2) (by rw [← HN.out]; exact hK3))
              rw [← HN.out] at HDU
              clear HHH HNF
              go_upto_region 14 with fail
              (refine Grow.wp_region Grow.noPlan Grow.noPlan_stable (by kernel_rfl) (by kernel_rfl) ?_; intro opsq Hopsq)
              repeat (first | (refine Grow.lex_move rfl ?_ rfl ?_; (· first | exact Grow.wanted_none | (rw [Hopsq.out]; rfl)); intro K hK; simp only [Grow.put_lit, Grow.setAt, Grow.eval_lit, Grow.ev]; refine hK _ _ ?_; clear hK K) | (refine Grow.lex_assign rfl ?_ rfl ?_; (· first | exact Grow.wanted_none | (rw [Hopsq.out]; rfl)); intro K hK; simp only [Grow.put_lit, Grow.setAt, Grow.eval_lit, Grow.ev]; refine hK _ _ ?_; clear hK K) | (refine Grow.lex_plain rfl rfl ?_ rfl ?_; (· first | exact Grow.wanted_none | (rw [Hopsq.out]; rfl)); apply Exists.intro; refine ⟨fun wq hCq _ => ?_, ?_⟩; (· (go_wp2_with fail; refine ⟨rfl, Below.refl _ _, ?_⟩; simp only [Grow.getD_lit, Grow.nth]; rfl)); intro K hK; simp only [Grow.put_lit, Grow.setAt]; refine hK _ _ ?_; clear hK K) | (refine Grow.lex_nilCheck rfl rfl ?_ rfl ?_; (· first | exact Grow.wanted_none | (rw [Hopsq.out]; rfl)); intro K hK; simp only [Grow.put_lit, Grow.setAt]; refine hK _ _ ?_; clear hK K) | (refine Grow.lex_skip ?_ ?_; (· (rw [Hopsq.out]; rfl)); intro K hK; simp only [Grow.put_lit, Grow.setAt]; refine hK _ _ ?_; clear hK K))
              (refine Grow.lex_call ?_ rfl ?_; (· first | exact Grow.wanted_none | (rw [Hopsq.out]; rfl)); apply Exists.intro; apply Exists.intro; refine ⟨fun wq => ?_, ?_⟩; (· (go_simp; exact ⟨rfl, rfl⟩)); apply Exists.intro; refine ⟨fun wq hCq hKq => ?_, ?_⟩; (· exact HHA.out _); intro K hK; simp only [Grow.put_lit, Grow.setAt]; refine hK _ _ ?_; clear hK K)
              repeat (first | (refine Grow.lex_move rfl ?_ rfl ?_; (· first | exact Grow.wanted_none | (rw [Hopsq.out]; rfl)); intro K hK; simp only [Grow.put_lit, Grow.setAt, Grow.eval_lit, Grow.ev]; refine hK _ _ ?_; clear hK K) | (refine Grow.lex_assign rfl ?_ rfl ?_; (· first | exact Grow.wanted_none | (rw [Hopsq.out]; rfl)); intro K hK; simp only [Grow.put_lit, Grow.setAt, Grow.eval_lit, Grow.ev]; refine hK _ _ ?_; clear hK K) | (refine Grow.lex_plain rfl rfl ?_ rfl ?_; (· first | exact Grow.wanted_none | (rw [Hopsq.out]; rfl)); apply Exists.intro; refine ⟨fun wq hCq _ => ?_, ?_⟩; (· (go_wp2_with fail; refine ⟨rfl, Below.refl _ _, ?_⟩; simp only [Grow.getD_lit, Grow.nth]; rfl)); intro K hK; simp only [Grow.put_lit, Grow.setAt]; refine hK _ _ ?_; clear hK K) | (refine Grow.lex_nilCheck rfl rfl ?_ rfl ?_; (· first | exact Grow.wanted_none | (rw [Hopsq.out]; rfl)); intro K hK; simp only [Grow.put_lit, Grow.setAt]; refine hK _ _ ?_; clear hK K) | (refine Grow.lex_skip ?_ ?_; (· (rw [Hopsq.out]; rfl)); intro K hK; simp only [Grow.put_lit, Grow.setAt]; refine hK _ _ ?_; clear hK K))
              (refine Grow.lex_nil ?_; intro wz hbz _; replace hbz := Grow.Cl.base hbz; clear Hopsq opsq)
              have HBz := Lib.hid (HB.out.trans (hbz.mono HB.out.size))
              clear hbz d0 d1 d2 d3 d4 r0 r1 hfT
              go_wp2_with fail
              go_loopw [14, 15] (fun v14 v15 wr => ∃ j : Nat, j ≤ K ∧ v15 = .int .i64 ((u + 1 + j : Nat) : Int) ∧ v14 = .int .i64 (scanV b p L u j) ∧ Below w5.heap.size w5 wr) (fun _ v _ => u + 1 + K - (intOf v).toNat)
              case atStart => exact ⟨0, by omega, by go_num, rfl, HBz.out⟩
              case round =>
                clear HBz
                obtain ⟨j, hj, rfl, rfl, hb⟩ := hrel
                have HB := Lib.hid hb
                clear hb
                have hsp := scan_spec b p L u j
                have hsr : scanV b p L u j = -1 ∨ 0 ≤ scanV b p L u j := by
                  rcases hsp with ⟨h, _⟩ | ⟨s, h, _⟩
                  · exact Or.inl h
                  · exact Or.inr (by omega)
                have HST := Lib.hid (fun h n => scan_stay b p L u j h n)
                have HSJ : Hid (scanV b p L u (j + 1) = if 0 ≤ scanV b p L u j then scanV b p L u j else if hitB b p L (u + j + 1) then ((u + j + 1 : Nat) : Int) else -1) := Lib.hid rfl
                clear hsp
                generalize hsv : scanV b p L u j = S at *
                have HSV := Lib.hid hsv
                clear hsv
                go_upto_region 17 with fail
                go_cut [94] from 80 to 94 (fun v wx => v = .bool (decide (j < K ∧ S < 0)) ∧ wx = wr)
                case first =>
                  go_wp2_with fail
                  all_goals
                    go_meet
                    refine ⟨?_, rfl⟩
                    first
                      | rw [decide_eq_true (show j < K ∧ S < 0 by omega)]
                      | rw [decide_eq_false (show ¬ (j < K ∧ S < 0) by omega)]
                      | (congr 1; rw [decide_eq_decide]; omega)
                case rest =>
                obtain ⟨rfl, hwc⟩ := hcut
                have hwc' := hwc.symm
                subst hwc'
                clear hwc
                by_cases hjk : j < K ∧ S < 0
                · rw [decide_eq_true hjk]
                  obtain ⟨hjk1, hjk2⟩ := hjk
                  obtain rfl : S = -1 := by omega
                  obtain ⟨m2, hm2⟩ : ∃ m2, L[u + 1 + j]? = some m2 := ⟨_, List.getElem?_eq_getElem (by rw [← HN.out]; omega)⟩
                  obtain ⟨A3, hqA3, _, d0, d1, d2, d3, d4⟩ := (HM.out.next (HW5.out.trans (HB.out.mono HW5.out.size))).reg hm2
                  obtain rfl : A = A3 := by simpa using hqA3
                  obtain ⟨Ae2, hqe2, _, r0, r1⟩ := (HE.out.next HB.out).reg HP.out
                  obtain rfl : Ae = Ae2 := by simpa using hqe2
                  have hht := hit_some b p L (u + 1 + j) m2 hm2
                  rw [show u + 1 + j = u + j + 1 by omega] at hht
                  have HHT := Lib.hid hht
                  have hv0 : (0 : Int) ≤ ((u + 1 + j : Nat) : Int) := by omega
                  have hv1 : ((u + 1 + j : Nat) : Int) < (N : Int) := by omega
                  have hz5 := (HB53.out.next (HW5.out.trans (HB.out.mono HW5.out.size)))
                  have HX5 := Lib.hid hz5
                  clear hm2 hht hqA3 hqe2 hsr hz5 hjk2
                  obtain ⟨vv, hvv⟩ : ∃ vv : Nat, vv = u + 1 + j := ⟨_, rfl⟩
                  rw [← hvv] at d0 d1 d2 d3 d4 hv0 hv1 ⊢
                  have HVV := Lib.hid hvv
                  clear hvv
                  go_upto_region 19 with fail
                  have t0 := (HX5.out).reg 0 _ rfl
                  have t1 := (HX5.out).reg 1 _ rfl
                  have t2 := (HX5.out).reg 2 _ rfl
                  have t3 := (HX5.out).reg 3 _ rfl
                  have t4 := (HX5.out).reg 4 _ rfl
                  have t5 := (HX5.out).reg 5 _ rfl
                  have t6 := (HX5.out).reg 6 _ rfl
                  have t7 := (HX5.out).reg 7 _ rfl
                  (refine Grow.wp_region Grow.noPlan Grow.noPlan_stable (by kernel_rfl) (by kernel_rfl) ?_; intro opsq Hopsq)
                  repeat (first | (refine Grow.lex_move rfl ?_ rfl ?_; (· first | exact Grow.wanted_none | (rw [Hopsq.out]; rfl)); intro K hK; simp only [Grow.put_lit, Grow.setAt, Grow.eval_lit, Grow.ev]; refine hK _ _ ?_; clear hK K) | (refine Grow.lex_assign rfl ?_ rfl ?_; (· first | exact Grow.wanted_none | (rw [Hopsq.out]; rfl)); intro K hK; simp only [Grow.put_lit, Grow.setAt, Grow.eval_lit, Grow.ev]; refine hK _ _ ?_; clear hK K) | (refine Grow.lex_plain rfl rfl ?_ rfl ?_; (· first | exact Grow.wanted_none | (rw [Hopsq.out]; rfl)); apply Exists.intro; refine ⟨fun wq hCq _ => ?_, ?_⟩; (· (go_wp2_with fail; refine ⟨rfl, Below.refl _ _, ?_⟩; simp only [Grow.getD_lit, Grow.nth]; rfl)); intro K hK; simp only [Grow.put_lit, Grow.setAt]; refine hK _ _ ?_; clear hK K) | (refine Grow.lex_nilCheck rfl rfl ?_ rfl ?_; (· first | exact Grow.wanted_none | (rw [Hopsq.out]; rfl)); intro K hK; simp only [Grow.put_lit, Grow.setAt]; refine hK _ _ ?_; clear hK K) | (refine Grow.lex_skip ?_ ?_; (· (rw [Hopsq.out]; rfl)); intro K hK; simp only [Grow.put_lit, Grow.setAt]; refine hK _ _ ?_; clear hK K))
                  (refine Grow.lex_call ?_ rfl ?_; (· first | exact Grow.wanted_none | (rw [Hopsq.out]; rfl)); apply Exists.intro; apply Exists.intro; refine ⟨fun wq => ?_, ?_⟩; (· (go_simp; exact ⟨rfl, rfl⟩)); apply Exists.intro; refine ⟨fun wq hCq hKq => ?_, ?_⟩; (· exact refShows_any b.fl m2.2 _); intro K hK; simp only [Grow.put_lit, Grow.setAt]; refine hK _ _ ?_; clear hK K)
                  repeat (first | (refine Grow.lex_move rfl ?_ rfl ?_; (· first | exact Grow.wanted_none | (rw [Hopsq.out]; rfl)); intro K hK; simp only [Grow.put_lit, Grow.setAt, Grow.eval_lit, Grow.ev]; refine hK _ _ ?_; clear hK K) | (refine Grow.lex_assign rfl ?_ rfl ?_; (· first | exact Grow.wanted_none | (rw [Hopsq.out]; rfl)); intro K hK; simp only [Grow.put_lit, Grow.setAt, Grow.eval_lit, Grow.ev]; refine hK _ _ ?_; clear hK K) | (refine Grow.lex_plain rfl rfl ?_ rfl ?_; (· first | exact Grow.wanted_none | (rw [Hopsq.out]; rfl)); apply Exists.intro; refine ⟨fun wq hCq _ => ?_, ?_⟩; (· (go_wp2_with fail; refine ⟨rfl, Below.refl _ _, ?_⟩; simp only [Grow.getD_lit, Grow.nth]; rfl)); intro K hK; simp only [Grow.put_lit, Grow.setAt]; refine hK _ _ ?_; clear hK K) | (refine Grow.lex_nilCheck rfl rfl ?_ rfl ?_; (· first | exact Grow.wanted_none | (rw [Hopsq.out]; rfl)); intro K hK; simp only [Grow.put_lit, Grow.setAt]; refine hK _ _ ?_; clear hK K) | (refine Grow.lex_skip ?_ ?_; (· (rw [Hopsq.out]; rfl)); intro K hK; simp only [Grow.put_lit, Grow.setAt]; refine hK _ _ ?_; clear hK K))
                  (refine Grow.lex_call ?_ rfl ?_; (· first | exact Grow.wanted_none | (rw [Hopsq.out]; rfl)); apply Exists.intro; apply Exists.intro; refine ⟨fun wq => ?_, ?_⟩; (· (go_simp; exact ⟨rfl, rfl⟩)); apply Exists.intro; refine ⟨fun wq hCq hKq => ?_, ?_⟩; (· exact refHas_any (showsV b.fl m2.2) p.1 p.2 _); intro K hK; simp only [Grow.put_lit, Grow.setAt]; refine hK _ _ ?_; clear hK K)
                  repeat (first | (refine Grow.lex_move rfl ?_ rfl ?_; (· first | exact Grow.wanted_none | (rw [Hopsq.out]; rfl)); intro K hK; simp only [Grow.put_lit, Grow.setAt, Grow.eval_lit, Grow.ev]; refine hK _ _ ?_; clear hK K) | (refine Grow.lex_assign rfl ?_ rfl ?_; (· first | exact Grow.wanted_none | (rw [Hopsq.out]; rfl)); intro K hK; simp only [Grow.put_lit, Grow.setAt, Grow.eval_lit, Grow.ev]; refine hK _ _ ?_; clear hK K) | (refine Grow.lex_plain rfl rfl ?_ rfl ?_; (· first | exact Grow.wanted_none | (rw [Hopsq.out]; rfl)); apply Exists.intro; refine ⟨fun wq hCq _ => ?_, ?_⟩; (· (go_wp2_with fail; refine ⟨rfl, Below.refl _ _, ?_⟩; simp only [Grow.getD_lit, Grow.nth]; rfl)); intro K hK; simp only [Grow.put_lit, Grow.setAt]; refine hK _ _ ?_; clear hK K) | (refine Grow.lex_nilCheck rfl rfl ?_ rfl ?_; (· first | exact Grow.wanted_none | (rw [Hopsq.out]; rfl)); intro K hK; simp only [Grow.put_lit, Grow.setAt]; refine hK _ _ ?_; clear hK K) | (refine Grow.lex_skip ?_ ?_; (· (rw [Hopsq.out]; rfl)); intro K hK; simp only [Grow.put_lit, Grow.setAt]; refine hK _ _ ?_; clear hK K))
                  (refine Grow.lex_nil ?_; intro wy hby _; replace hby := Grow.Cl.base hby; clear Hopsq opsq)
                  have HBy := Lib.hid (HB.out.trans (hby.mono HB.out.size))
                  clear hby t0 t1 t2 t3 t4 t5 t6 t7 d0 d1 d2 d3 d4 r0 r1
                  cases hh : has (showsV b.fl m2.2) p.1 p.2
                  · have HS1 : Hid (scanV b p L u (j + 1) = -1) := Lib.hid (by rw [HSJ.out, if_neg (by omega), HHT.out, hh]; rfl)
                    go_wp2_with fail
                    exact ⟨⟨j + 1, by omega, by rw [HVV.out]; go_num, by rw [HS1.out], HBy.out⟩, by have := HVV.out; simp [intOf]; omega⟩
                  · have HS1 : Hid (scanV b p L u (j + 1) = ((u + j + 1 : Nat) : Int)) := Lib.hid (by rw [HSJ.out, if_neg (by omega), HHT.out, hh]; rfl)
                    go_wp2_with fail
                    exact ⟨⟨j + 1, by omega, by rw [HVV.out]; go_num, by rw [HS1.out, HVV.out]; go_num, HBy.out⟩, by have := HVV.out; simp [intOf]; omega⟩
                · rw [decide_eq_false hjk]
                  have HSK : Hid (scanV b p L u K = S) := Lib.hid (by
                    by_cases h0 : 0 ≤ S
                    · have := HST.out h0 (K - j)
                      rwa [show j + (K - j) = K by omega] at this
                    · obtain rfl : j = K := by omega
                      exact HSV.out)
                  rw [HSK.out] at HDU
                  have hS : S = -1 ∨ 0 ≤ S := hsr
                  clear hjk hsr
                  go_wp2_with fail
                  all_goals
                    refine ⟨⟨u + 1, _, _, by omega, by go_num, rfl, rfl, ?_, HB.out⟩, by simp [intOf]; omega⟩
                    have h := HDU.out
                    first
                      | (rw [if_pos (by omega), if_pos (by omega)] at h; exact h)
                      | (rw [if_pos (by omega), if_pos (by omega)] at h; push_cast at h; exact h)
                      | (rw [if_pos (by omega), if_neg (by omega)] at h; exact h)
                      | (rw [if_neg (by omega), if_neg (by omega)] at h; exact h)
        · rw [decide_eq_false hst]
          have HEND := Lib.hid (mean_end b dn p L W0 u free want HMI.out (by rw [← HN.out]; exact hu) (by rw [← HN.out]; exact hst))
          clear hst
          go_wp2_with fail
          exact ⟨⟨i + 1, by omega, by go_num, by rw [HT.out, ← HEND.out], HB.out⟩, by simp [intOf]; omega⟩
    · obtain rfl : i = ne := by omega
      have hd : decide ((i : Int) < (i : Int)) = false := by simp
      have ht : all.take i = all := by rw [HNE.out, List.take_length]
      rw [ht, ← HAL.out]
      clear ht
      go_wp2_with fail
      refine (sane18_any _).mono ?_
      rintro e z1 ⟨rfl, hb1⟩
      have HW9 := Lib.hid (HW5.out.trans (HB.out.mono HW5.out.size))
      go_wp2_with fail
      go_ret
      exact ⟨rfl, HWW.out.trans ((HB4.out.trans ((HW9.out.trans (hb1.mono HW9.out.size)).mono HB4.out.size)).mono HWW.out.size)⟩
set_option maxHeartbeats 1000000 in
set_option maxRecDepth 100000 in
theorem contractMeans_lifted (os : Os) (started : os.Started) (H : Type) (enc : TypeId × Value → H) :
    ReturnsInHanded {} Try.checked os 4 .any (Rows.contractMeansSpec.pre6 enc Try.prog Try.f4 Rows.contractMeansRow.domain false) (Rows.contractMeansSpec.post enc Try.prog Try.f4 false true false false) := by
  refine law_lifted (C := Try.checked) own laidOut started (by kernel_rfl) Try.func4 4 rfl Try.underlying4 (by kernel_rfl) rfl H enc
    (fun ds h => by match ds, h with | [d0, d1], _ => rfl)
    (ChangeSpec.witness6 (enc := enc) (C := Try.checked) false ⟨#[], #[.agg #[.int .u8 0, .int .u8 0], .slice none 0 0], []⟩ 8 (by kernel_rfl) (by kernel_rfl) (by kernel_rfl) (by kernel_rfl)) ?_
  intro W base args ds ps hval hA hsz
  have hA' : DataW.TrodAll enc Try.prog W 0 (fun _ => true) true Try.f4.params.toList args.toList ds ps := hA
  have hval' : ∀ (j : Nat) t v, Try.f4.params[j]? = some t → args[j]? = some v → Value.okWide Try.prog W .any base t v := hval
  rw [Try.params4] at hA' hval'
  obtain ⟨v0, vs0, d0, ds0, p0, q0, hargs, rfl, rfl, h0, r0⟩ := trodAll_cons hA'
  obtain ⟨v1, vs1, d1, ds1, p1, q1, rfl, rfl, rfl, h1, r1⟩ := trodAll_cons r0
  obtain ⟨rfl, rfl, rfl⟩ := trodAll_nil r1
  obtain rfl : args = #[v0, v1] := by cases args; simp_all
  obtain ⟨n0, t0, rfl, hn0, ht0⟩ := open_u8x2 (hval' 0 22 v0 rfl rfl) h0
  obtain ⟨l1, q1x, cap1, rfl, hl1, hu1⟩ := open_u8s (hval' 1 23 v1 rfl rfl) h1
  exact means_walk n0 t0 l1 q1x cap1 W hn0 ht0 hl1 hu1

theorem contractMeans_over : Rows.contractMeansRow.holds Try.pinned (OpenSpec.ofChange Rows.contractMeansSpec) :=
  OpenClaim.holds_of_wide 4 Try.f4 rfl rfl rfl rfl rfl rfl rfl ⟨rfl, rfl, rfl, rfl, rfl⟩ rfl rfl rfl rfl rfl (by kernel_rfl) Try.func4 (by kernel_rfl)
    (of_decide_eq_true (by kernel_rfl)) (by unfold Func.isWrapper; first | (rw [if_pos (by decide +kernel)]; kernel_rfl) | (rw [if_neg (by decide +kernel)]; exact ⟨rfl, rfl⟩))
    (fun os started H enc _ => contractMeans_lifted os started H enc)

/-- THE STATEMENT. -/
theorem contractMeans_holds : Rows.ContractMeansSaid := contractMeans_over
#print axioms contractMeans_holds
end Go.Proofs.Ytfmmiafdlfdfoaa
