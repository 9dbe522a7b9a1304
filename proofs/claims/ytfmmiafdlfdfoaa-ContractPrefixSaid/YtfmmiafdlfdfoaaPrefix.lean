/- ContractPrefix: whether a contract is broken up to a tick does not depend on what comes later. The law's function answers true at every argument. Conditions: none. -/
import Derived.Test.YtfmmiafdlfdfoaaLimits
namespace Go.Proofs.Ytfmmiafdlfdfoaa
open Go.ChangeShapes Go.WideShapes Go.ChangeAt Go.RowKit
attribute [local go_sem] run_store_float
attribute [local go_sem ↓] run_eql_cs run_neq_cs
theorem row_cmaxM {w : World} {base cap n : Nat} {q : Option Addr} {e : TypeId} {size : Nat} {xs : List Value} (h : w.ownsRow base e size (.slice q n cap) n xs) : n ≤ cap ∧ cap ≤ maxLen := by
  rcases h.2 with ⟨hv, _⟩ | ⟨g, cap', cur, hv, _, _, hle, hm, _⟩
  · simp at hv; unfold maxLen; omega
  · simp at hv
    obtain ⟨_, rfl⟩ := hv
    exact ⟨hle, hm⟩
set_option maxHeartbeats 4000000 in
set_option maxRecDepth 100000 in
theorem prefix_walk (n t : Nat) (l : List Nat) (ql : Option Addr) (capl : Nat) (at_ : Nat) (w : World) (hn : n < 256) (ht : t < 256) (hl : l.length ≤ maxLen) (hu : RdU w ql l) (ha : at_ < 256) :
    Calls Try.prog 5 #[.agg #[.int .u8 n, .int .u8 t], .slice ql l.length capl, .int .u8 at_] w fun e w' => e = .returned (.bool true) ∧ Below w.heap.size w w' := by
  have X0 : Blk (w.alloc (.cells #[.int .u8 n, .int .u8 t] 22)) w.heap.size [.int .u8 n, .int .u8 t] := by
    have hx := Blk.new w [.int .u8 n, .int .u8 t] 22
    exact hx
  have XW : Below w.heap.size w (w.alloc (.cells #[.int .u8 n, .int .u8 t] 22)) := below1' w _
  have HWW := Lib.hid XW; have HX0 := Lib.hid X0
  clear XW X0
  have HU := Lib.hid (hu.next HWW.out)
  have HL2 := Lib.hid hl
  clear hu
  obtain ⟨nl, hnl⟩ : ∃ n, n = l.length := ⟨_, rfl⟩
  have HNL := Lib.hid hnl
  rw [← hnl] at hl ⊢
  clear hnl
  go_enter Try.func5, Try.ntmps5
  go_upto_region 1 with fail
  generalize (w.alloc (.cells #[.int .u8 n, .int .u8 t] 22)) = w0 at *
  have HW := Lib.hid (Below.refl w0.heap.size w0)
  have hz0 := HX0.out.lt
  have k0 := (HX0.out).cell 0 _ rfl
  have k1 := (HX0.out).cell 1 _ rfl
  go_wp2_with fail
  refine (b18_val2 n t _ hn ht).mono ?_
  rintro e w1 ⟨g, cap, rfl, hg0, hg1, hown, hr, hb⟩
  have HL1 : Hid ((b18 n t).cars.length ≤ 1000) := Lib.hid (by show (cars18 n t).length ≤ 1000; rw [cars18_len]; have := (k18_range n).2; omega)
  have HV := Lib.hid (valid18 n t)
  have hfl : 2 ≤ (b18 n t).fl ∧ (b18 n t).fl ≤ 6 := fl18_range n
  obtain ⟨c0, hc0, hc1⟩ := b18_car0 n t
  have hdl := b18_dl n t
  have hcl : (0 : Int) < ((b18 n t).cars.length : Int) := by have := (List.getElem?_eq_some_iff.1 hc0).1; omega
  obtain ⟨dl, hd⟩ : ∃ dl : Int, dl = 1 + (t : Int) % 16 := ⟨_, rfl⟩
  rw [← hd] at hc1 hdl
  have hd0 : 1 ≤ dl := by omega
  have hd1 : dl ≤ 16 := by omega
  have HC0 := Lib.hid hc0; have HDL := Lib.hid hdl; have HCD := Lib.hid hc1
  obtain ⟨hf2, hf6⟩ := hfl
  have HR1 := Lib.hid hr; have HB1 := Lib.hid (HW.out.trans (hb.mono HW.out.size))
  clear hown hr hb HW k0 k1 hd hdl hc1 hc0
  generalize b18 n t = b at *
  go_upto_region 2 with fail
  have B5 := Blk.new w1 [.int .i64 b.fl, .int .i64 b.deb, .int .i64 b.room, .int .i64 b.park, .float .f64 b.em, .float .f64 b.fu, .float .f64 b.ov, .slice (some ⟨g, 0, none⟩) b.cars.length cap] 29
  have hb5 := below1' w1 (.cells #[.int .i64 b.fl, .int .i64 b.deb, .int .i64 b.room, .int .i64 b.park, .float .f64 b.em, .float .f64 b.fu, .float .f64 b.ov, .slice (some ⟨g, 0, none⟩) b.cars.length cap] 29)
  change Blk (w1.alloc (.cells #[.int .i64 b.fl, .int .i64 b.deb, .int .i64 b.room, .int .i64 b.park, .float .f64 b.em, .float .f64 b.fu, .float .f64 b.ov, .slice (some ⟨g, 0, none⟩) b.cars.length cap] 29)) _ _ at B5
  have HB3 := Lib.hid (HB1.out.trans (hb5.mono HB1.out.size))
  have HR3 := Lib.hid (HR1.out.next hb5)
  have HB5 := Lib.hid B5
  clear B5 hb5 HB1 HR1
  generalize w1.alloc (.cells #[.int .i64 b.fl, .int .i64 b.deb, .int .i64 b.room, .int .i64 b.park, .float .f64 b.em, .float .f64 b.fu, .float .f64 b.ov, .slice (some ⟨g, 0, none⟩) b.cars.length cap] 29) = w2 at *
  generalize w1.heap.size = g5 at *
  have hzz5 : g5 < w2.heap.size := HB5.out.lt
  have ht := trace_any b (some ⟨g, 0, none⟩) cap l ql capl w2 HL2.out hf2 (by omega) (HU.out.next HB3.out)
  rw [← HNL.out] at ht
  have HTR := Lib.hid ht
  clear ht
  have k0 := (HB5.out).cell 0 _ rfl
  have k1 := (HB5.out).cell 1 _ rfl
  have k2 := (HB5.out).cell 2 _ rfl
  have k3 := (HB5.out).cell 3 _ rfl
  have k4 := (HB5.out).cell 4 _ rfl
  have k5 := (HB5.out).cell 5 _ rfl
  have k6 := (HB5.out).cell 6 _ rfl
  have k7 := (HB5.out).cell 7 _ rfl
  go_wp2_with fail
  refine HTR.out.mono ?_
  rintro e w3 ⟨v, L, rfl, hL150, hobs, hown, hb3⟩
  obtain ⟨qm, capm, rfl⟩ := row_form hown
  have HCAP := Lib.hid (row_cmaxM hown)
  have HM := Lib.hid (rdM_of_owns hown rfl)
  have HB4 := Lib.hid (HB3.out.trans (hb3.mono HB3.out.size))
  have HB53 := Lib.hid (HB5.out.next hb3)
  have HR4 := Lib.hid (HR3.out.next hb3)
  clear hobs hown hb3 HTR HB5 HR3 HB3 k0 k1 k2 k3 k4 k5 k6 k7 HU
  obtain ⟨N, hN⟩ : ∃ N, N = L.length := ⟨_, rfl⟩
  have HN := Lib.hid hN
  rw [← hN] at hL150 HCAP ⊢
  have hz53 := HB53.out.lt
  obtain ⟨k, hk⟩ : ∃ k : Nat, (k : Int) = (at_ : Int) % ((N : Int) + 1) := ⟨at_ % (N + 1), by simp⟩
  have hkN : k ≤ N := by
    have h1 := Int.emod_lt_of_pos (at_ : Int) (show (0 : Int) < (N : Int) + 1 by omega)
    omega
  have hN1 : ¬ ((N : Int) + 1 = 0) := by omega
  have hN2 : (0 : Int) ≤ (at_ : Int) := by omega
  have hc63 : (capm : Int) ≤ 9223372036854775807 ∧ (N : Int) ≤ (capm : Int) := by have := HCAP.out; unfold maxLen at this; omega
  obtain ⟨hc63, hNc⟩ := hc63
  have hP := pref_law b L k HV.out (by omega) (by omega)
  have hR := runB_range b 0 L
  have hR2 := runB_range b 0 (L.take k)
  have HBG := Lib.hid (pref_beg b L HV.out (by omega))
  have HC1 : Hid (∀ W, Below w3.heap.size w3 W → Calls Try.prog 12 #[cvB b (some ⟨g, 0, none⟩) cap, .int .i64 0, .slice qm N capm] W fun e w' => e = .returned (.int .i64 (runB b 0 L).1) ∧ Below W.heap.size W w') := by
    refine Lib.hid fun W hW => ?_
    have h := check_any b (some ⟨g, 0, none⟩) cap 0 L qm capm W HL1.out (HR4.out.next hW) (by unfold maxLen; omega) (HM.out.next hW)
    rw [← hN] at h
    exact h
  have HC2 : Hid (∀ W, Below w3.heap.size w3 W → Calls Try.prog 12 #[cvB b (some ⟨g, 0, none⟩) cap, .int .i64 0, .slice qm k capm] W fun e w' => e = .returned (.int .i64 (runB b 0 (L.take k)).1) ∧ Below W.heap.size W w') := by
    refine Lib.hid fun W hW => ?_
    have h := check_any b (some ⟨g, 0, none⟩) cap 0 (L.take k) qm capm W HL1.out (HR4.out.next hW) (by unfold maxLen; simp; omega) ((HM.out.next hW).take k)
    rw [List.length_take, ← hN, Nat.min_eq_left hkN] at h
    exact h
  rw [← hN] at hR
  obtain ⟨hP1, hP2⟩ := hP
  generalize (runB b 0 L).1 = A at *
  generalize (runB b 0 (L.take k)).1 = P at *
  have HP1 := Lib.hid hP1; have HP2 := Lib.hid hP2; have HRR := Lib.hid hR; have HR2 := Lib.hid hR2
  clear hP1 hP2 hR hR2 hN
  have k0 := (HB53.out).cell 0 _ rfl
  have k1 := (HB53.out).cell 1 _ rfl
  have k2 := (HB53.out).cell 2 _ rfl
  have k3 := (HB53.out).cell 3 _ rfl
  have k4 := (HB53.out).cell 4 _ rfl
  have k5 := (HB53.out).cell 5 _ rfl
  have k6 := (HB53.out).cell 6 _ rfl
  have k7 := (HB53.out).cell 7 _ rfl
  go_upto_region 4 with fail
  rw [← hk]
  clear hk hN1 hN2 k0 k1 k2 k3 k4 k5 k6 k7
  have t0 := (HB53.out).reg 0 _ rfl
  have t1 := (HB53.out).reg 1 _ rfl
  have t2 := (HB53.out).reg 2 _ rfl
  have t3 := (HB53.out).reg 3 _ rfl
  have t4 := (HB53.out).reg 4 _ rfl
  have t5 := (HB53.out).reg 5 _ rfl
  have t6 := (HB53.out).reg 6 _ rfl
  have t7 := (HB53.out).reg 7 _ rfl
  (refine Grow.wp_region Grow.noPlan Grow.noPlan_stable (by kernel_rfl) (by kernel_rfl) ?_; intro opsq Hopsq)
  repeat (first | (refine Grow.lex_move rfl ?_ rfl ?_; (· first | exact Grow.wanted_none | (rw [Hopsq.out]; rfl)); intro K hK; simp only [Grow.put_lit, Grow.setAt, Grow.eval_lit, Grow.ev]; refine hK _ _ ?_; clear hK K) | (refine Grow.lex_assign rfl ?_ rfl ?_; (· first | exact Grow.wanted_none | (rw [Hopsq.out]; rfl)); intro K hK; simp only [Grow.put_lit, Grow.setAt, Grow.eval_lit, Grow.ev]; refine hK _ _ ?_; clear hK K) | (refine Grow.lex_plain rfl rfl ?_ rfl ?_; (· first | exact Grow.wanted_none | (rw [Hopsq.out]; rfl)); apply Exists.intro; refine ⟨fun wq hCq _ => ?_, ?_⟩; (· (go_wp2_with fail; refine ⟨rfl, Below.refl _ _, ?_⟩; simp only [Grow.getD_lit, Grow.nth]; rfl)); intro K hK; simp only [Grow.put_lit, Grow.setAt]; refine hK _ _ ?_; clear hK K) | (refine Grow.lex_nilCheck rfl rfl ?_ rfl ?_; (· first | exact Grow.wanted_none | (rw [Hopsq.out]; rfl)); intro K hK; simp only [Grow.put_lit, Grow.setAt]; refine hK _ _ ?_; clear hK K) | (refine Grow.lex_skip ?_ ?_; (· (rw [Hopsq.out]; rfl)); intro K hK; simp only [Grow.put_lit, Grow.setAt]; refine hK _ _ ?_; clear hK K))
  (refine Grow.lex_call ?_ rfl ?_; (· first | exact Grow.wanted_none | (rw [Hopsq.out]; rfl)); apply Exists.intro; apply Exists.intro; refine ⟨fun wq => ?_, ?_⟩; (· (go_simp; exact ⟨rfl, rfl⟩)); apply Exists.intro; refine ⟨fun wq hCq hKq => ?_, ?_⟩; (· exact HC1.out _ (Grow.Cl.base hCq)); intro K hK; simp only [Grow.put_lit, Grow.setAt]; refine hK _ _ ?_; clear hK K)
  repeat (first | (refine Grow.lex_move rfl ?_ rfl ?_; (· first | exact Grow.wanted_none | (rw [Hopsq.out]; rfl)); intro K hK; simp only [Grow.put_lit, Grow.setAt, Grow.eval_lit, Grow.ev]; refine hK _ _ ?_; clear hK K) | (refine Grow.lex_assign rfl ?_ rfl ?_; (· first | exact Grow.wanted_none | (rw [Hopsq.out]; rfl)); intro K hK; simp only [Grow.put_lit, Grow.setAt, Grow.eval_lit, Grow.ev]; refine hK _ _ ?_; clear hK K) | (refine Grow.lex_plain rfl rfl ?_ rfl ?_; (· first | exact Grow.wanted_none | (rw [Hopsq.out]; rfl)); apply Exists.intro; refine ⟨fun wq hCq _ => ?_, ?_⟩; (· (go_wp2_with fail; refine ⟨rfl, Below.refl _ _, ?_⟩; simp only [Grow.getD_lit, Grow.nth]; rfl)); intro K hK; simp only [Grow.put_lit, Grow.setAt]; refine hK _ _ ?_; clear hK K) | (refine Grow.lex_nilCheck rfl rfl ?_ rfl ?_; (· first | exact Grow.wanted_none | (rw [Hopsq.out]; rfl)); intro K hK; simp only [Grow.put_lit, Grow.setAt]; refine hK _ _ ?_; clear hK K) | (refine Grow.lex_skip ?_ ?_; (· (rw [Hopsq.out]; rfl)); intro K hK; simp only [Grow.put_lit, Grow.setAt]; refine hK _ _ ?_; clear hK K))
  (refine Grow.lex_call ?_ rfl ?_; (· first | exact Grow.wanted_none | (rw [Hopsq.out]; rfl)); apply Exists.intro; apply Exists.intro; refine ⟨fun wq => ?_, ?_⟩; (· (go_simp; exact ⟨rfl, rfl⟩)); apply Exists.intro; refine ⟨fun wq hCq hKq => ?_, ?_⟩; (· exact HC2.out _ (Grow.Cl.base hCq)); intro K hK; simp only [Grow.put_lit, Grow.setAt]; refine hK _ _ ?_; clear hK K)
  repeat (first | (refine Grow.lex_move rfl ?_ rfl ?_; (· first | exact Grow.wanted_none | (rw [Hopsq.out]; rfl)); intro K hK; simp only [Grow.put_lit, Grow.setAt, Grow.eval_lit, Grow.ev]; refine hK _ _ ?_; clear hK K) | (refine Grow.lex_assign rfl ?_ rfl ?_; (· first | exact Grow.wanted_none | (rw [Hopsq.out]; rfl)); intro K hK; simp only [Grow.put_lit, Grow.setAt, Grow.eval_lit, Grow.ev]; refine hK _ _ ?_; clear hK K) | (refine Grow.lex_plain rfl rfl ?_ rfl ?_; (· first | exact Grow.wanted_none | (rw [Hopsq.out]; rfl)); apply Exists.intro; refine ⟨fun wq hCq _ => ?_, ?_⟩; (· (go_wp2_with fail; refine ⟨rfl, Below.refl _ _, ?_⟩; simp only [Grow.getD_lit, Grow.nth]; rfl)); intro K hK; simp only [Grow.put_lit, Grow.setAt]; refine hK _ _ ?_; clear hK K) | (refine Grow.lex_nilCheck rfl rfl ?_ rfl ?_; (· first | exact Grow.wanted_none | (rw [Hopsq.out]; rfl)); intro K hK; simp only [Grow.put_lit, Grow.setAt]; refine hK _ _ ?_; clear hK K) | (refine Grow.lex_skip ?_ ?_; (· (rw [Hopsq.out]; rfl)); intro K hK; simp only [Grow.put_lit, Grow.setAt]; refine hK _ _ ?_; clear hK K))
  (refine Grow.lex_nil ?_; intro wz hbz _; replace hbz := Grow.Cl.base hbz; clear Hopsq opsq)
  have HWz := Lib.hid hbz
  clear hbz t0 t1 t2 t3 t4 t5 t6 t7 HC1 HC2
  go_upto_region 5 with fail
  go_cut [60] from 35 to 60 (fun v wx => v = .bool false ∧ wx = wz)
  case first =>
    by_cases hp : 0 ≤ P
    · obtain rfl : P = A := HP1.out hp
      have hA : P < (N : Int) := by have := HRR.out.2; omega
      go_wp2_with fail
      all_goals
        first
          | (exfalso; omega)
          | (go_meet; exact ⟨rfl, rfl⟩)
          | (go_meet; refine ⟨?_, rfl⟩; rw [decide_eq_false (by omega)]; done)
    · by_cases hA0 : 0 ≤ A
      · have hA : A < (N : Int) := by have := HRR.out.2; omega
        have hkA : (k : Int) ≤ A := HP2.out (by omega) hA0
        have hp2 : P < 0 := by omega
        clear hp
        go_wp2_with fail
        all_goals
          first
            | (exfalso; omega)
            | (go_meet; exact ⟨rfl, rfl⟩)
            | (go_meet; refine ⟨?_, rfl⟩; rw [decide_eq_false (by omega)]; done)
            | (go_meet; refine ⟨?_, rfl⟩; rw [Bool.false_or, decide_eq_false (by omega)])
            | (go_meet; refine ⟨?_, rfl⟩; simp; omega)
      · have hA1 : A < 0 := by omega
        have hp2 : P < 0 := by omega
        clear hp hA0
        go_wp2_with fail
        all_goals
          first
            | (exfalso; omega)
            | (go_meet; exact ⟨rfl, rfl⟩)
            | (go_meet; refine ⟨?_, rfl⟩; rw [decide_eq_false (by omega)]; done)
            | (go_meet; refine ⟨?_, rfl⟩; rw [Bool.false_or, decide_eq_false (by omega)])
            | (go_meet; refine ⟨?_, rfl⟩; simp; omega)
  case rest =>
  obtain ⟨rfl, hwc⟩ := hcut
  have hwc' := hwc.symm
  subst hwc'
  clear hwc
  by_cases hA : A < 0
  · go_wp2_with fail
    refine (sane18_any _).mono ?_
    rintro e z1 ⟨rfl, hb1⟩
    go_wp2_with fail
    go_ret
    exact ⟨rfl, HWW.out.trans ((HB4.out.trans ((HWz.out.trans (hb1.mono HWz.out.size)).mono HB4.out.size)).mono HWW.out.size)⟩
  · have hA0 : 0 ≤ A := by omega
    obtain ⟨u, m, hu, hmu, hne⟩ := HBG.out hA0
    rw [HDL.out] at hu
    have huN : u < N := by have := (List.getElem?_eq_some_iff.1 hmu).1; have := HN.out; omega
    obtain ⟨A', hq2, _, q1⟩ := (HR4.out.next HWz.out).at0 HC0.out
    obtain rfl : A' = ⟨g, 0, none⟩ := by simpa using hq2.symm
    rw [HCD.out] at q1
    have q2 : wz.cell? ⟨g, 0, none⟩ = some (.int .i64 dl) := by simpa [go_sem] using q1
    obtain ⟨A2, hqA, _, d0, d1, _, _, _⟩ := (HM.out.next HWz.out).atc hmu
    subst hqA
    have hsub : A - dl - 1 = (u : Int) := by omega
    have hu0 : (0 : Int) ≤ (u : Int) := by omega
    have hu1 : (u : Int) < (N : Int) := by omega
    have hAN : A ≤ 5000 := by have := HRR.out.2; omega
    have k7 := cell_later HWz.out (HB53.out.cell 7 _ rfl)
    clear hq2 q1 hmu hA hu
    go_upto_region 10 with fail
    clear hsub q2 k7 hAN hA0
    by_cases hz1 : m.1.1 = 0#32
    · have hz2 : m.1.2 ≠ 0#32 := fun h => hne (Prod.ext hz1 h)
      have y1 : ((m.1.1.toNat : Int) == 0) = true := by rw [hz1]; rfl
      have y2 : ((m.1.2.toNat : Int) == 0) = false := by
        rw [beq_eq_false_iff_ne]
        intro h
        exact hz2 (BitVec.eq_of_toNat_eq (by show m.1.2.toNat = 0; omega))
      clear hz1 hz2 hne
      go_wp2_with fail
      refine (sane18_any _).mono ?_
      rintro e z1 ⟨rfl, hb1⟩
      go_wp2_with fail
      go_ret
      exact ⟨rfl, HWW.out.trans ((HB4.out.trans ((HWz.out.trans (hb1.mono HWz.out.size)).mono HB4.out.size)).mono HWW.out.size)⟩
    · have y1 : ((m.1.1.toNat : Int) == 0) = false := by
        rw [beq_eq_false_iff_ne]
        intro h
        exact hz1 (BitVec.eq_of_toNat_eq (by show m.1.1.toNat = 0; omega))
      clear hz1 hne
      go_wp2_with fail
      refine (sane18_any _).mono ?_
      rintro e z1 ⟨rfl, hb1⟩
      go_wp2_with fail
      go_ret
      exact ⟨rfl, HWW.out.trans ((HB4.out.trans ((HWz.out.trans (hb1.mono HWz.out.size)).mono HB4.out.size)).mono HWW.out.size)⟩
set_option maxHeartbeats 1000000 in
set_option maxRecDepth 100000 in
theorem contractPrefix_lifted (os : Os) (started : os.Started) (H : Type) (enc : TypeId × Value → H) :
    ReturnsInHanded {} Try.checked os 5 .any (Rows.contractPrefixSpec.pre6 enc Try.prog Try.f5 Rows.contractPrefixRow.domain false) (Rows.contractPrefixSpec.post enc Try.prog Try.f5 false true false false) := by
  refine law_lifted (C := Try.checked) own laidOut started (by kernel_rfl) Try.func5 4 rfl Try.underlying4 (by kernel_rfl) rfl H enc
    (fun ds h => by match ds, h with | [d0, d1, d2], _ => rfl)
    (ChangeSpec.witness6 (enc := enc) (C := Try.checked) false ⟨#[], #[.agg #[.int .u8 0, .int .u8 0], .slice none 0 0, .int .u8 0], []⟩ 8 (by kernel_rfl) (by kernel_rfl) (by kernel_rfl) (by kernel_rfl)) ?_
  intro W base args ds ps hval hA hsz
  have hA' : DataW.TrodAll enc Try.prog W 0 (fun _ => true) true Try.f5.params.toList args.toList ds ps := hA
  have hval' : ∀ (j : Nat) t v, Try.f5.params[j]? = some t → args[j]? = some v → Value.okWide Try.prog W .any base t v := hval
  rw [Try.params5] at hA' hval'
  obtain ⟨v0, vs0, d0, ds0, p0, q0, hargs, rfl, rfl, h0, r0⟩ := trodAll_cons hA'
  obtain ⟨v1, vs1, d1, ds1, p1, q1, rfl, rfl, rfl, h1, r1⟩ := trodAll_cons r0
  obtain ⟨v2, vs2, d2, ds2, p2, q2, rfl, rfl, rfl, h2, r2⟩ := trodAll_cons r1
  obtain ⟨rfl, rfl, rfl⟩ := trodAll_nil r2
  obtain rfl : args = #[v0, v1, v2] := by cases args; simp_all
  obtain ⟨n0, t0, rfl, hn0, ht0⟩ := open_u8x2 (hval' 0 22 v0 rfl rfl) h0
  obtain ⟨l1, q1x, cap1, rfl, hl1, hu1⟩ := open_u8s (hval' 1 23 v1 rfl rfl) h1
  obtain ⟨x2, rfl, rfl, rfl, wx2⟩ := open_int Try.underlying5 (hval' 2 5 v2 rfl rfl) h2
  (obtain ⟨m2, rfl, hm2⟩ := u8_wf wx2; exact prefix_walk n0 t0 l1 q1x cap1 m2 W hn0 ht0 hl1 hu1 hm2)

theorem contractPrefix_over : Rows.contractPrefixRow.holds Try.pinned (OpenSpec.ofChange Rows.contractPrefixSpec) :=
  OpenClaim.holds_of_wide 5 Try.f5 rfl rfl rfl rfl rfl rfl rfl ⟨rfl, rfl, rfl, rfl, rfl⟩ rfl rfl rfl rfl rfl (by kernel_rfl) Try.func5 (by kernel_rfl)
    (of_decide_eq_true (by kernel_rfl)) (by unfold Func.isWrapper; first | (rw [if_pos (by decide +kernel)]; kernel_rfl) | (rw [if_neg (by decide +kernel)]; exact ⟨rfl, rfl⟩))
    (fun os started H enc _ => contractPrefix_lifted os started H enc)

/-- THE STATEMENT. -/
theorem contractPrefix_holds : Rows.ContractPrefixSaid := contractPrefix_over
#print axioms contractPrefix_holds
end Go.Proofs.Ytfmmiafdlfdfoaa
