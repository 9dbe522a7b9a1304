/- The walk over slices.BinarySearchFunc at duties, by belief.compare. Conditions: duties in order that can be read, at most 1000 of them. -/
import Derived.Test.YtfmmiafdlfdfoaaZInsert
import Derived.Test.YtfmmiafdlfdfoaaZLawState
namespace Go.Proofs.Ytfmmiafdlfdfoaa
open Go.RowKit
theorem cmpD_zero (e d : Duty) (h1 : 1 ≤ e.2.1) (h2 : e.2.1 ≤ 2) (h3 : 1 ≤ d.2.1) (h4 : d.2.1 ≤ 2) : cmpD e d = 0 ↔ key e = key d := by
  obtain ⟨a, b, c⟩ := e
  obtain ⟨x, y, z⟩ := d
  unfold key
  simp only at h1 h2 h3 h4 ⊢
  unfold cmpD orL cmpI
  by_cases p1 : a < x
  · simp [p1]; omega
  · by_cases p2 : x < a
    · simp [p1, p2]; omega
    · by_cases p3 : b < y
      · simp [p1, p2, p3]; omega
      · by_cases p4 : y < b
        · simp [p1, p2, p3, p4]; omega
        · simp [p1, p2, p3, p4]; omega
theorem sorted_lt {L : List Duty} (hs : L.Pairwise (fun e d => key e < key d)) {a b : Nat} {x y : Duty} (hx : L[a]? = some x) (hy : L[b]? = some y) (h : a < b) : key x < key y := by
  obtain ⟨ha, rfl⟩ := List.getElem?_eq_some_iff.1 hx
  obtain ⟨hb, rfl⟩ := List.getElem?_eq_some_iff.1 hy
  exact List.pairwise_iff_getElem.1 hs a b ha hb h
set_option maxHeartbeats 4000000 in
set_option maxRecDepth 100000 in
theorem bsfC_any (L : List Duty) (q : Option Addr) (cap : Nat) (d : Duty) (w : World) (hn : L.length ≤ 1000) (hr : RdD w q L) (hs : L.Pairwise (fun e d => key e < key d)) (hk : ∀ e ∈ L, 1 ≤ e.2.1 ∧ e.2.1 ≤ 2) (hkd : 1 ≤ d.2.1 ∧ d.2.1 ≤ 2) :
    Calls Try.prog 60 #[.slice q L.length cap, .agg #[.int .i64 d.1, .int .i64 d.2.1, .int .i64 d.2.2], .func (.func 61) #[] #[]] w fun e w' => ∃ (i : Nat) (f : Bool), e = .returned (.tuple #[.int .i64 i, .bool f]) ∧ i ≤ L.length ∧ (∀ (t : Nat) e, L[t]? = some e → t < i → key e < key d) ∧ (∀ (t : Nat) e, L[t]? = some e → i ≤ t → key d ≤ key e) ∧ (f = true ↔ ∃ e, L[i]? = some e ∧ key e = key d) ∧ Below w.heap.size w w' := by
  have X0 : Blk (w.alloc (.cells #[.int .i64 d.1, .int .i64 d.2.1, .int .i64 d.2.2] 71)) w.heap.size [.int .i64 d.1, .int .i64 d.2.1, .int .i64 d.2.2] := by
    have hx := Blk.new w [.int .i64 d.1, .int .i64 d.2.1, .int .i64 d.2.2] 71
    exact hx
  have XW : Below w.heap.size w (w.alloc (.cells #[.int .i64 d.1, .int .i64 d.2.1, .int .i64 d.2.2] 71)) := below1' w _
  have HWW := Lib.hid XW; have HX0 := Lib.hid X0
  clear XW X0
  have HR := Lib.hid (hr.next HWW.out); have HSO := Lib.hid hs; have HK := Lib.hid hk; have HKD := Lib.hid hkd
  clear hr hs hk hkd
  obtain ⟨n, hnn⟩ : ∃ n, n = L.length := ⟨_, rfl⟩
  have HN := Lib.hid hnn
  rw [← hnn] at hn ⊢
  clear hnn
  go_enter Try.func60, Try.ntmps60
  go_upto_region 1 with fail
  generalize (w.alloc (.cells #[.int .i64 d.1, .int .i64 d.2.1, .int .i64 d.2.2] 71)) = w0 at *
  have HW := Lib.hid (Below.refl w0.heap.size w0)
  have hz0 := HX0.out.lt
  go_wp2_with fail
  go_loopw [9, 10] (fun v9 v10 wr => ∃ lo hi : Nat, v9 = .int .i64 lo ∧ v10 = .int .i64 hi ∧ lo ≤ hi ∧ hi ≤ n ∧ (∀ (t : Nat) e, L[t]? = some e → t < lo → key e < key d) ∧ (∀ (t : Nat) e, L[t]? = some e → hi ≤ t → key d ≤ key e) ∧ Below w0.heap.size w0 wr) (fun v9 v10 _ => (intOf v10).toNat - (intOf v9).toNat)
  case atStart => exact ⟨0, n, rfl, rfl, Nat.zero_le _, Nat.le_refl _, fun t e _ h => absurd h (Nat.not_lt_zero _), fun t e h1 h2 => by have := (List.getElem?_eq_some_iff.1 h1).1; have := HN.out; omega, HW.out⟩
  case round =>
    clear HW
    obtain ⟨lo, hi, rfl, rfl, hlh, hin, hlo, hhi, hb⟩ := hrel
    have HW := Lib.hid hb; have HLO := Lib.hid hlo; have HHI := Lib.hid hhi
    clear hb hlo hhi
    have BT := HX0.out.later HW.out hz0
    by_cases hlt : lo < hi
    · have hlt' : (lo : Int) < (hi : Int) := by omega
      obtain ⟨mm, hmm⟩ : ∃ mm : Nat, mm = (lo + hi) / 2 := ⟨_, rfl⟩
      have hmi : ((lo : Int) + (hi : Int)) / 2 = (mm : Int) := by omega
      have hm1 : lo ≤ mm := by omega
      have hm2 : mm < hi := by omega
      have HMM := Lib.hid hmm
      clear hmm
      obtain ⟨e, he⟩ : ∃ e, L[mm]? = some e := ⟨_, List.getElem?_eq_getElem (by rw [← HN.out]; omega)⟩
      obtain ⟨A, hq, hA, r0, r1, r2⟩ := (HR.out.next HW.out).reg he
      subst hq
      have HEE := Lib.hid he
      have hmw : (0 : Int) ≤ (mm : Int) := by omega
      have hmn : (mm : Int) < (n : Int) := by omega
      clear he hA
      go_upto_region 5 with fail
      have HM1 := Lib.hid hm1; have HM2 := Lib.hid hm2; have HIN := Lib.hid hin
      clear hmi hlt hlt' hm1 hm2 hin hlh HMM
      have t0 := (BT).reg 0 _ rfl
      have t1 := (BT).reg 1 _ rfl
      have t2 := (BT).reg 2 _ rfl
      obtain ⟨z, hz⟩ : ∃ z, z = cmpD e d := ⟨_, rfl⟩
      have HZ := Lib.hid hz
      have HCMP : ∀ W, Calls Try.prog 61 #[cvD e, cvD d] W fun x w' => x = .returned (.int .i64 z) ∧ Below W.heap.size W w' := fun W => by rw [hz]; exact compareC_any e d W
      have HCM := Lib.hid HCMP
      clear hz HCMP
      by_cases hc : ¬ z < 0
      · have hc2 : Hid (0 ≤ z) := Lib.hid (by omega)
        clear hc
        (refine Grow.wp_region Grow.noPlan Grow.noPlan_stable (by kernel_rfl) (by kernel_rfl) ?_; intro opsq Hopsq)
        repeat (first | (refine Grow.lex_move rfl ?_ rfl ?_; (· first | exact Grow.wanted_none | (rw [Hopsq.out]; rfl)); intro K hK; simp only [Grow.put_lit, Grow.setAt, Grow.eval_lit, Grow.ev]; refine hK _ _ ?_; clear hK K) | (refine Grow.lex_assign rfl ?_ rfl ?_; (· first | exact Grow.wanted_none | (rw [Hopsq.out]; rfl)); intro K hK; simp only [Grow.put_lit, Grow.setAt, Grow.eval_lit, Grow.ev]; refine hK _ _ ?_; clear hK K) | (refine Grow.lex_plain rfl rfl ?_ rfl ?_; (· first | exact Grow.wanted_none | (rw [Hopsq.out]; rfl)); apply Exists.intro; refine ⟨fun wq hCq _ => ?_, ?_⟩; (· (go_wp2_with fail; refine ⟨rfl, Below.refl _ _, ?_⟩; simp only [Grow.getD_lit, Grow.nth]; rfl)); intro K hK; simp only [Grow.put_lit, Grow.setAt]; refine hK _ _ ?_; clear hK K) | (refine Grow.lex_nilCheck rfl rfl ?_ rfl ?_; (· first | exact Grow.wanted_none | (rw [Hopsq.out]; rfl)); intro K hK; simp only [Grow.put_lit, Grow.setAt]; refine hK _ _ ?_; clear hK K) | (refine Grow.lex_skip ?_ ?_; (· (rw [Hopsq.out]; rfl)); intro K hK; simp only [Grow.put_lit, Grow.setAt]; refine hK _ _ ?_; clear hK K))
        (refine Grow.lex_call ?_ rfl ?_; (· first | exact Grow.wanted_none | (rw [Hopsq.out]; rfl)); apply Exists.intro; apply Exists.intro; refine ⟨fun wq => ?_, ?_⟩; (· (go_simp; exact ⟨rfl, rfl⟩)); apply Exists.intro; refine ⟨fun wq hCq hKq => ?_, ?_⟩; (· exact HCM.out _); intro K hK; simp only [Grow.put_lit, Grow.setAt]; refine hK _ _ ?_; clear hK K)
        repeat (first | (refine Grow.lex_move rfl ?_ rfl ?_; (· first | exact Grow.wanted_none | (rw [Hopsq.out]; rfl)); intro K hK; simp only [Grow.put_lit, Grow.setAt, Grow.eval_lit, Grow.ev]; refine hK _ _ ?_; clear hK K) | (refine Grow.lex_assign rfl ?_ rfl ?_; (· first | exact Grow.wanted_none | (rw [Hopsq.out]; rfl)); intro K hK; simp only [Grow.put_lit, Grow.setAt, Grow.eval_lit, Grow.ev]; refine hK _ _ ?_; clear hK K) | (refine Grow.lex_plain rfl rfl ?_ rfl ?_; (· first | exact Grow.wanted_none | (rw [Hopsq.out]; rfl)); apply Exists.intro; refine ⟨fun wq hCq _ => ?_, ?_⟩; (· (go_wp2_with fail; refine ⟨rfl, Below.refl _ _, ?_⟩; simp only [Grow.getD_lit, Grow.nth]; rfl)); intro K hK; simp only [Grow.put_lit, Grow.setAt]; refine hK _ _ ?_; clear hK K) | (refine Grow.lex_nilCheck rfl rfl ?_ rfl ?_; (· first | exact Grow.wanted_none | (rw [Hopsq.out]; rfl)); intro K hK; simp only [Grow.put_lit, Grow.setAt]; refine hK _ _ ?_; clear hK K) | (refine Grow.lex_skip ?_ ?_; (· (rw [Hopsq.out]; rfl)); intro K hK; simp only [Grow.put_lit, Grow.setAt]; refine hK _ _ ?_; clear hK K))
        (refine Grow.lex_nil ?_; intro w5 hb5 _; replace hb5 := Grow.Cl.base hb5; clear Hopsq opsq)
        have hc := hc2.out
        go_wp2_with fail
        refine ⟨⟨lo, mm, rfl, rfl, HM1.out, by have := HM2.out; have := HIN.out; omega, HLO.out, fun t x hx ht => ?_, HW.out.trans (hb5.mono HW.out.size)⟩, by have := HM1.out; have := HM2.out; simp [intOf]; omega⟩
        have hek : ¬ key e < key d := fun h => (show ¬ cmpD e d < 0 by rw [← HZ.out]; have := hc2.out; omega) ((cmpD_key e d (HK.out e (List.mem_of_getElem? HEE.out)).1 (HK.out e (List.mem_of_getElem? HEE.out)).2 HKD.out.1 HKD.out.2).2 h)
        by_cases h : mm < t
        · have := sorted_lt HSO.out HEE.out hx h; omega
        · obtain rfl : t = mm := by omega
          rw [HEE.out] at hx; cases hx; omega
      · have hc2 : Hid (z < 0) := Lib.hid (by omega)
        clear hc
        (refine Grow.wp_region Grow.noPlan Grow.noPlan_stable (by kernel_rfl) (by kernel_rfl) ?_; intro opsq Hopsq)
        repeat (first | (refine Grow.lex_move rfl ?_ rfl ?_; (· first | exact Grow.wanted_none | (rw [Hopsq.out]; rfl)); intro K hK; simp only [Grow.put_lit, Grow.setAt, Grow.eval_lit, Grow.ev]; refine hK _ _ ?_; clear hK K) | (refine Grow.lex_assign rfl ?_ rfl ?_; (· first | exact Grow.wanted_none | (rw [Hopsq.out]; rfl)); intro K hK; simp only [Grow.put_lit, Grow.setAt, Grow.eval_lit, Grow.ev]; refine hK _ _ ?_; clear hK K) | (refine Grow.lex_plain rfl rfl ?_ rfl ?_; (· first | exact Grow.wanted_none | (rw [Hopsq.out]; rfl)); apply Exists.intro; refine ⟨fun wq hCq _ => ?_, ?_⟩; (· (go_wp2_with fail; refine ⟨rfl, Below.refl _ _, ?_⟩; simp only [Grow.getD_lit, Grow.nth]; rfl)); intro K hK; simp only [Grow.put_lit, Grow.setAt]; refine hK _ _ ?_; clear hK K) | (refine Grow.lex_nilCheck rfl rfl ?_ rfl ?_; (· first | exact Grow.wanted_none | (rw [Hopsq.out]; rfl)); intro K hK; simp only [Grow.put_lit, Grow.setAt]; refine hK _ _ ?_; clear hK K) | (refine Grow.lex_skip ?_ ?_; (· (rw [Hopsq.out]; rfl)); intro K hK; simp only [Grow.put_lit, Grow.setAt]; refine hK _ _ ?_; clear hK K))
        (refine Grow.lex_call ?_ rfl ?_; (· first | exact Grow.wanted_none | (rw [Hopsq.out]; rfl)); apply Exists.intro; apply Exists.intro; refine ⟨fun wq => ?_, ?_⟩; (· (go_simp; exact ⟨rfl, rfl⟩)); apply Exists.intro; refine ⟨fun wq hCq hKq => ?_, ?_⟩; (· exact HCM.out _); intro K hK; simp only [Grow.put_lit, Grow.setAt]; refine hK _ _ ?_; clear hK K)
        repeat (first | (refine Grow.lex_move rfl ?_ rfl ?_; (· first | exact Grow.wanted_none | (rw [Hopsq.out]; rfl)); intro K hK; simp only [Grow.put_lit, Grow.setAt, Grow.eval_lit, Grow.ev]; refine hK _ _ ?_; clear hK K) | (refine Grow.lex_assign rfl ?_ rfl ?_; (· first | exact Grow.wanted_none | (rw [Hopsq.out]; rfl)); intro K hK; simp only [Grow.put_lit, Grow.setAt, Grow.eval_lit, Grow.ev]; refine hK _ _ ?_; clear hK K) | (refine Grow.lex_plain rfl rfl ?_ rfl ?_; (· first | exact Grow.wanted_none | (rw [Hopsq.out]; rfl)); apply Exists.intro; refine ⟨fun wq hCq _ => ?_, ?_⟩; (· (go_wp2_with fail; refine ⟨rfl, Below.refl _ _, ?_⟩; simp only [Grow.getD_lit, Grow.nth]; rfl)); intro K hK; simp only [Grow.put_lit, Grow.setAt]; refine hK _ _ ?_; clear hK K) | (refine Grow.lex_nilCheck rfl rfl ?_ rfl ?_; (· first | exact Grow.wanted_none | (rw [Hopsq.out]; rfl)); intro K hK; simp only [Grow.put_lit, Grow.setAt]; refine hK _ _ ?_; clear hK K) | (refine Grow.lex_skip ?_ ?_; (· (rw [Hopsq.out]; rfl)); intro K hK; simp only [Grow.put_lit, Grow.setAt]; refine hK _ _ ?_; clear hK K))
        (refine Grow.lex_nil ?_; intro w5 hb5 _; replace hb5 := Grow.Cl.base hb5; clear Hopsq opsq)
        have hc := hc2.out
        go_wp2_with fail
        refine ⟨⟨mm + 1, hi, by go_num, rfl, by have := HM2.out; omega, HIN.out, fun t x hx ht => ?_, HHI.out, HW.out.trans (hb5.mono HW.out.size)⟩, by have := HM1.out; have := HM2.out; simp [intOf]; omega⟩
        have hek : key e < key d := (cmpD_key e d (HK.out e (List.mem_of_getElem? HEE.out)).1 (HK.out e (List.mem_of_getElem? HEE.out)).2 HKD.out.1 HKD.out.2).1 (by rw [← HZ.out]; exact hc2.out)
        by_cases h : t < mm
        · have := sorted_lt HSO.out hx HEE.out h; omega
        · obtain rfl : t = mm := by omega
          rw [HEE.out] at hx; cases hx; exact hek
    · obtain rfl : lo = hi := by omega
      by_cases hln : lo < n
      · have hln' : (lo : Int) < (n : Int) := by omega
        have hl0 : (0 : Int) ≤ (lo : Int) := by omega
        obtain ⟨e, he⟩ : ∃ e, L[lo]? = some e := ⟨_, List.getElem?_eq_getElem (by rw [← HN.out]; omega)⟩
        obtain ⟨A, hq, hA, r0, r1, r2⟩ := (HR.out.next HW.out).reg he
        subst hq
        have HEE := Lib.hid he
        clear he hA
        go_upto_region 8 with fail
        have t0 := (BT).reg 0 _ rfl
        have t1 := (BT).reg 1 _ rfl
        have t2 := (BT).reg 2 _ rfl
        cases hc : (cmpD e d == 0)
        · have HC : Hid ((cmpD e d == 0) = false) := Lib.hid hc
          (refine Grow.wp_region Grow.noPlan Grow.noPlan_stable (by kernel_rfl) (by kernel_rfl) ?_; intro opsq Hopsq)
          repeat (first | (refine Grow.lex_move rfl ?_ rfl ?_; (· first | exact Grow.wanted_none | (rw [Hopsq.out]; rfl)); intro K hK; simp only [Grow.put_lit, Grow.setAt, Grow.eval_lit, Grow.ev]; refine hK _ _ ?_; clear hK K) | (refine Grow.lex_assign rfl ?_ rfl ?_; (· first | exact Grow.wanted_none | (rw [Hopsq.out]; rfl)); intro K hK; simp only [Grow.put_lit, Grow.setAt, Grow.eval_lit, Grow.ev]; refine hK _ _ ?_; clear hK K) | (refine Grow.lex_plain rfl rfl ?_ rfl ?_; (· first | exact Grow.wanted_none | (rw [Hopsq.out]; rfl)); apply Exists.intro; refine ⟨fun wq hCq _ => ?_, ?_⟩; (· (go_wp2_with fail; refine ⟨rfl, Below.refl _ _, ?_⟩; simp only [Grow.getD_lit, Grow.nth]; rfl)); intro K hK; simp only [Grow.put_lit, Grow.setAt]; refine hK _ _ ?_; clear hK K) | (refine Grow.lex_nilCheck rfl rfl ?_ rfl ?_; (· first | exact Grow.wanted_none | (rw [Hopsq.out]; rfl)); intro K hK; simp only [Grow.put_lit, Grow.setAt]; refine hK _ _ ?_; clear hK K) | (refine Grow.lex_skip ?_ ?_; (· (rw [Hopsq.out]; rfl)); intro K hK; simp only [Grow.put_lit, Grow.setAt]; refine hK _ _ ?_; clear hK K))
          (refine Grow.lex_call ?_ rfl ?_; (· first | exact Grow.wanted_none | (rw [Hopsq.out]; rfl)); apply Exists.intro; apply Exists.intro; refine ⟨fun wq => ?_, ?_⟩; (· (go_simp; exact ⟨rfl, rfl⟩)); apply Exists.intro; refine ⟨fun wq hCq hKq => ?_, ?_⟩; (· exact compareC_any e d _); intro K hK; simp only [Grow.put_lit, Grow.setAt]; refine hK _ _ ?_; clear hK K)
          repeat (first | (refine Grow.lex_move rfl ?_ rfl ?_; (· first | exact Grow.wanted_none | (rw [Hopsq.out]; rfl)); intro K hK; simp only [Grow.put_lit, Grow.setAt, Grow.eval_lit, Grow.ev]; refine hK _ _ ?_; clear hK K) | (refine Grow.lex_assign rfl ?_ rfl ?_; (· first | exact Grow.wanted_none | (rw [Hopsq.out]; rfl)); intro K hK; simp only [Grow.put_lit, Grow.setAt, Grow.eval_lit, Grow.ev]; refine hK _ _ ?_; clear hK K) | (refine Grow.lex_plain rfl rfl ?_ rfl ?_; (· first | exact Grow.wanted_none | (rw [Hopsq.out]; rfl)); apply Exists.intro; refine ⟨fun wq hCq _ => ?_, ?_⟩; (· (go_wp2_with fail; refine ⟨rfl, Below.refl _ _, ?_⟩; simp only [Grow.getD_lit, Grow.nth]; rfl)); intro K hK; simp only [Grow.put_lit, Grow.setAt]; refine hK _ _ ?_; clear hK K) | (refine Grow.lex_nilCheck rfl rfl ?_ rfl ?_; (· first | exact Grow.wanted_none | (rw [Hopsq.out]; rfl)); intro K hK; simp only [Grow.put_lit, Grow.setAt]; refine hK _ _ ?_; clear hK K) | (refine Grow.lex_skip ?_ ?_; (· (rw [Hopsq.out]; rfl)); intro K hK; simp only [Grow.put_lit, Grow.setAt]; refine hK _ _ ?_; clear hK K))
          (refine Grow.lex_nil ?_; intro w5 hb5 _; replace hb5 := Grow.Cl.base hb5; clear Hopsq opsq)
          go_wp2_with fail
          refine bodyPost_ret (v := .tuple #[.int .i64 lo, .bool false]) (by simp [results, Try.results60, go_sem]) rfl ?_
          exact ⟨lo, false, rfl, by omega, HLO.out, HHI.out, ⟨(fun h => by cases h), fun ⟨x, hx, hk⟩ => by rw [HEE.out] at hx; cases hx; exact absurd ((cmpD_zero e d (HK.out e (List.mem_of_getElem? HEE.out)).1 (HK.out e (List.mem_of_getElem? HEE.out)).2 HKD.out.1 HKD.out.2).2 hk) (by simpa using HC.out)⟩, HWW.out.trans ((HW.out.trans (hb5.mono HW.out.size)).mono HWW.out.size)⟩
        · have HC : Hid (key e = key d) := Lib.hid ((cmpD_zero e d (HK.out e (List.mem_of_getElem? HEE.out)).1 (HK.out e (List.mem_of_getElem? HEE.out)).2 HKD.out.1 HKD.out.2).1 (by simpa using hc))
          (refine Grow.wp_region Grow.noPlan Grow.noPlan_stable (by kernel_rfl) (by kernel_rfl) ?_; intro opsq Hopsq)
          repeat (first | (refine Grow.lex_move rfl ?_ rfl ?_; (· first | exact Grow.wanted_none | (rw [Hopsq.out]; rfl)); intro K hK; simp only [Grow.put_lit, Grow.setAt, Grow.eval_lit, Grow.ev]; refine hK _ _ ?_; clear hK K) | (refine Grow.lex_assign rfl ?_ rfl ?_; (· first | exact Grow.wanted_none | (rw [Hopsq.out]; rfl)); intro K hK; simp only [Grow.put_lit, Grow.setAt, Grow.eval_lit, Grow.ev]; refine hK _ _ ?_; clear hK K) | (refine Grow.lex_plain rfl rfl ?_ rfl ?_; (· first | exact Grow.wanted_none | (rw [Hopsq.out]; rfl)); apply Exists.intro; refine ⟨fun wq hCq _ => ?_, ?_⟩; (· (go_wp2_with fail; refine ⟨rfl, Below.refl _ _, ?_⟩; simp only [Grow.getD_lit, Grow.nth]; rfl)); intro K hK; simp only [Grow.put_lit, Grow.setAt]; refine hK _ _ ?_; clear hK K) | (refine Grow.lex_nilCheck rfl rfl ?_ rfl ?_; (· first | exact Grow.wanted_none | (rw [Hopsq.out]; rfl)); intro K hK; simp only [Grow.put_lit, Grow.setAt]; refine hK _ _ ?_; clear hK K) | (refine Grow.lex_skip ?_ ?_; (· (rw [Hopsq.out]; rfl)); intro K hK; simp only [Grow.put_lit, Grow.setAt]; refine hK _ _ ?_; clear hK K))
          (refine Grow.lex_call ?_ rfl ?_; (· first | exact Grow.wanted_none | (rw [Hopsq.out]; rfl)); apply Exists.intro; apply Exists.intro; refine ⟨fun wq => ?_, ?_⟩; (· (go_simp; exact ⟨rfl, rfl⟩)); apply Exists.intro; refine ⟨fun wq hCq hKq => ?_, ?_⟩; (· exact compareC_any e d _); intro K hK; simp only [Grow.put_lit, Grow.setAt]; refine hK _ _ ?_; clear hK K)
          repeat (first | (refine Grow.lex_move rfl ?_ rfl ?_; (· first | exact Grow.wanted_none | (rw [Hopsq.out]; rfl)); intro K hK; simp only [Grow.put_lit, Grow.setAt, Grow.eval_lit, Grow.ev]; refine hK _ _ ?_; clear hK K) | (refine Grow.lex_assign rfl ?_ rfl ?_; (· first | exact Grow.wanted_none | (rw [Hopsq.out]; rfl)); intro K hK; simp only [Grow.put_lit, Grow.setAt, Grow.eval_lit, Grow.ev]; refine hK _ _ ?_; clear hK K) | (refine Grow.lex_plain rfl rfl ?_ rfl ?_; (· first | exact Grow.wanted_none | (rw [Hopsq.out]; rfl)); apply Exists.intro; refine ⟨fun wq hCq _ => ?_, ?_⟩; (· (go_wp2_with fail; refine ⟨rfl, Below.refl _ _, ?_⟩; simp only [Grow.getD_lit, Grow.nth]; rfl)); intro K hK; simp only [Grow.put_lit, Grow.setAt]; refine hK _ _ ?_; clear hK K) | (refine Grow.lex_nilCheck rfl rfl ?_ rfl ?_; (· first | exact Grow.wanted_none | (rw [Hopsq.out]; rfl)); intro K hK; simp only [Grow.put_lit, Grow.setAt]; refine hK _ _ ?_; clear hK K) | (refine Grow.lex_skip ?_ ?_; (· (rw [Hopsq.out]; rfl)); intro K hK; simp only [Grow.put_lit, Grow.setAt]; refine hK _ _ ?_; clear hK K))
          (refine Grow.lex_nil ?_; intro w5 hb5 _; replace hb5 := Grow.Cl.base hb5; clear Hopsq opsq)
          go_wp2_with fail
          refine bodyPost_ret (v := .tuple #[.int .i64 lo, .bool true]) (by simp [results, Try.results60, go_sem]) rfl ?_
          exact ⟨lo, true, rfl, by omega, HLO.out, HHI.out, ⟨fun _ => ⟨e, HEE.out, HC.out⟩, fun _ => rfl⟩, HWW.out.trans ((HW.out.trans (hb5.mono HW.out.size)).mono HWW.out.size)⟩
      · obtain rfl : lo = n := by omega
        go_upto_region 8 with fail
        (refine Grow.wp_region Grow.noPlan Grow.noPlan_stable (by kernel_rfl) (by kernel_rfl) ?_; intro opsq Hopsq)
        repeat (first | (refine Grow.lex_move rfl ?_ rfl ?_; (· first | exact Grow.wanted_none | (rw [Hopsq.out]; rfl)); intro K hK; simp only [Grow.put_lit, Grow.setAt, Grow.eval_lit, Grow.ev]; refine hK _ _ ?_; clear hK K) | (refine Grow.lex_assign rfl ?_ rfl ?_; (· first | exact Grow.wanted_none | (rw [Hopsq.out]; rfl)); intro K hK; simp only [Grow.put_lit, Grow.setAt, Grow.eval_lit, Grow.ev]; refine hK _ _ ?_; clear hK K) | (refine Grow.lex_plain rfl rfl ?_ rfl ?_; (· first | exact Grow.wanted_none | (rw [Hopsq.out]; rfl)); apply Exists.intro; refine ⟨fun wq hCq _ => ?_, ?_⟩; (· (go_wp2_with fail; refine ⟨rfl, Below.refl _ _, ?_⟩; simp only [Grow.getD_lit, Grow.nth]; rfl)); intro K hK; simp only [Grow.put_lit, Grow.setAt]; refine hK _ _ ?_; clear hK K) | (refine Grow.lex_nilCheck rfl rfl ?_ rfl ?_; (· first | exact Grow.wanted_none | (rw [Hopsq.out]; rfl)); intro K hK; simp only [Grow.put_lit, Grow.setAt]; refine hK _ _ ?_; clear hK K) | (refine Grow.lex_skip ?_ ?_; (· (rw [Hopsq.out]; rfl)); intro K hK; simp only [Grow.put_lit, Grow.setAt]; refine hK _ _ ?_; clear hK K))
        (refine Grow.lex_nil ?_; intro w5 hb5 _; replace hb5 := Grow.Cl.base hb5; clear Hopsq opsq)
        go_wp2_with fail
        refine bodyPost_ret (v := .tuple #[.int .i64 lo, .bool false]) (by simp [results, Try.results60, go_sem]) rfl ?_
        exact ⟨lo, false, rfl, by omega, HLO.out, HHI.out, ⟨(fun h => by cases h), fun ⟨x, hx, _⟩ => by have := (List.getElem?_eq_some_iff.1 hx).1; have := HN.out; omega⟩, HWW.out.trans ((HW.out.trans (hb5.mono HW.out.size)).mono HWW.out.size)⟩
end Go.Proofs.Ytfmmiafdlfdfoaa
