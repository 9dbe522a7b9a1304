/- The walks over what is above and below a floor: the code's other half and the reference. Conditions: a floor is a 64 bit number. -/
import Derived.Test.YtfffacgfjblccaaCallsMore
namespace Go.Proofs.Ytfffacgfjblccaa
open Go.RowKit
attribute [local go_sem ↓] run_eql_cs run_neq_cs

set_option maxHeartbeats 1000000 in
theorem below_any (c : CS) (f : Int) (w : World) (h0 : -9223372036854775808 ≤ f) (h1 : f ≤ 9223372036854775807) :
    Calls Try.prog 20 #[cv c, .int .i64 f] w fun e w' => e = .returned (cv (belowC c f)) ∧ Below w.heap.size w w' := by
  have hb0 := below2 w (.cells #[.int .u32 (c.1.toNat : Int), .int .u32 (c.2.toNat : Int)] 24) (.cells #[.int .u32 0, .int .u32 0] 24)
  have T0 := Two.new (w.alloc (.cells #[.int .u32 (c.1.toNat : Int), .int .u32 (c.2.toNat : Int)] 24)) (.int .u32 0) (.int .u32 0) 24
  rw [World.size_alloc] at T0
  obtain ⟨n, hn, e, hup⟩ : ∃ n : Nat, n < 33 ∧ (min (max f 0) 32).toNat = n ∧ down f = ~~~(mask n) := ⟨(min (max f 0) 32).toNat, by omega, rfl, down_mask f _ (fun i _ => by omega)⟩
  have hm := nmask_int n hn
  have Hup := Lib.hid hup; have Hm := Lib.hid hm; have He := Lib.hid e
  clear hup hm e
  generalize ~~~(mask n) = m at Hup Hm
  go_enter Try.func20, Try.ntmps20
  go_wp2_with fail
  rw [He.out, Hm.out]
  refine (both_any c (m, m) _).mono ?_
  rintro e w1 ⟨rfl, hb1⟩
  have hb2 := hb0.trans (hb1.mono hb0.size)
  have T1 := T0.next hb1
  have k0 := T1.cell0; have k1 := T1.cell1; have f0 := T1.fr0; have f1 := T1.fr1
  go_wp2_with fail
  have T2 := T1.set (.int .u32 ((both c (m, m)).1.toNat : Int)) (.int .u32 ((both c (m, m)).2.toNat : Int))
  have r0 := T2.cell0; have r1 := T2.cell1
  exact bodyPost_ret (v := cv (both c (m, m))) (by simp [results, Try.results20, go_sem, r0, r1]) rfl ⟨by rw [belowC, Hup.out], below_set2 hb2 (by simp) _ _⟩
theorem both_rng (c : CS) (p : Nat → Bool) (k : Nat) (h : p k = true) : union (both c (rng p k, rng p k)) (both c (1#32 <<< k, 1#32 <<< k)) = both c (rng p (k + 1), rng p (k + 1)) := by
  simp only [union, both, rng, h, if_true, BitVec.and_or_distrib_left]
theorem rng_no (p : Nat → Bool) (k : Nat) (h : p k = false) : rng p (k + 1) = rng p k := by simp [rng, h]
theorem pow_shift : ∀ k, k < 32 → (2 : Int) ^ k % 4294967296 = (((1#32 <<< k).toNat : Nat) : Int) := by decide +kernel
set_option maxHeartbeats 1000000 in
theorem refAbove_any (c : CS) (f : Int) (w : World) :
    Calls Try.prog 19 #[cv c, .int .i64 f] w fun e w' => e = .returned (cv (above c f)) ∧ Below w.heap.size w w' := by
  have hb0 := below3 w (.cells #[.int .u32 (c.1.toNat : Int), .int .u32 (c.2.toNat : Int)] 24) (.cells #[.int .u32 0, .int .u32 0] 24) (.cells #[.int .u32 0, .int .u32 0] 24)
  have TA := ((Two.new w (.int .u32 (c.1.toNat : Int)) (.int .u32 (c.2.toNat : Int)) 24).next (below1 _ (.cells #[.int .u32 0, .int .u32 0] 24))).next (below1 _ (.cells #[.int .u32 0, .int .u32 0] 24))
  have TB := (Two.new (w.alloc (.cells #[.int .u32 (c.1.toNat : Int), .int .u32 (c.2.toNat : Int)] 24)) (.int .u32 0) (.int .u32 0) 24).next (below1 _ (.cells #[.int .u32 0, .int .u32 0] 24))
  have TC := Two.new ((w.alloc (.cells #[.int .u32 (c.1.toNat : Int), .int .u32 (c.2.toNat : Int)] 24)).alloc (.cells #[.int .u32 0, .int .u32 0] 24)) (.int .u32 0) (.int .u32 0) 24
  simp only [World.size_alloc] at TA TB TC
  have hz : (((w.alloc (.cells #[.int .u32 (c.1.toNat : Int), .int .u32 (c.2.toNat : Int)] 24)).alloc (.cells #[.int .u32 0, .int .u32 0] 24)).alloc (.cells #[.int .u32 0, .int .u32 0] 24)).heap.size = w.heap.size + 3 := by simp
  go_enter Try.func19, Try.ntmps19
  go_wp2_with fail
  generalize ((w.alloc (.cells #[.int .u32 (c.1.toNat : Int), .int .u32 (c.2.toNat : Int)] 24)).alloc (.cells #[.int .u32 0, .int .u32 0] 24)).alloc (.cells #[.int .u32 0, .int .u32 0] 24) = w0 at *
  obtain ⟨p, hp⟩ : ∃ p : Nat → Bool, p = (fun i : Nat => decide (f < (i : Int))) := ⟨_, rfl⟩
  have Hp := Lib.hid hp
  clear hp
  go_loopw [6] (fun v wr => ∃ k : Nat, k ≤ 32 ∧ v = .int .i64 k ∧ Two wr (w.heap.size + 1 + 1) (.int .u32 ((both c (rng p k, rng p k)).1.toNat : Int)) (.int .u32 ((both c (rng p k, rng p k)).2.toNat : Int)) ∧ Below (w.heap.size + 1 + 1) w0 wr) (fun v _ => 32 - (intOf v).toNat)
  case atStart => exact ⟨0, by omega, rfl, by simpa [rng, both] using TC, Below.refl _ _⟩
  case round =>
    obtain ⟨k, hk, rfl, T, hb⟩ := hrel
    have hsz := hb.size
    by_cases hlt : k < 32
    · have hd : decide ((k : Int) < 32) = true := by simp; omega
      by_cases hf : f < (k : Int)
      · have hpk : p k = true := by rw [Hp.out]; simpa using hf
        have he := both_rng c p k hpk
        have hpow := pow_shift k hlt
        have TA1 := TA.later hb (by omega)
        have a0 : ∀ W, Grow.Cl wr.drew W → W.cell? ⟨w.heap.size, 0, none⟩ = some (.int .u32 (c.1.toNat : Int)) := fun W h => cell_later (Grow.Cl.base h) TA1.cell0
        have a1 : ∀ W, Grow.Cl wr.drew W → W.cell? ⟨w.heap.size, 1, none⟩ = some (.int .u32 (c.2.toNat : Int)) := fun W h => cell_later (Grow.Cl.base h) TA1.cell1
        have o0 : ∀ W, Grow.Cl wr.drew W → W.cell? ⟨w.heap.size + 1 + 1, 0, none⟩ = some (.int .u32 ((both c (rng p k, rng p k)).1.toNat : Int)) := fun W h => cell_later (Grow.Cl.base h) T.cell0
        have o1 : ∀ W, Grow.Cl wr.drew W → W.cell? ⟨w.heap.size + 1 + 1, 1, none⟩ = some (.int .u32 ((both c (rng p k, rng p k)).2.toNat : Int)) := fun W h => cell_later (Grow.Cl.base h) T.cell1
        have HE := Lib.hid he; have HP := Lib.hid hpow; have HT := Lib.hid T; have HA := Lib.hid TA; have HB := Lib.hid TB; have HC := Lib.hid TC; have HA1 := Lib.hid TA1
        clear he hpow T TA TB TC TA1
        go_wp2_with fail
        (refine Grow.wp_region_tail 11 Grow.noPlan Grow.noPlan_stable (by kernel_rfl) (by kernel_rfl) ?_; intro opsq Hopsq; simp only [List.take_succ_cons, List.take_zero, List.drop_succ_cons, List.drop_zero])
        repeat (first | (refine Grow.lex_move rfl ?_ rfl ?_; (· first | exact Grow.wanted_none | (rw [Hopsq.out]; rfl)); intro K hK; simp only [Grow.put_lit, Grow.setAt, Grow.eval_lit, Grow.ev]; refine hK _ _ ?_; clear hK K) | (refine Grow.lex_assign rfl ?_ rfl ?_; (· first | exact Grow.wanted_none | (rw [Hopsq.out]; rfl)); intro K hK; simp only [Grow.put_lit, Grow.setAt, Grow.eval_lit, Grow.ev]; refine hK _ _ ?_; clear hK K) | (refine Grow.lex_plain rfl rfl ?_ rfl ?_; (· first | exact Grow.wanted_none | (rw [Hopsq.out]; rfl)); apply Exists.intro; refine ⟨fun wq hCq _ => ?_, ?_⟩; (· (go_wp2_with fail; refine ⟨rfl, Below.refl _ _, ?_⟩; simp only [Grow.getD_lit, Grow.nth]; rfl)); intro K hK; simp only [Grow.put_lit, Grow.setAt]; refine hK _ _ ?_; clear hK K) | (refine Grow.lex_skip ?_ ?_; (· (rw [Hopsq.out]; rfl)); intro K hK; simp only [Grow.put_lit, Grow.setAt]; refine hK _ _ ?_; clear hK K))
        simp only [HP.out]
        (refine Grow.lex_call ?_ rfl ?_; (· first | exact Grow.wanted_none | (rw [Hopsq.out]; rfl)); apply Exists.intro; apply Exists.intro; refine ⟨fun wq => ?_, ?_⟩; (· (go_simp; exact ⟨rfl, rfl⟩)); apply Exists.intro; refine ⟨fun wq hCq hKq => ?_, ?_⟩; (· exact refBoth_any c (1#32 <<< k, 1#32 <<< k) _); intro K hK; simp only [Grow.put_lit, Grow.setAt]; refine hK _ _ ?_; clear hK K)
        repeat (first | (refine Grow.lex_move rfl ?_ rfl ?_; (· first | exact Grow.wanted_none | (rw [Hopsq.out]; rfl)); intro K hK; simp only [Grow.put_lit, Grow.setAt, Grow.eval_lit, Grow.ev]; refine hK _ _ ?_; clear hK K) | (refine Grow.lex_assign rfl ?_ rfl ?_; (· first | exact Grow.wanted_none | (rw [Hopsq.out]; rfl)); intro K hK; simp only [Grow.put_lit, Grow.setAt, Grow.eval_lit, Grow.ev]; refine hK _ _ ?_; clear hK K) | (refine Grow.lex_plain rfl rfl ?_ rfl ?_; (· first | exact Grow.wanted_none | (rw [Hopsq.out]; rfl)); apply Exists.intro; refine ⟨fun wq hCq _ => ?_, ?_⟩; (· (go_wp2_with fail; refine ⟨rfl, Below.refl _ _, ?_⟩; simp only [Grow.getD_lit, Grow.nth]; rfl)); intro K hK; simp only [Grow.put_lit, Grow.setAt]; refine hK _ _ ?_; clear hK K) | (refine Grow.lex_skip ?_ ?_; (· (rw [Hopsq.out]; rfl)); intro K hK; simp only [Grow.put_lit, Grow.setAt]; refine hK _ _ ?_; clear hK K))
        (refine Grow.lex_call ?_ rfl ?_; (· first | exact Grow.wanted_none | (rw [Hopsq.out]; rfl)); apply Exists.intro; apply Exists.intro; refine ⟨fun wq => ?_, ?_⟩; (· (go_simp; exact ⟨rfl, rfl⟩)); apply Exists.intro; refine ⟨fun wq hCq hKq => ?_, ?_⟩; (· exact refUnion_any (both c (rng p k, rng p k)) (both c (1#32 <<< k, 1#32 <<< k)) _); intro K hK; simp only [Grow.put_lit, Grow.setAt]; refine hK _ _ ?_; clear hK K)
        (refine Grow.lex_nil ?_; intro w1 hb1 _; replace hb1 := Grow.Cl.base hb1; clear Hopsq opsq)
        rw [HE.out]
        have T1 := HT.out.next hb1
        have k0 := T1.cell0; have k1 := T1.cell1; have f0 := T1.fr0; have f1 := T1.fr1
        clear T1
        go_wp2_with fail
        exact ⟨⟨k + 1, by omega, by go_num, (HT.out.next hb1).set _ _, below_set2 (hb.trans (hb1.mono (by omega))) (by omega) _ _⟩, by simp [intOf]; omega⟩
      · have hpk : p k = false := by rw [Hp.out]; simpa using hf
        have he := rng_no p k hpk
        go_wp2_with fail
        exact ⟨⟨k + 1, by omega, by go_num, by rw [he]; exact T, hb⟩, by simp [intOf]; omega⟩
    · have hk3 : k = 32 := by omega
      subst hk3
      have TB1 := TB.later hb (by omega)
      have k0 := TB1.cell0; have k1 := TB1.cell1; have f0 := TB1.fr0; have f1 := TB1.fr1
      have o0 := T.cell0; have o1 := T.cell1
      go_wp2_with fail
      have T2 := TB1.set (.int .u32 ((both c (rng p 32, rng p 32)).1.toNat : Int)) (.int .u32 ((both c (rng p 32, rng p 32)).2.toNat : Int))
      have r0 := T2.cell0; have r1 := T2.cell1
      exact bodyPost_ret (v := cv (both c (rng p 32, rng p 32))) (by simp [results, Try.results19, go_sem, r0, r1]) rfl ⟨by rw [above, up, Hp.out], below_set2 (hb0.trans (hb.mono (by omega))) (by simp) _ _⟩
set_option maxHeartbeats 1000000 in
theorem refBelow_any (c : CS) (f : Int) (w : World) :
    Calls Try.prog 21 #[cv c, .int .i64 f] w fun e w' => e = .returned (cv (belowC c f)) ∧ Below w.heap.size w w' := by
  have hb0 := below3 w (.cells #[.int .u32 (c.1.toNat : Int), .int .u32 (c.2.toNat : Int)] 24) (.cells #[.int .u32 0, .int .u32 0] 24) (.cells #[.int .u32 0, .int .u32 0] 24)
  have TA := ((Two.new w (.int .u32 (c.1.toNat : Int)) (.int .u32 (c.2.toNat : Int)) 24).next (below1 _ (.cells #[.int .u32 0, .int .u32 0] 24))).next (below1 _ (.cells #[.int .u32 0, .int .u32 0] 24))
  have TB := (Two.new (w.alloc (.cells #[.int .u32 (c.1.toNat : Int), .int .u32 (c.2.toNat : Int)] 24)) (.int .u32 0) (.int .u32 0) 24).next (below1 _ (.cells #[.int .u32 0, .int .u32 0] 24))
  have TC := Two.new ((w.alloc (.cells #[.int .u32 (c.1.toNat : Int), .int .u32 (c.2.toNat : Int)] 24)).alloc (.cells #[.int .u32 0, .int .u32 0] 24)) (.int .u32 0) (.int .u32 0) 24
  simp only [World.size_alloc] at TA TB TC
  have hz : (((w.alloc (.cells #[.int .u32 (c.1.toNat : Int), .int .u32 (c.2.toNat : Int)] 24)).alloc (.cells #[.int .u32 0, .int .u32 0] 24)).alloc (.cells #[.int .u32 0, .int .u32 0] 24)).heap.size = w.heap.size + 3 := by simp
  go_enter Try.func21, Try.ntmps21
  go_wp2_with fail
  generalize ((w.alloc (.cells #[.int .u32 (c.1.toNat : Int), .int .u32 (c.2.toNat : Int)] 24)).alloc (.cells #[.int .u32 0, .int .u32 0] 24)).alloc (.cells #[.int .u32 0, .int .u32 0] 24) = w0 at *
  obtain ⟨p, hp⟩ : ∃ p : Nat → Bool, p = (fun i : Nat => decide ((i : Int) < f)) := ⟨_, rfl⟩
  have Hp := Lib.hid hp
  clear hp
  go_loopw [6] (fun v wr => ∃ k : Nat, k ≤ 32 ∧ v = .int .i64 k ∧ Two wr (w.heap.size + 1 + 1) (.int .u32 ((both c (rng p k, rng p k)).1.toNat : Int)) (.int .u32 ((both c (rng p k, rng p k)).2.toNat : Int)) ∧ Below (w.heap.size + 1 + 1) w0 wr) (fun v _ => 32 - (intOf v).toNat)
  case atStart => exact ⟨0, by omega, rfl, by simpa [rng, both] using TC, Below.refl _ _⟩
  case round =>
    obtain ⟨k, hk, rfl, T, hb⟩ := hrel
    have hsz := hb.size
    by_cases hlt : k < 32
    · have hd : decide ((k : Int) < 32) = true := by simp; omega
      by_cases hf : (k : Int) < f
      · have hpk : p k = true := by rw [Hp.out]; simpa using hf
        have he := both_rng c p k hpk
        have hpow := pow_shift k hlt
        have TA1 := TA.later hb (by omega)
        have a0 : ∀ W, Grow.Cl wr.drew W → W.cell? ⟨w.heap.size, 0, none⟩ = some (.int .u32 (c.1.toNat : Int)) := fun W h => cell_later (Grow.Cl.base h) TA1.cell0
        have a1 : ∀ W, Grow.Cl wr.drew W → W.cell? ⟨w.heap.size, 1, none⟩ = some (.int .u32 (c.2.toNat : Int)) := fun W h => cell_later (Grow.Cl.base h) TA1.cell1
        have o0 : ∀ W, Grow.Cl wr.drew W → W.cell? ⟨w.heap.size + 1 + 1, 0, none⟩ = some (.int .u32 ((both c (rng p k, rng p k)).1.toNat : Int)) := fun W h => cell_later (Grow.Cl.base h) T.cell0
        have o1 : ∀ W, Grow.Cl wr.drew W → W.cell? ⟨w.heap.size + 1 + 1, 1, none⟩ = some (.int .u32 ((both c (rng p k, rng p k)).2.toNat : Int)) := fun W h => cell_later (Grow.Cl.base h) T.cell1
        have HE := Lib.hid he; have HP := Lib.hid hpow; have HT := Lib.hid T; have HA := Lib.hid TA; have HB := Lib.hid TB; have HC := Lib.hid TC; have HA1 := Lib.hid TA1
        clear he hpow T TA TB TC TA1
        go_wp2_with fail
        (refine Grow.wp_region_tail 11 Grow.noPlan Grow.noPlan_stable (by kernel_rfl) (by kernel_rfl) ?_; intro opsq Hopsq; simp only [List.take_succ_cons, List.take_zero, List.drop_succ_cons, List.drop_zero])
        repeat (first | (refine Grow.lex_move rfl ?_ rfl ?_; (· first | exact Grow.wanted_none | (rw [Hopsq.out]; rfl)); intro K hK; simp only [Grow.put_lit, Grow.setAt, Grow.eval_lit, Grow.ev]; refine hK _ _ ?_; clear hK K) | (refine Grow.lex_assign rfl ?_ rfl ?_; (· first | exact Grow.wanted_none | (rw [Hopsq.out]; rfl)); intro K hK; simp only [Grow.put_lit, Grow.setAt, Grow.eval_lit, Grow.ev]; refine hK _ _ ?_; clear hK K) | (refine Grow.lex_plain rfl rfl ?_ rfl ?_; (· first | exact Grow.wanted_none | (rw [Hopsq.out]; rfl)); apply Exists.intro; refine ⟨fun wq hCq _ => ?_, ?_⟩; (· (go_wp2_with fail; refine ⟨rfl, Below.refl _ _, ?_⟩; simp only [Grow.getD_lit, Grow.nth]; rfl)); intro K hK; simp only [Grow.put_lit, Grow.setAt]; refine hK _ _ ?_; clear hK K) | (refine Grow.lex_skip ?_ ?_; (· (rw [Hopsq.out]; rfl)); intro K hK; simp only [Grow.put_lit, Grow.setAt]; refine hK _ _ ?_; clear hK K))
        simp only [HP.out]
        (refine Grow.lex_call ?_ rfl ?_; (· first | exact Grow.wanted_none | (rw [Hopsq.out]; rfl)); apply Exists.intro; apply Exists.intro; refine ⟨fun wq => ?_, ?_⟩; (· (go_simp; exact ⟨rfl, rfl⟩)); apply Exists.intro; refine ⟨fun wq hCq hKq => ?_, ?_⟩; (· exact refBoth_any c (1#32 <<< k, 1#32 <<< k) _); intro K hK; simp only [Grow.put_lit, Grow.setAt]; refine hK _ _ ?_; clear hK K)
        repeat (first | (refine Grow.lex_move rfl ?_ rfl ?_; (· first | exact Grow.wanted_none | (rw [Hopsq.out]; rfl)); intro K hK; simp only [Grow.put_lit, Grow.setAt, Grow.eval_lit, Grow.ev]; refine hK _ _ ?_; clear hK K) | (refine Grow.lex_assign rfl ?_ rfl ?_; (· first | exact Grow.wanted_none | (rw [Hopsq.out]; rfl)); intro K hK; simp only [Grow.put_lit, Grow.setAt, Grow.eval_lit, Grow.ev]; refine hK _ _ ?_; clear hK K) | (refine Grow.lex_plain rfl rfl ?_ rfl ?_; (· first | exact Grow.wanted_none | (rw [Hopsq.out]; rfl)); apply Exists.intro; refine ⟨fun wq hCq _ => ?_, ?_⟩; (· (go_wp2_with fail; refine ⟨rfl, Below.refl _ _, ?_⟩; simp only [Grow.getD_lit, Grow.nth]; rfl)); intro K hK; simp only [Grow.put_lit, Grow.setAt]; refine hK _ _ ?_; clear hK K) | (refine Grow.lex_skip ?_ ?_; (· (rw [Hopsq.out]; rfl)); intro K hK; simp only [Grow.put_lit, Grow.setAt]; refine hK _ _ ?_; clear hK K))
        (refine Grow.lex_call ?_ rfl ?_; (· first | exact Grow.wanted_none | (rw [Hopsq.out]; rfl)); apply Exists.intro; apply Exists.intro; refine ⟨fun wq => ?_, ?_⟩; (· (go_simp; exact ⟨rfl, rfl⟩)); apply Exists.intro; refine ⟨fun wq hCq hKq => ?_, ?_⟩; (· exact refUnion_any (both c (rng p k, rng p k)) (both c (1#32 <<< k, 1#32 <<< k)) _); intro K hK; simp only [Grow.put_lit, Grow.setAt]; refine hK _ _ ?_; clear hK K)
        (refine Grow.lex_nil ?_; intro w1 hb1 _; replace hb1 := Grow.Cl.base hb1; clear Hopsq opsq)
        rw [HE.out]
        have T1 := HT.out.next hb1
        have k0 := T1.cell0; have k1 := T1.cell1; have f0 := T1.fr0; have f1 := T1.fr1
        clear T1
        go_wp2_with fail
        exact ⟨⟨k + 1, by omega, by go_num, (HT.out.next hb1).set _ _, below_set2 (hb.trans (hb1.mono (by omega))) (by omega) _ _⟩, by simp [intOf]; omega⟩
      · have hpk : p k = false := by rw [Hp.out]; simpa using hf
        have he := rng_no p k hpk
        go_wp2_with fail
        exact ⟨⟨k + 1, by omega, by go_num, by rw [he]; exact T, hb⟩, by simp [intOf]; omega⟩
    · have hk3 : k = 32 := by omega
      subst hk3
      have TB1 := TB.later hb (by omega)
      have k0 := TB1.cell0; have k1 := TB1.cell1; have f0 := TB1.fr0; have f1 := TB1.fr1
      have o0 := T.cell0; have o1 := T.cell1
      go_wp2_with fail
      have T2 := TB1.set (.int .u32 ((both c (rng p 32, rng p 32)).1.toNat : Int)) (.int .u32 ((both c (rng p 32, rng p 32)).2.toNat : Int))
      have r0 := T2.cell0; have r1 := T2.cell1
      exact bodyPost_ret (v := cv (both c (rng p 32, rng p 32))) (by simp [results, Try.results21, go_sem, r0, r1]) rfl ⟨by rw [belowC, down, Hp.out], below_set2 (hb0.trans (hb.mono (by omega))) (by simp) _ _⟩
end Go.Proofs.Ytfffacgfjblccaa
