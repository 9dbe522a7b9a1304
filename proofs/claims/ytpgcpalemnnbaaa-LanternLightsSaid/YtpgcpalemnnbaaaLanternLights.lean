/- LanternLights: the lanterns and gongs, or the error, for made and arbitrary views. Conditions: none. -/
import Derived.Test.YtpgcpalemnnbaaaGongLaw
import Derived.Test.YtpgcpalemnnbaaaSane23
import Derived.Test.YtpgcpalemnnbaaaLightR
import Derived.Test.YtpgcpalemnnbaaaArgsV
namespace Go.Proofs.Ytpgcpalemnnbaaa
open Go.ChangeShapes Go.WideShapes Go.ChangeAt Go.RowKit
attribute [local go_sem ↓] run_neq_cs run_eql_cs
attribute [local go_sem] run_store_float
theorem lightF_len (b : BldV) (V : List ViewV) (B : List CS) (h : V.length ≤ 1000) : (lightF b V B).lit.length ≤ 1000 ∧ (lightF b V B).gong.length ≤ 1000 := by
  unfold lightF
  split
  · rename_i hk
    obtain ⟨l1, l2⟩ := lightK_len b V B V.length (Nat.le_refl _) (by have := hk.2; omega)
    omega
  · simp [lan0]
theorem lanB_self (s : LanV) : lanB s s = true := by
  unfold lanB
  rw [(clrB_iff s.clr s.clr).2 rfl]; simp
theorem csCells_set (B : List CS) (i : Nat) (c : CS) (hi : i < B.length) : csCells (B.set i c) = ((csCells B).set (i * 2) (.int .u32 (c.1.toNat : Int))).set (i * 2 + 1) (.int .u32 (c.2.toNat : Int)) := by
  induction B generalizing i with
  | nil => simp at hi
  | cons q B ih =>
    cases i with
    | zero => rfl
    | succ i =>
      have h := ih i (by simpa using hi)
      have e : (i + 1) * 2 = i * 2 + 1 + 1 := by omega
      rw [e]
      show [Value.int .u32 (q.1.toNat : Int), .int .u32 (q.2.toNat : Int)] ++ csCells (B.set i c) = _
      rw [h]
      rfl
set_option maxHeartbeats 8000000 in
set_option maxRecDepth 100000 in
theorem lanternLights_walk (n : Nat) (l : List Nat) (ql : Option Addr) (capl : Nat) (R : List ViewV) (qr : Option Addr) (capr : Nat) (w : World) (hn : n < 256) (hl : l.length ≤ maxLen) (hu : RdU w ql l) (hrl : R.length ≤ maxLen) (hrw : RdV w qr R) :
    Calls Try.prog 3 #[.int .u8 n, .slice ql l.length capl, .slice qr R.length capr] w fun e w' => e = .returned (.bool true) ∧ Below w.heap.size w w' := by
  have HL := Lib.hid hl; have HU := Lib.hid hu
  have HRW := Lib.hid hrw; have HRL := Lib.hid hrl
  obtain ⟨nr, hnr⟩ : ∃ nr, nr = R.length := ⟨_, rfl⟩
  rw [← hnr]
  have HNR := Lib.hid hnr
  have hnm : nr ≤ 9223372036854775807 := by rw [hnr]; unfold maxLen at hrl; omega
  clear hl hu hrw hrl hnr
  by_cases h20 : 20 < nr
  · have d0 : decide ((20 : Int) < (nr : Int)) = true := by simp; omega
    go_enter Try.func3, Try.ntmps3
    go_wp2_with fail
    refine (sane23_any _).mono ?_
    rintro e w11 ⟨rfl, hb11⟩
    go_wp2_with fail
    go_ret
    exact ⟨rfl, hb11⟩
  have d0 : decide ((20 : Int) < (nr : Int)) = false := by simp; omega
  go_enter Try.func3, Try.ntmps3
  go_wp2_with fail
  clear d0
  have hB := b10_any n 200 w hn (by omega)
  change Calls _ _ #[.int .u8 n, .int .u8 200] _ _ at hB
  refine hB.mono ?_
  clear hB
  rintro e w1 ⟨g, cap, rfl, hg0, hg1, hr, hb⟩
  have hlc : (b10 n 200).cars.length = k10 n := cars10_len n 200
  have hkr := k10_range n
  have HSL := Lib.hid (slack10 n 200)
  have HF2 : Hid (2 ≤ (b10 n 200).fl ∧ (b10 n 200).fl ≤ 8) := Lib.hid (fl10_range n)
  have HVA := Lib.hid (valid10 n 200 (by omega))
  obtain ⟨k, hk⟩ : ∃ k, k10 n = k := ⟨_, rfl⟩
  rw [hk] at hlc hkr
  have HK := Lib.hid hlc
  have HR1 := Lib.hid hr; have HB1 := Lib.hid hb
  have HU1 := Lib.hid (HU.out.next hb); have HRW1 := Lib.hid (HRW.out.next hb)
  clear hr hb hlc hk HU HRW
  generalize b10 n 200 = b at *
  go_upto_region 4 with fail
  have B5 := Blk.new w1 [.int .i64 b.fl, .int .i64 b.deb, .int .i64 b.room, .int .i64 b.park, .float .f64 b.em, .float .f64 b.fu, .float .f64 b.ov, .slice (some ⟨g, 0, none⟩) b.cars.length cap] 28
  have hb5 := below1' w1 (.cells #[.int .i64 b.fl, .int .i64 b.deb, .int .i64 b.room, .int .i64 b.park, .float .f64 b.em, .float .f64 b.fu, .float .f64 b.ov, .slice (some ⟨g, 0, none⟩) b.cars.length cap] 28)
  change Blk (w1.alloc (.cells #[.int .i64 b.fl, .int .i64 b.deb, .int .i64 b.room, .int .i64 b.park, .float .f64 b.em, .float .f64 b.fu, .float .f64 b.ov, .slice (some ⟨g, 0, none⟩) b.cars.length cap] 28)) _ _ at B5
  have HW2 := Lib.hid (HB1.out.trans (hb5.mono HB1.out.size))
  have HR2 := Lib.hid (HR1.out.next hb5)
  have HU2 := Lib.hid (HU1.out.next hb5); have HRW2 := Lib.hid (HRW1.out.next hb5)
  have HX2 := Lib.hid B5
  clear B5 hb5 HB1 HR1 HU1 HRW1
  generalize w1.alloc (.cells #[.int .i64 b.fl, .int .i64 b.deb, .int .i64 b.room, .int .i64 b.park, .float .f64 b.em, .float .f64 b.fu, .float .f64 b.ov, .slice (some ⟨g, 0, none⟩) b.cars.length cap] 28) = w2 at *
  generalize w1.heap.size = g5 at *
  have k0 := (HX2.out).cell 0 _ rfl
  have k1 := (HX2.out).cell 1 _ rfl
  have k2 := (HX2.out).cell 2 _ rfl
  have k3 := (HX2.out).cell 3 _ rfl
  have k4 := (HX2.out).cell 4 _ rfl
  have k5 := (HX2.out).cell 5 _ rfl
  have k6 := (HX2.out).cell 6 _ rfl
  have k7 := (HX2.out).cell 7 _ rfl
  rw [HK.out] at k7
  have hmk := run_mkC k (by omega)
  have HO3 := Lib.hid (ownsC_made w2 k w2.heap.size (Nat.le_refl _) (by omega))
  have hbm := below1' w2 (.cells (zerosC k) 33)
  have HALL : Hid (∀ W, Below w2.heap.size w2 W → Blk W g5 [.int .i64 b.fl, .int .i64 b.deb, .int .i64 b.room, .int .i64 b.park, .float .f64 b.em, .float .f64 b.fu, .float .f64 b.ov, .slice (some ⟨g, 0, none⟩) b.cars.length cap] ∧ RdC W (some ⟨g, 0, none⟩) b.cars ∧ RdU W ql l ∧ RdV W qr R ∧ Below w.heap.size w W) := Lib.hid fun W h => ⟨HX2.out.next h, HR2.out.next h, HU2.out.next h, HRW2.out.next h, HW2.out.trans (h.mono HW2.out.size)⟩
  have HB3 := Lib.hid hbm
  go_upto_region 5 with fail
  clear hbm HW2 HR2 HX2 HU2 HRW2 k0 k1 k2 k3 k4 k5 k6 k7 hmk
  generalize w2.alloc (.cells (zerosC k) 33) = w3 at *
  generalize w2.heap.size = gz at *
  obtain ⟨N, hN⟩ : ∃ N, N = l.length := ⟨_, rfl⟩
  rw [← hN]
  have HNL := Lib.hid hN
  have hNm : N ≤ 9223372036854775807 := by have := HL.out; unfold maxLen at this; omega
  clear hN
  have HL1 : Hid (b.cars.length ≤ 1000) := Lib.hid (by rw [HK.out]; omega)
  go_wp2_with fail
  go_loopw [9] (fun v wr => ∃ (i : Nat) (B : List CS), i ≤ k ∧ v = .int .i64 i ∧ B.length = k ∧ wr.ownsRow gz 33 2 (.slice (some ⟨gz, 0, none⟩) k k) k (csCells B) ∧ Below gz w2 wr) (fun v _ => k - (intOf v).toNat)
  case atStart => exact ⟨0, csZ k, by omega, rfl, by simp [csZ], HO3.out, HB3.out⟩
  case round =>
    clear HO3 HB3
    obtain ⟨i, B, hi, rfl, hBk, hown, hb⟩ := hrel
    have HO := Lib.hid hown; have HB := Lib.hid hb; have HBK := Lib.hid hBk
    clear hown hb hBk
    by_cases hlt : i < k ∧ i < N
    · obtain ⟨h1, h2⟩ := hlt
      have d1 : decide ((i : Int) < (k : Int)) = true := by simp; omega
      have d2 : decide ((i : Int) < (N : Int)) = true := by simp; omega
      obtain ⟨x, hx⟩ : ∃ x, l[i]? = some x := ⟨_, List.getElem?_eq_getElem (by rw [← HNL.out]; exact h2)⟩
      obtain ⟨hX5, _, hru, _⟩ := HALL.out wr HB.out
      obtain ⟨hx256, A, hqA, _, hcx⟩ := hru i x hx
      subst hqA
      have HX5 := Lib.hid hX5
      obtain ⟨p, hp⟩ : ∃ p, B[i]? = some p := ⟨_, List.getElem?_eq_getElem (by rw [HBK.out]; exact h1)⟩
      have hgz : gz < wr.heap.size := (HO.out.lt gz rfl).2
      have hx0 : (0 : Int) ≤ (x : Int) := by omega
      have hx1 : (x : Int) < 256 := by omega
      have hi0 : (0 : Int) ≤ (i : Int) := by omega
      have hik' : (i : Int) < (k : Int) := by omega
      have hin' : (i : Int) < (N : Int) := by omega
      have hfl := HF2.out.1
      have hm0 : 0 ≤ (x : Int) % b.fl := Int.emod_nonneg _ (by omega)
      have hm1 : (x : Int) % b.fl < b.fl := Int.emod_lt_of_pos _ (by omega)
      have hfz : ¬ b.fl = 0 := by omega
      have c0 : wr.cell? ⟨gz, i * 2, none⟩ = some (.int .u32 (p.1.toNat : Int)) := by
        rw [HO.out.cellAt _ (by omega)]; exact (csCells_at B i p hp).1
      have c1 : wr.cell? ⟨gz, i * 2 + 1, none⟩ = some (.int .u32 (p.2.toNat : Int)) := by
        rw [HO.out.cellAt _ (by omega)]; exact (csCells_at B i p hp).2
      clear hX5 hru hx hp
      go_upto_region 8 with fail
      clear d1 d2
      have tx : ∀ W, Grow.Cl wr.drew W → W.cell? (A.add i) = some (.int .u8 x) := fun W h => cell_later (Grow.Cl.base h) hcx
      have t0 := (HX5.out).reg 0 _ rfl
      (refine Grow.wp_region_tail 19 Grow.noPlan Grow.noPlan_stable (by kernel_rfl) (by kernel_rfl) ?_; intro opsq Hopsq; simp only [List.take_succ_cons, List.take_zero, List.drop_succ_cons, List.drop_zero])
      repeat (first | (refine Grow.lex_move rfl ?_ rfl ?_; (· first | exact Grow.wanted_none | (rw [Hopsq.out]; rfl)); intro K hK; simp only [Grow.put_lit, Grow.setAt, Grow.eval_lit, Grow.ev]; refine hK _ _ ?_; clear hK K) | (refine Grow.lex_assign rfl ?_ rfl ?_; (· first | exact Grow.wanted_none | (rw [Hopsq.out]; rfl)); intro K hK; simp only [Grow.put_lit, Grow.setAt, Grow.eval_lit, Grow.ev]; refine hK _ _ ?_; clear hK K) | (refine Grow.lex_plain rfl rfl ?_ rfl ?_; (· first | exact Grow.wanted_none | (rw [Hopsq.out]; rfl)); apply Exists.intro; refine ⟨fun wq hCq _ => ?_, ?_⟩; (· (go_wp2_with fail; refine ⟨rfl, Below.refl _ _, ?_⟩; simp only [Grow.getD_lit, Grow.nth]; rfl)); intro K hK; simp only [Grow.put_lit, Grow.setAt]; refine hK _ _ ?_; clear hK K) | (refine Grow.lex_nilCheck rfl rfl ?_ rfl ?_; (· first | exact Grow.wanted_none | (rw [Hopsq.out]; rfl)); intro K hK; simp only [Grow.put_lit, Grow.setAt]; refine hK _ _ ?_; clear hK K) | (refine Grow.lex_skip ?_ ?_; (· (rw [Hopsq.out]; rfl)); intro K hK; simp only [Grow.put_lit, Grow.setAt]; refine hK _ _ ?_; clear hK K))
      (refine Grow.lex_call ?_ rfl ?_; (· first | exact Grow.wanted_none | (rw [Hopsq.out]; rfl)); apply Exists.intro; apply Exists.intro; refine ⟨fun wq => ?_, ?_⟩; (· (go_simp; exact ⟨rfl, rfl⟩)); apply Exists.intro; refine ⟨fun wq hCq hKq => ?_, ?_⟩; (· exact refOne_any ((x : Int) % b.fl) (1 + (x : Int) / 32 % 2) _); intro K hK; simp only [Grow.put_lit, Grow.setAt]; refine hK _ _ ?_; clear hK K)
      repeat (first | (refine Grow.lex_move rfl ?_ rfl ?_; (· first | exact Grow.wanted_none | (rw [Hopsq.out]; rfl)); intro K hK; simp only [Grow.put_lit, Grow.setAt, Grow.eval_lit, Grow.ev]; refine hK _ _ ?_; clear hK K) | (refine Grow.lex_assign rfl ?_ rfl ?_; (· first | exact Grow.wanted_none | (rw [Hopsq.out]; rfl)); intro K hK; simp only [Grow.put_lit, Grow.setAt, Grow.eval_lit, Grow.ev]; refine hK _ _ ?_; clear hK K) | (refine Grow.lex_plain rfl rfl ?_ rfl ?_; (· first | exact Grow.wanted_none | (rw [Hopsq.out]; rfl)); apply Exists.intro; refine ⟨fun wq hCq _ => ?_, ?_⟩; (· (go_wp2_with fail; refine ⟨rfl, Below.refl _ _, ?_⟩; simp only [Grow.getD_lit, Grow.nth]; rfl)); intro K hK; simp only [Grow.put_lit, Grow.setAt]; refine hK _ _ ?_; clear hK K) | (refine Grow.lex_nilCheck rfl rfl ?_ rfl ?_; (· first | exact Grow.wanted_none | (rw [Hopsq.out]; rfl)); intro K hK; simp only [Grow.put_lit, Grow.setAt]; refine hK _ _ ?_; clear hK K) | (refine Grow.lex_skip ?_ ?_; (· (rw [Hopsq.out]; rfl)); intro K hK; simp only [Grow.put_lit, Grow.setAt]; refine hK _ _ ?_; clear hK K))
      (refine Grow.lex_nil ?_; intro w6 hb6 _; replace hb6 := Grow.Cl.base hb6; clear Hopsq opsq)
      have HO6 := Lib.hid (rowLater HO.out hb6)
      have HB6 := Lib.hid (HB.out.trans (hb6.mono (Nat.le_of_lt hgz)))
      replace c0 := cell_later hb6 c0; replace c1 := cell_later hb6 c1
      have f0 := row_fr HO6.out (i * 2); have f1 := row_fr HO6.out (i * 2 + 1)
      clear hb6 HO HB tx t0 hcx
      generalize one ((x : Int) % b.fl) (1 + (x : Int) / 32 % 2) = c at *
      go_wp2_with fail
      have h := row_upd (row_upd HO6.out (i * 2) (.int .u32 (c.1.toNat : Int))) (i * 2 + 1) (.int .u32 (c.2.toNat : Int))
      rw [← csCells_set B i c (by rw [HBK.out]; omega)] at h
      exact ⟨⟨i + 1, B.set i c, by omega, by go_num, by rw [List.length_set, HBK.out], h, (HB6.out.setCell (p := ⟨gz, i * 2, none⟩) (Nat.le_refl _) _).setCell (p := ⟨gz, i * 2 + 1, none⟩) (Nat.le_refl _) _⟩, by simp [intOf]; omega⟩
    · have h2 : (k : Int) ≤ (i : Int) ∨ ((i : Int) < (k : Int) ∧ (N : Int) ≤ (i : Int)) := by omega
      clear hlt
      go_upto_region 6 with fail
      go_cut [37] from 28 to 37 (fun v wx => v = .bool false ∧ wx = wr)
      case first =>
        rcases h2 with h2 | ⟨h2, h3⟩
        all_goals
          go_wp2_with fail
          go_meet
          first
            | exact ⟨rfl, rfl⟩
            | exact ⟨congrArg Value.bool (decide_eq_false (by omega)), rfl⟩
      case rest =>
        obtain ⟨rfl, hwq⟩ := hcut
        subst hwq
        clear h2
        obtain ⟨hX5, hr5, hu5, _, _⟩ := HALL.out _ HB.out
        have HX5 := Lib.hid hX5; have HR5 := Lib.hid hr5; have HU5 := Lib.hid hu5
        clear hX5 hr5 hu5
        have hgz : gz < wc.heap.size := (HO.out.lt gz rfl).2
        have k0 := HX5.out.cell 0 _ rfl; have k1 := HX5.out.cell 1 _ rfl; have k2 := HX5.out.cell 2 _ rfl; have k3 := HX5.out.cell 3 _ rfl; have k4 := HX5.out.cell 4 _ rfl; have k5 := HX5.out.cell 5 _ rfl; have k6 := HX5.out.cell 6 _ rfl; have k7 := HX5.out.cell 7 _ rfl
        generalize hwc : wc = w5 at *
        clear hwc
        go_wp2_with fail
        rw [HNL.out]
        refine (views23_any b (some ⟨g, 0, none⟩) cap l ql capl _ (by rw [HK.out]; omega) HL.out HF2.out.1 (by have := HF2.out.2; omega) HU5.out).mono ?_
        rintro e w6 ⟨v, V0, rfl, hVk, hPP, hown, hb6⟩
        clear hPP
        obtain ⟨qv, capv, rfl⟩ := row_form hown
        have hVk' : V0.length = k := by rw [hVk, HK.out]
        have HV6 := Lib.hid (rdV_of_owns hown)
        have HVK := Lib.hid hVk'
        rw [hVk']
        have HO6 := Lib.hid (rowLater HO.out hb6); have HB6 := Lib.hid (HB.out.trans (hb6.mono (Nat.le_of_lt hgz)))
        have hgz6 : gz < w6.heap.size := by have := hb6.size; omega
        clear hVk hVk' hown hb6 HO HB HX5 HR5 HU5 k0 k1 k2 k3 k4 k5 k6 k7 hgz
        have hVL : V0.length ≤ 20 := by rw [HVK.out]; omega
        have HVL := Lib.hid hVL
        have hb7 := below1' w6 (.cells #[.slice qv k capv, .slice qr nr capr] 23)
        have hx7 := Blk.new w6 [.slice qv k capv, .slice qr nr capr] 23
        change Blk (w6.alloc (.cells #[.slice qv k capv, .slice qr nr capr] 23)) _ _ at hx7
        have HB7 := Lib.hid (HB6.out.trans (hb7.mono (Nat.le_of_lt hgz6)))
        have HX7 := Lib.hid hx7; have HO7 := Lib.hid (rdX_of_owns (rowLater HO6.out hb7)); have HV7 := Lib.hid (HV6.out.next hb7)
        go_wp2_with fail
        have hgz7 : gz ≤ (w6.alloc (.cells #[.slice qv k capv, .slice qr nr capr] 23)).heap.size := by simp; omega
        clear hb7 hx7 HV6 HO6 HB6 hVL
        generalize w6.alloc (.cells #[.slice qv k capv, .slice qr nr capr] 23) = w7 at *
        generalize w6.heap.size = gv at *
        have HA7 : Hid (∀ W, Below w7.heap.size w7 W → Blk W g5 [.int .i64 b.fl, .int .i64 b.deb, .int .i64 b.room, .int .i64 b.park, .float .f64 b.em, .float .f64 b.fu, .float .f64 b.ov, .slice (some ⟨g, 0, none⟩) b.cars.length cap] ∧ RdC W (some ⟨g, 0, none⟩) b.cars ∧ RdX W (some ⟨gz, 0, none⟩) (csCells B) ∧ Below w.heap.size w W ∧ ∀ j : Nat, j < 2 → ∃ (V : List ViewV) (q : Option Addr) (c : Nat), V.length ≤ 20 ∧ W.cell? ⟨gv, j, none⟩ = some (.slice q V.length c) ∧ RdV W q V) := Lib.hid fun W h => by
          obtain ⟨a1, a2, _, a4, a5⟩ := HALL.out W (HB7.out.trans (h.mono hgz7))
          refine ⟨a1, a2, HO7.out.next h, a5, fun j hj => ?_⟩
          match j, hj with
          | 0, _ => exact ⟨V0, qv, capv, HVL.out, by rw [HVK.out]; exact (HX7.out.next h).cell 0 _ rfl, HV7.out.next h⟩
          | 1, _ => exact ⟨R, qr, capr, by rw [← HNR.out]; omega, by rw [← HNR.out]; exact (HX7.out.next h).cell 1 _ rfl, a4⟩
        clear HB7 HX7 HO7 HV7
        go_loopw [66] (fun v wr => ∃ j : Nat, j ≤ 2 ∧ v = .int .i64 j ∧ Below w7.heap.size w7 wr) (fun v _ => 2 - (intOf v).toNat)
        case atStart => exact ⟨0, by omega, rfl, Below.refl _ _⟩
        case round =>
          obtain ⟨j, hj2, rfl, hb⟩ := hrel
          have HB := Lib.hid hb
          clear hb
          by_cases hj : j < 2
          rotate_left 1
          · have d1 : decide ((j : Int) < 2) = false := by simp; omega
            have HW9 := Lib.hid ((HA7.out wr HB.out).2.2.2.1)
            go_wp2_with fail
            refine (sane23_any _).mono ?_
            rintro e w11 ⟨rfl, hb11⟩
            go_wp2_with fail
            go_ret
            exact ⟨rfl, HW9.out.trans (hb11.mono HW9.out.size)⟩
          · have d1 : decide ((j : Int) < 2) = true := by simp; omega
            obtain ⟨hX8, _, _, _, hVV⟩ := HA7.out wr HB.out
            obtain ⟨V, q, c, hVl, hcl, hrv⟩ := hVV j hj
            have HX8 := Lib.hid hX8; have HRV := Lib.hid hrv; have HVl := Lib.hid hVl
            obtain ⟨nv, hnv⟩ : ∃ nv, nv = V.length := ⟨_, rfl⟩
            rw [← hnv] at hcl hVl
            have HNV := Lib.hid hnv
            have hj0 : (0 : Int) ≤ (j : Int) := by omega
            have hj2' : (j : Int) < 2 := by omega
            clear hX8 hVV hrv hnv
            have k7 := HX8.out.cell 7 _ rfl
            rw [HK.out] at k7
            have hmk := run_mkC k (by omega)
            have hz8 := ownsC_made wr k wr.heap.size (Nat.le_refl _) (by omega)
            have ha8 := below1' wr (.cells (zerosC k) 33)
            have hb8 := below1' (wr.alloc (.cells (zerosC k) 33)) (.cells #[.slice (some ⟨gz, 0, none⟩) k k, .slice (some ⟨wr.heap.size, 0, none⟩) k k, .slice none 0 0] 30)
            have hx8 := Blk.new (wr.alloc (.cells (zerosC k) 33)) [.slice (some ⟨gz, 0, none⟩) k k, .slice (some ⟨wr.heap.size, 0, none⟩) k k, .slice none 0 0] 30
            change Blk ((wr.alloc (.cells (zerosC k) 33)).alloc (.cells #[.slice (some ⟨gz, 0, none⟩) k k, .slice (some ⟨wr.heap.size, 0, none⟩) k k, .slice none 0 0] 30)) _ _ at hx8
            rw [World.size_alloc] at hx8
            have HW8 := Lib.hid (ha8.trans (hb8.mono ha8.size))
            have HP8 := Lib.hid hx8; have HZ8 := Lib.hid (rdX_of_owns (rowLater hz8 hb8))
            go_wp2_with fail
            clear hz8 ha8 hb8 hx8 hmk k7 d1 hcl
            generalize (wr.alloc (.cells (zerosC k) 33)).alloc (.cells #[.slice (some ⟨gz, 0, none⟩) k k, .slice (some ⟨wr.heap.size, 0, none⟩) k k, .slice none 0 0] 30) = w8 at *
            have HA8 : Hid (∀ W, Below w8.heap.size w8 W → Blk W g5 [.int .i64 b.fl, .int .i64 b.deb, .int .i64 b.room, .int .i64 b.park, .float .f64 b.em, .float .f64 b.fu, .float .f64 b.ov, .slice (some ⟨g, 0, none⟩) b.cars.length cap] ∧ RdC W (some ⟨g, 0, none⟩) b.cars ∧ RdV W q V ∧ Below w7.heap.size w7 W ∧ ∀ t : Nat, t < 3 → ∃ (B' : List CS) (qb : Option Addr) (cb : Nat), W.cell? ⟨wr.heap.size + 1, t, none⟩ = some (.slice qb B'.length cb) ∧ RdX W qb (csCells B')) := Lib.hid fun W h => by
              have hwW := HW8.out.trans (h.mono HW8.out.size)
              have h7 := HB.out.trans (hwW.mono HB.out.size)
              obtain ⟨a1, a2, a3, _, _⟩ := HA7.out W h7
              refine ⟨a1, a2, HRV.out.next hwW, h7, fun t ht => ?_⟩
              match t, ht with
              | 0, _ => exact ⟨B, some ⟨gz, 0, none⟩, k, by rw [HBK.out]; exact (HP8.out.next h).cell 0 _ rfl, a3⟩
              | 1, _ => exact ⟨csZ k, some ⟨wr.heap.size, 0, none⟩, k, by rw [show (csZ k).length = k by simp [csZ]]; exact (HP8.out.next h).cell 1 _ rfl, HZ8.out.next h⟩
              | 2, _ => exact ⟨[], none, 0, (HP8.out.next h).cell 2 _ rfl, fun i u hu => by simp [csCells] at hu⟩
            generalize wr.heap.size + 1 = gp at *
            go_loopw [77] (fun v wr => ∃ t : Nat, t ≤ 3 ∧ v = .int .i64 t ∧ Below w8.heap.size w8 wr) (fun v _ => 3 - (intOf v).toNat)
            case atStart => exact ⟨0, by omega, rfl, Below.refl _ _⟩
            case round =>
              obtain ⟨t, ht3, rfl, hb⟩ := hrel
              have HB9 := Lib.hid hb
              clear hb
              by_cases ht : t < 3
              rotate_left 1
              · have d1 : decide ((t : Int) < 3) = false := by simp; omega
                have h7 := Lib.hid ((HA8.out _ HB9.out).2.2.2.1)
                go_wp2_with fail
                exact ⟨⟨j + 1, by omega, by go_num, h7.out⟩, by simp [intOf]; omega⟩
              · have d1 : decide ((t : Int) < 3) = true := by simp; omega
                obtain ⟨hX9, hr9, hv9, _, hPP⟩ := HA8.out _ HB9.out
                obtain ⟨B', qb, cb, hcl, hrx⟩ := hPP t ht
                obtain ⟨nb, hnb⟩ : ∃ nb, nb = B'.length := ⟨_, rfl⟩
                rw [← hnb] at hcl
                have HNB := Lib.hid hnb
                have HX9 := Lib.hid hX9; have HR9 := Lib.hid hr9; have HV9 := Lib.hid hv9; have HQ9 := Lib.hid hrx
                have ht0 : (0 : Int) ≤ (t : Int) := by omega
                have ht3' : (t : Int) < 3 := by omega
                clear hX9 hr9 hv9 hPP hrx hnb
                have k0 := (HX9.out).cell 0 _ rfl
                have k1 := (HX9.out).cell 1 _ rfl
                have k2 := (HX9.out).cell 2 _ rfl
                have k3 := (HX9.out).cell 3 _ rfl
                have k4 := (HX9.out).cell 4 _ rfl
                have k5 := (HX9.out).cell 5 _ rfl
                have k6 := (HX9.out).cell 6 _ rfl
                have k7 := (HX9.out).cell 7 _ rfl
                go_wp2_with fail
                have hh := light_any b (some ⟨g, 0, none⟩) cap V q c B' qb cb _ HL1.out HSL.out HR9.out HV9.out HQ9.out
                rw [← HNV.out, ← HNB.out] at hh
                have hFL := lightF_len b V B' (by have := HVl.out; omega)
                have hRF : Hid (∀ W, Below wr.heap.size wr W → Calls Try.prog 13 #[cvB b (some ⟨g, 0, none⟩) cap, .slice q nv c, .slice qb nb cb] W fun e w' => ∃ q1 c1 q2 c2, e = .returned (.tuple #[cvL (lightF b V B') q1 c1 q2 c2, .int .i64 (lightE b V B')]) ∧ w'.ownsRow W.heap.size 33 2 (.slice q1 (lightF b V B').lit.length c1) (lightF b V B').lit.length (csCells (lightF b V B').lit) ∧ w'.ownsRow W.heap.size 4 1 (.slice q2 (lightF b V B').gong.length c2) (lightF b V B').gong.length (boolCells (lightF b V B').gong) ∧ Below W.heap.size W w') := Lib.hid fun W h => by
                  have hh := refLight_any b (some ⟨g, 0, none⟩) cap V q c B' qb cb W HL1.out HSL.out (HR9.out.next h) (HV9.out.next h) (HQ9.out.next h)
                  rw [← HNV.out, ← HNB.out] at hh
                  exact hh
                generalize lightF b V B' = F at *
                generalize lightE b V B' = E at *
                have HFL := Lib.hid hFL
                clear hFL
                refine hh.mono ?_
                clear hh
                rintro e w10 ⟨q1, c1, q2, c2, rfl, ho1, ho2, hb10⟩
                have HX10 := Lib.hid (HX9.out.next hb10); have HB10 := Lib.hid (HB9.out.trans (hb10.mono HB9.out.size)); have HR10 := Lib.hid hb10
                have HO1 := Lib.hid (rdX_of_owns ho1); have HO2 := Lib.hid (rdX_of_owns ho2)
                clear ho1 ho2 hb10 HX9 k0 k1 k2 k3 k4 k5 k6 k7 d1 hcl
                go_upto_region 16 with fail
                have BG := Blk.new w10 [.slice q1 F.lit.length c1, .slice q2 F.gong.length c2, .int .u32 (F.clr.1.toNat : Int), .int .u32 (F.clr.2.toNat : Int)] 40
                have hbg := below1' w10 (.cells #[.slice q1 F.lit.length c1, .slice q2 F.gong.length c2, .int .u32 (F.clr.1.toNat : Int), .int .u32 (F.clr.2.toNat : Int)] 40)
                change Blk (w10.alloc (.cells #[.slice q1 F.lit.length c1, .slice q2 F.gong.length c2, .int .u32 (F.clr.1.toNat : Int), .int .u32 (F.clr.2.toNat : Int)] 40)) _ _ at BG
                have HGA := Lib.hid BG
                have HX11 := Lib.hid (HX10.out.next hbg); have HB11 := Lib.hid (HB10.out.trans (hbg.mono HB10.out.size)); have HR11 := Lib.hid (HR10.out.trans (hbg.mono HR10.out.size)); have HO111 := Lib.hid (HO1.out.next hbg); have HO211 := Lib.hid (HO2.out.next hbg)
                clear BG hbg HX10 HB10 HR10 HO1 HO2
                generalize w10.alloc (.cells #[.slice q1 F.lit.length c1, .slice q2 F.gong.length c2, .int .u32 (F.clr.1.toNat : Int), .int .u32 (F.clr.2.toNat : Int)] 40) = w11 at *
                generalize w10.heap.size = ga at *
                have k0 := (HX11.out).cell 0 _ rfl
                have k1 := (HX11.out).cell 1 _ rfl
                have k2 := (HX11.out).cell 2 _ rfl
                have k3 := (HX11.out).cell 3 _ rfl
                have k4 := (HX11.out).cell 4 _ rfl
                have k5 := (HX11.out).cell 5 _ rfl
                have k6 := (HX11.out).cell 6 _ rfl
                have k7 := (HX11.out).cell 7 _ rfl
                go_wp2_with fail
                refine (hRF.out w11 HR11.out).mono ?_
                rintro e w12 ⟨q3, c3, q4, c4, rfl, ho3, ho4, hb12⟩
                have HGA12 := Lib.hid (HGA.out.next hb12); have HB12 := Lib.hid (HB11.out.trans (hb12.mono HB11.out.size)); have HO112 := Lib.hid (HO111.out.next hb12); have HO212 := Lib.hid (HO211.out.next hb12)
                have HO3 := Lib.hid (rdX_of_owns ho3); have HO4 := Lib.hid (rdX_of_owns ho4)
                clear ho3 ho4 hb12 HX11 HGA HB11 HR11 HO111 HO211 hRF HR9 HV9 HQ9 k0 k1 k2 k3 k4 k5 k6 k7
                go_upto_region 17 with fail
                have BG := Blk.new w12 [.slice q3 F.lit.length c3, .slice q4 F.gong.length c4, .int .u32 (F.clr.1.toNat : Int), .int .u32 (F.clr.2.toNat : Int)] 40
                have hbg := below1' w12 (.cells #[.slice q3 F.lit.length c3, .slice q4 F.gong.length c4, .int .u32 (F.clr.1.toNat : Int), .int .u32 (F.clr.2.toNat : Int)] 40)
                change Blk (w12.alloc (.cells #[.slice q3 F.lit.length c3, .slice q4 F.gong.length c4, .int .u32 (F.clr.1.toNat : Int), .int .u32 (F.clr.2.toNat : Int)] 40)) _ _ at BG
                have HGB := Lib.hid BG
                have HGA13 := Lib.hid (HGA12.out.next hbg); have HB13 := Lib.hid (HB12.out.trans (hbg.mono HB12.out.size)); have HO113 := Lib.hid (HO112.out.next hbg); have HO213 := Lib.hid (HO212.out.next hbg); have HO313 := Lib.hid (HO3.out.next hbg); have HO413 := Lib.hid (HO4.out.next hbg)
                clear BG hbg HGA12 HB12 HO112 HO212 HO3 HO4
                generalize w12.alloc (.cells #[.slice q3 F.lit.length c3, .slice q4 F.gong.length c4, .int .u32 (F.clr.1.toNat : Int), .int .u32 (F.clr.2.toNat : Int)] 40) = w13 at *
                generalize w12.heap.size = gb at *
                have s0 := (HGA13.out).reg 0 _ rfl
                have s1 := (HGA13.out).reg 1 _ rfl
                have s2 := (HGA13.out).reg 2 _ rfl
                have s3 := (HGA13.out).reg 3 _ rfl
                have u0 := (HGB.out).reg 0 _ rfl
                have u1 := (HGB.out).reg 1 _ rfl
                have u2 := (HGB.out).reg 2 _ rfl
                have u3 := (HGB.out).reg 3 _ rfl
                have HSS := Lib.hid (lanB_self F)
                have HNI : Hid (∀ W, RdX W none (csCells lan0.lit) ∧ RdX W none (boolCells lan0.gong)) := Lib.hid fun W => ⟨fun i u hu => by simp [lan0, csCells] at hu, fun i u hu => by simp [lan0, boolCells] at hu⟩
                (refine Grow.wp_region Grow.noPlan Grow.noPlan_stable (by kernel_rfl) (by kernel_rfl) ?_; intro opsq Hopsq)
                repeat (first | (refine Grow.lex_move rfl ?_ rfl ?_; (· first | exact Grow.wanted_none | (rw [Hopsq.out]; rfl)); intro K hK; simp only [Grow.put_lit, Grow.setAt, Grow.eval_lit, Grow.ev]; refine hK _ _ ?_; clear hK K) | (refine Grow.lex_assign rfl ?_ rfl ?_; (· first | exact Grow.wanted_none | (rw [Hopsq.out]; rfl)); intro K hK; simp only [Grow.put_lit, Grow.setAt, Grow.eval_lit, Grow.ev]; refine hK _ _ ?_; clear hK K) | (refine Grow.lex_plain rfl rfl ?_ rfl ?_; (· first | exact Grow.wanted_none | (rw [Hopsq.out]; rfl)); apply Exists.intro; refine ⟨fun wq hCq _ => ?_, ?_⟩; (· (go_wp2_with fail; refine ⟨rfl, Below.refl _ _, ?_⟩; simp only [Grow.getD_lit, Grow.nth]; rfl)); intro K hK; simp only [Grow.put_lit, Grow.setAt]; refine hK _ _ ?_; clear hK K) | (refine Grow.lex_nilCheck rfl rfl ?_ rfl ?_; (· first | exact Grow.wanted_none | (rw [Hopsq.out]; rfl)); intro K hK; simp only [Grow.put_lit, Grow.setAt]; refine hK _ _ ?_; clear hK K) | (refine Grow.lex_skip ?_ ?_; (· (rw [Hopsq.out]; rfl)); intro K hK; simp only [Grow.put_lit, Grow.setAt]; refine hK _ _ ?_; clear hK K))
                (refine Grow.lex_call ?_ rfl ?_; (· first | exact Grow.wanted_none | (rw [Hopsq.out]; rfl)); apply Exists.intro; apply Exists.intro; refine ⟨fun wq => ?_, ?_⟩; (· (go_simp; exact ⟨rfl, rfl⟩)); apply Exists.intro; refine ⟨fun wq hCq hKq => ?_, ?_⟩; (· exact calls_bool (refLanSame_any F q1 c1 q2 c2 F q3 c3 q4 c4 _ HFL.out.1 HFL.out.2 (HO113.out.next (Grow.Cl.base hCq)) (HO213.out.next (Grow.Cl.base hCq)) (HO313.out.next (Grow.Cl.base hCq)) (HO413.out.next (Grow.Cl.base hCq))) HSS.out); intro K hK; simp only [Grow.put_lit, Grow.setAt]; refine hK _ _ ?_; clear hK K)
                repeat (first | (refine Grow.lex_move rfl ?_ rfl ?_; (· first | exact Grow.wanted_none | (rw [Hopsq.out]; rfl)); intro K hK; simp only [Grow.put_lit, Grow.setAt, Grow.eval_lit, Grow.ev]; refine hK _ _ ?_; clear hK K) | (refine Grow.lex_assign rfl ?_ rfl ?_; (· first | exact Grow.wanted_none | (rw [Hopsq.out]; rfl)); intro K hK; simp only [Grow.put_lit, Grow.setAt, Grow.eval_lit, Grow.ev]; refine hK _ _ ?_; clear hK K) | (refine Grow.lex_plain rfl rfl ?_ rfl ?_; (· first | exact Grow.wanted_none | (rw [Hopsq.out]; rfl)); apply Exists.intro; refine ⟨fun wq hCq _ => ?_, ?_⟩; (· (go_wp2_with fail; refine ⟨rfl, Below.refl _ _, ?_⟩; simp only [Grow.getD_lit, Grow.nth]; rfl)); intro K hK; simp only [Grow.put_lit, Grow.setAt]; refine hK _ _ ?_; clear hK K) | (refine Grow.lex_nilCheck rfl rfl ?_ rfl ?_; (· first | exact Grow.wanted_none | (rw [Hopsq.out]; rfl)); intro K hK; simp only [Grow.put_lit, Grow.setAt]; refine hK _ _ ?_; clear hK K) | (refine Grow.lex_skip ?_ ?_; (· (rw [Hopsq.out]; rfl)); intro K hK; simp only [Grow.put_lit, Grow.setAt]; refine hK _ _ ?_; clear hK K))
                (refine Grow.lex_call ?_ rfl ?_; (· first | exact Grow.wanted_none | (rw [Hopsq.out]; rfl)); apply Exists.intro; apply Exists.intro; refine ⟨fun wq => ?_, ?_⟩; (· (go_simp; exact ⟨rfl, rfl⟩)); apply Exists.intro; refine ⟨fun wq hCq hKq => ?_, ?_⟩; (· exact calls_bool (lanSame_any F q1 c1 q2 c2 F q3 c3 q4 c4 _ HFL.out.1 HFL.out.2 (HO113.out.next (Grow.Cl.base hCq)) (HO213.out.next (Grow.Cl.base hCq)) (HO313.out.next (Grow.Cl.base hCq)) (HO413.out.next (Grow.Cl.base hCq))) HSS.out); intro K hK; simp only [Grow.put_lit, Grow.setAt]; refine hK _ _ ?_; clear hK K)
                repeat (first | (refine Grow.lex_move rfl ?_ rfl ?_; (· first | exact Grow.wanted_none | (rw [Hopsq.out]; rfl)); intro K hK; simp only [Grow.put_lit, Grow.setAt, Grow.eval_lit, Grow.ev]; refine hK _ _ ?_; clear hK K) | (refine Grow.lex_assign rfl ?_ rfl ?_; (· first | exact Grow.wanted_none | (rw [Hopsq.out]; rfl)); intro K hK; simp only [Grow.put_lit, Grow.setAt, Grow.eval_lit, Grow.ev]; refine hK _ _ ?_; clear hK K) | (refine Grow.lex_plain rfl rfl ?_ rfl ?_; (· first | exact Grow.wanted_none | (rw [Hopsq.out]; rfl)); apply Exists.intro; refine ⟨fun wq hCq _ => ?_, ?_⟩; (· (go_wp2_with fail; refine ⟨rfl, Below.refl _ _, ?_⟩; simp only [Grow.getD_lit, Grow.nth]; rfl)); intro K hK; simp only [Grow.put_lit, Grow.setAt]; refine hK _ _ ?_; clear hK K) | (refine Grow.lex_nilCheck rfl rfl ?_ rfl ?_; (· first | exact Grow.wanted_none | (rw [Hopsq.out]; rfl)); intro K hK; simp only [Grow.put_lit, Grow.setAt]; refine hK _ _ ?_; clear hK K) | (refine Grow.lex_skip ?_ ?_; (· (rw [Hopsq.out]; rfl)); intro K hK; simp only [Grow.put_lit, Grow.setAt]; refine hK _ _ ?_; clear hK K))
                (refine Grow.lex_call ?_ rfl ?_; (· first | exact Grow.wanted_none | (rw [Hopsq.out]; rfl)); apply Exists.intro; apply Exists.intro; refine ⟨fun wq => ?_, ?_⟩; (· (go_simp; exact ⟨rfl, rfl⟩)); apply Exists.intro; refine ⟨fun wq hCq hKq => ?_, ?_⟩; (· exact lanSame_any F q1 c1 q2 c2 lan0 none 0 none 0 _ HFL.out.1 HFL.out.2 (HO113.out.next (Grow.Cl.base hCq)) (HO213.out.next (Grow.Cl.base hCq)) (HNI.out _).1 (HNI.out _).2); intro K hK; simp only [Grow.put_lit, Grow.setAt]; refine hK _ _ ?_; clear hK K)
                repeat (first | (refine Grow.lex_move rfl ?_ rfl ?_; (· first | exact Grow.wanted_none | (rw [Hopsq.out]; rfl)); intro K hK; simp only [Grow.put_lit, Grow.setAt, Grow.eval_lit, Grow.ev]; refine hK _ _ ?_; clear hK K) | (refine Grow.lex_assign rfl ?_ rfl ?_; (· first | exact Grow.wanted_none | (rw [Hopsq.out]; rfl)); intro K hK; simp only [Grow.put_lit, Grow.setAt, Grow.eval_lit, Grow.ev]; refine hK _ _ ?_; clear hK K) | (refine Grow.lex_plain rfl rfl ?_ rfl ?_; (· first | exact Grow.wanted_none | (rw [Hopsq.out]; rfl)); apply Exists.intro; refine ⟨fun wq hCq _ => ?_, ?_⟩; (· (go_wp2_with fail; refine ⟨rfl, Below.refl _ _, ?_⟩; simp only [Grow.getD_lit, Grow.nth]; rfl)); intro K hK; simp only [Grow.put_lit, Grow.setAt]; refine hK _ _ ?_; clear hK K) | (refine Grow.lex_nilCheck rfl rfl ?_ rfl ?_; (· first | exact Grow.wanted_none | (rw [Hopsq.out]; rfl)); intro K hK; simp only [Grow.put_lit, Grow.setAt]; refine hK _ _ ?_; clear hK K) | (refine Grow.lex_skip ?_ ?_; (· (rw [Hopsq.out]; rfl)); intro K hK; simp only [Grow.put_lit, Grow.setAt]; refine hK _ _ ?_; clear hK K))
                (refine Grow.lex_call ?_ rfl ?_; (· first | exact Grow.wanted_none | (rw [Hopsq.out]; rfl)); apply Exists.intro; apply Exists.intro; refine ⟨fun wq => ?_, ?_⟩; (· (go_simp; exact ⟨rfl, rfl⟩)); apply Exists.intro; refine ⟨fun wq hCq hKq => ?_, ?_⟩; (· exact refLanSame_any F q3 c3 q4 c4 lan0 none 0 none 0 _ HFL.out.1 HFL.out.2 (HO313.out.next (Grow.Cl.base hCq)) (HO413.out.next (Grow.Cl.base hCq)) (HNI.out _).1 (HNI.out _).2); intro K hK; simp only [Grow.put_lit, Grow.setAt]; refine hK _ _ ?_; clear hK K)
                repeat (first | (refine Grow.lex_move rfl ?_ rfl ?_; (· first | exact Grow.wanted_none | (rw [Hopsq.out]; rfl)); intro K hK; simp only [Grow.put_lit, Grow.setAt, Grow.eval_lit, Grow.ev]; refine hK _ _ ?_; clear hK K) | (refine Grow.lex_assign rfl ?_ rfl ?_; (· first | exact Grow.wanted_none | (rw [Hopsq.out]; rfl)); intro K hK; simp only [Grow.put_lit, Grow.setAt, Grow.eval_lit, Grow.ev]; refine hK _ _ ?_; clear hK K) | (refine Grow.lex_plain rfl rfl ?_ rfl ?_; (· first | exact Grow.wanted_none | (rw [Hopsq.out]; rfl)); apply Exists.intro; refine ⟨fun wq hCq _ => ?_, ?_⟩; (· (go_wp2_with fail; refine ⟨rfl, Below.refl _ _, ?_⟩; simp only [Grow.getD_lit, Grow.nth]; rfl)); intro K hK; simp only [Grow.put_lit, Grow.setAt]; refine hK _ _ ?_; clear hK K) | (refine Grow.lex_nilCheck rfl rfl ?_ rfl ?_; (· first | exact Grow.wanted_none | (rw [Hopsq.out]; rfl)); intro K hK; simp only [Grow.put_lit, Grow.setAt]; refine hK _ _ ?_; clear hK K) | (refine Grow.lex_skip ?_ ?_; (· (rw [Hopsq.out]; rfl)); intro K hK; simp only [Grow.put_lit, Grow.setAt]; refine hK _ _ ?_; clear hK K))
                (refine Grow.lex_nil ?_; intro w14 hb14 _; replace hb14 := Grow.Cl.base hb14; clear Hopsq opsq)
                have HB14 := Lib.hid (HB13.out.trans (hb14.mono HB13.out.size))
                clear hb14 s0 s1 s2 s3 u0 u1 u2 u3
                go_wp2_with fail
                exact ⟨⟨t + 1, by omega, by go_num, HB14.out⟩, by simp [intOf]; omega⟩
set_option maxHeartbeats 1000000 in
set_option maxRecDepth 100000 in
theorem lanternLights_lifted (os : Os) (started : os.Started) (H : Type) (enc : TypeId × Value → H) :
    ReturnsInHanded {} Try.checked os 3 .any (Rows.lanternLightsSpec.pre6 enc Try.prog Try.f3 Rows.lanternLightsRow.domain false) (Rows.lanternLightsSpec.post enc Try.prog Try.f3 false true false false) := by
  refine law_lifted (C := Try.checked) own laidOut started (by kernel_rfl) Try.func3 4 rfl Try.underlying4 (by kernel_rfl) rfl H enc
    (fun ds h => by match ds, h with | [d0, d1, d2], _ => rfl)
    (ChangeSpec.witness6 (enc := enc) (C := Try.checked) false ⟨#[], #[.int .u8 0, .slice none 0 0, .slice none 0 0], []⟩ 8 (by kernel_rfl) (by kernel_rfl) (by kernel_rfl) (by kernel_rfl)) ?_
  intro W base args ds ps hval hA hsz
  have hA' : DataW.TrodAll enc Try.prog W 0 (fun _ => true) true Try.f3.params.toList args.toList ds ps := hA
  have hval' : ∀ (j : Nat) t v, Try.f3.params[j]? = some t → args[j]? = some v → Value.okWide Try.prog W .any base t v := hval
  rw [Try.params3] at hA' hval'
  obtain ⟨v0, vs0, d0, ds0, p0, q0, hargs, rfl, rfl, h0, r0⟩ := trodAll_cons hA'
  obtain ⟨v1, vs1, d1, ds1, p1, q1, rfl, rfl, rfl, h1, r1⟩ := trodAll_cons r0
  obtain ⟨v2, vs2, d2, ds2, p2, q2, rfl, rfl, rfl, h2, r2⟩ := trodAll_cons r1
  obtain ⟨rfl, rfl, rfl⟩ := trodAll_nil r2
  obtain rfl : args = #[v0, v1, v2] := by cases args; simp_all
  obtain ⟨x0, rfl, rfl, rfl, wx0⟩ := open_int Try.underlying5 (hval' 0 5 v0 rfl rfl) h0
  obtain ⟨l1, q1x, cap1, rfl, hl1, hu1⟩ := open_u8s (hval' 1 22 v1 rfl rfl) h1
  obtain ⟨R2, q2x, cap2, rfl, hl2, hr2⟩ := open_views (hval' 2 23 v2 rfl rfl) h2
  (obtain ⟨m0, rfl, hm0⟩ := u8_wf wx0; exact lanternLights_walk m0 l1 q1x cap1 R2 q2x cap2 W hm0 hl1 hu1 hl2 hr2)

theorem lanternLights_over : Rows.lanternLightsRow.holds Try.pinned (OpenSpec.ofChange Rows.lanternLightsSpec) :=
  OpenClaim.holds_of_wide 3 Try.f3 rfl rfl rfl rfl rfl rfl rfl ⟨rfl, rfl, rfl, rfl, rfl⟩ rfl rfl rfl rfl rfl (by kernel_rfl) Try.func3 (by kernel_rfl)
    (of_decide_eq_true (by kernel_rfl)) (by unfold Func.isWrapper; first | (rw [if_pos (by decide +kernel)]; kernel_rfl) | (rw [if_neg (by decide +kernel)]; exact ⟨rfl, rfl⟩))
    (fun os started H enc _ => lanternLights_lifted os started H enc)

/-- THE STATEMENT. -/
theorem lanternLights_holds : Rows.LanternLightsSaid := lanternLights_over
#print axioms lanternLights_holds
end Go.Proofs.Ytpgcpalemnnbaaa
