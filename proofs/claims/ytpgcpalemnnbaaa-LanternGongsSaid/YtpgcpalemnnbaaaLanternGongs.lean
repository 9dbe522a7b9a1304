/- LanternGongs: a gong sounds once for each time that a lantern is lit. Conditions: none. -/
import Derived.Test.YtpgcpalemnnbaaaGongLaw
import Derived.Test.YtpgcpalemnnbaaaSane23
import Derived.Test.YtpgcpalemnnbaaaPlans
import Derived.Test.YtpgcpalemnnbaaaArgsU
namespace Go.Proofs.Ytpgcpalemnnbaaa
open Go.ChangeShapes Go.WideShapes Go.ChangeAt Go.RowKit
attribute [local go_sem ↓] run_neq_cs run_eql_cs
attribute [local go_sem] run_store_float
/-- Views that numbers make, wherever they lie. -/
def viewsR (fl : Int) (l : List Nat) (k : Nat) (v : Value) (w : World) : Prop := ∃ V q c, v = .slice q k c ∧ V.length = k ∧ (∀ (i : Nat) m, V[i]? = some m → m.sv = svL l i ∧ m.sh = shL fl l i) ∧ RdV w q V
theorem viewsR_stable (fl : Int) (l : List Nat) (k : Nat) (v : Value) : Grow.Stable (viewsR fl l k v) := fun _ _ ⟨V, q, c, h1, h2, h3, h4⟩ hb => ⟨V, q, c, h1, h2, h3, h4.next hb⟩
theorem viewsR_form {fl : Int} {l : List Nat} {k : Nat} {v : Value} {w : World} (h : viewsR fl l k v w) : ∃ q c, v = .slice q k c := by
  obtain ⟨V, q, c, h1, _⟩ := h
  exact ⟨q, c, h1⟩
theorem viewsR_out {fl : Int} {l : List Nat} {k c : Nat} {q : Option Addr} {w : World} (h : viewsR fl l k (.slice q k c) w) : ∃ V, V.length = k ∧ (∀ (i : Nat) m, V[i]? = some m → m.sv = svL l i ∧ m.sh = shL fl l i) ∧ RdV w q V := by
  obtain ⟨V, q', c', h1, h2, h3, h4⟩ := h
  simp at h1
  obtain ⟨rfl, rfl⟩ := h1
  exact ⟨V, h2, h3, h4⟩
set_option maxHeartbeats 8000000 in
set_option maxRecDepth 100000 in
theorem lanternGongs_walk (n : Nat) (l : List Nat) (ql : Option Addr) (capl : Nat) (w : World) (hn : n < 256) (hl : l.length ≤ maxLen) (hu : RdU w ql l) (hcl : l.length ≤ capl) :
    Calls Try.prog 5 #[.int .u8 n, .slice ql l.length capl] w fun e w' => e = .returned (.bool true) ∧ Below w.heap.size w w' := by
  have HL := Lib.hid hl; have HU := Lib.hid hu
  clear hl hu
  go_enter Try.func5, Try.ntmps5
  go_wp2_with fail
  have hB := b10_any n 200 w hn (by omega)
  change Calls _ _ #[.int .u8 n, .int .u8 200] _ _ at hB
  refine hB.mono ?_
  clear hB
  rintro e w1 ⟨g, cap, rfl, hg0, hg1, hr, hb⟩
  have hlc : (b10 n 200).cars.length = k10 n := cars10_len n 200
  have hkr := k10_range n
  have HSL := Lib.hid (slack10 n 200)
  have HF2 : Hid (2 ≤ (b10 n 200).fl ∧ (b10 n 200).fl ≤ 8) := Lib.hid (fl10_range n)
  have HVA := Lib.hid (valid10 n 200 (by omega))
  obtain ⟨k, hk⟩ : ∃ k, k10 n = k := ⟨_, rfl⟩
  rw [hk] at hlc hkr
  have HK := Lib.hid hlc
  have HR1 := Lib.hid hr; have HB1 := Lib.hid hb
  have HU1 := Lib.hid (HU.out.next hb)
  clear hr hb hlc hk HU
  generalize b10 n 200 = b at *
  go_upto_region 2 with fail
  have B5 := Blk.new w1 [.int .i64 b.fl, .int .i64 b.deb, .int .i64 b.room, .int .i64 b.park, .float .f64 b.em, .float .f64 b.fu, .float .f64 b.ov, .slice (some ⟨g, 0, none⟩) b.cars.length cap] 28
  have hb5 := below1' w1 (.cells #[.int .i64 b.fl, .int .i64 b.deb, .int .i64 b.room, .int .i64 b.park, .float .f64 b.em, .float .f64 b.fu, .float .f64 b.ov, .slice (some ⟨g, 0, none⟩) b.cars.length cap] 28)
  change Blk (w1.alloc (.cells #[.int .i64 b.fl, .int .i64 b.deb, .int .i64 b.room, .int .i64 b.park, .float .f64 b.em, .float .f64 b.fu, .float .f64 b.ov, .slice (some ⟨g, 0, none⟩) b.cars.length cap] 28)) _ _ at B5
  have HW2 := Lib.hid (HB1.out.trans (hb5.mono HB1.out.size))
  have HR2 := Lib.hid (HR1.out.next hb5)
  have HU2 := Lib.hid (HU1.out.next hb5)
  have HX2 := Lib.hid B5
  clear B5 hb5 HB1 HR1 HU1
  generalize w1.alloc (.cells #[.int .i64 b.fl, .int .i64 b.deb, .int .i64 b.room, .int .i64 b.park, .float .f64 b.em, .float .f64 b.fu, .float .f64 b.ov, .slice (some ⟨g, 0, none⟩) b.cars.length cap] 28) = w2 at *
  generalize w1.heap.size = g5 at *
  have k0 := (HX2.out).cell 0 _ rfl
  have k1 := (HX2.out).cell 1 _ rfl
  have k2 := (HX2.out).cell 2 _ rfl
  have k3 := (HX2.out).cell 3 _ rfl
  have k4 := (HX2.out).cell 4 _ rfl
  have k5 := (HX2.out).cell 5 _ rfl
  have k6 := (HX2.out).cell 6 _ rfl
  have k7 := (HX2.out).cell 7 _ rfl
  rw [HK.out] at k7
  have hmk := run_mkC k (by omega)
  have HO3 := Lib.hid (ownsC_made w2 k w2.heap.size (Nat.le_refl _) (by omega))
  have hbm := below1' w2 (.cells (zerosC k) 33)
  have HW3 := Lib.hid (HW2.out.trans (hbm.mono HW2.out.size)); have HR3 := Lib.hid (HR2.out.next hbm); have HX3 := Lib.hid (HX2.out.next hbm); have HU3 := Lib.hid (HU2.out.next hbm)
  go_upto_region 3 with fail
  clear hbm HW2 HR2 HX2 HU2 k0 k1 k2 k3 k4 k5 k6 k7 hmk
  generalize w2.alloc (.cells (zerosC k) 33) = w3 at *
  generalize w2.heap.size = gz at *
  obtain ⟨N, hN⟩ : ∃ N, N = l.length := ⟨_, rfl⟩
  rw [← hN] at hcl ⊢
  have HNL := Lib.hid hN
  have hNm : N ≤ 9223372036854775807 := by have := HL.out; unfold maxLen at this; omega
  clear hN
  have HL1 : Hid (b.cars.length ≤ 1000) := Lib.hid (by rw [HK.out]; omega)
  have HALL : Hid (∀ W, Below w3.heap.size w3 W → Blk W g5 [.int .i64 b.fl, .int .i64 b.deb, .int .i64 b.room, .int .i64 b.park, .float .f64 b.em, .float .f64 b.fu, .float .f64 b.ov, .slice (some ⟨g, 0, none⟩) b.cars.length cap] ∧ RdC W (some ⟨g, 0, none⟩) b.cars ∧ RdU W ql l) := Lib.hid fun W h => ⟨HX3.out.next h, HR3.out.next h, HU3.out.next h⟩
  have HZ3 : Hid (RdX w3 (some ⟨gz, 0, none⟩) (csCells (csZ k))) := Lib.hid (rdX_of_owns HO3.out)
  clear HR3 HX3 HU3 HO3
  go_wp2_with fail
  go_loopw [6, 7] (fun v6 v7 wr => ∃ (i : Nat) (B : List CS) (qb : Option Addr) (cb : Nat), i ≤ N ∧ i ≤ 40 ∧ v7 = .int .i64 i ∧ v6 = .slice qb k cb ∧ B.length = k ∧ (0 < i % 3 → B = litL b (l.drop (i / 3 * 3)) k) ∧ RdX wr qb (csCells B) ∧ Below w3.heap.size w3 wr) (fun _ v _ => 40 - (intOf v).toNat)
  case atStart => exact ⟨0, csZ k, some ⟨gz, 0, none⟩, k, by omega, by omega, rfl, rfl, by simp [csZ], fun h => by omega, HZ3.out, Below.refl _ _⟩
  case round =>
    clear HZ3
    obtain ⟨i, B, qb, cb, hiN, hi40, rfl, rfl, hBk, hBl, hrb, hb⟩ := hrel
    have HB := Lib.hid hb; have HRB := Lib.hid hrb; have HBK := Lib.hid hBk; have HBL := Lib.hid hBl
    clear hb hrb hBk hBl
    by_cases hlt : i < N ∧ i < 40
    rotate_left 1
    · have h2 : (N : Int) ≤ (i : Int) ∨ ((i : Int) < (N : Int) ∧ (40 : Int) ≤ (i : Int)) := by omega
      have HW9 := Lib.hid (HW3.out.trans (HB.out.mono HW3.out.size))
      clear hlt
      rcases h2 with h2 | ⟨h2, h3⟩
      all_goals
        go_wp2_with fail
        refine (sane23_any _).mono ?_
        rintro e w11 ⟨rfl, hb11⟩
        go_wp2_with fail
        go_ret
        exact ⟨rfl, HW9.out.trans (hb11.mono HW9.out.size)⟩
    · obtain ⟨h1, h4⟩ := hlt
      have d1 : decide ((i : Int) < (N : Int)) = true := by simp; omega
      have d2 : decide ((i : Int) < 40) = true := by simp; omega
      obtain ⟨A, hqA⟩ : ∃ A, ql = some A := by
        obtain ⟨x, hx⟩ : ∃ x, l[i]? = some x := ⟨_, List.getElem?_eq_getElem (by rw [← HNL.out]; exact h1)⟩
        obtain ⟨_, A, hA, _⟩ := (HALL.out wr HB.out).2.2 i x hx
        exact ⟨A, hA⟩
      subst hqA
      obtain ⟨hX5, hr5, hu5⟩ := HALL.out wr HB.out
      have HX5 := Lib.hid hX5; have HR5 := Lib.hid hr5
      obtain ⟨lo, hlo⟩ : ∃ lo, i / 3 * 3 = lo := ⟨_, rfl⟩
      have HU5 : Hid (RdU wr (some (A.add lo)) (l.drop lo)) := Lib.hid (hu5.drop lo)
      have hli : (i : Int) / 3 * 3 = (lo : Int) := by omega
      have hlo1 : lo ≤ i := by omega
      have hloN : (lo : Int) < (N : Int) := by omega
      have hloc : (lo : Int) < (capl : Int) := by omega
      have hlo0 : (0 : Int) ≤ (lo : Int) := by omega
      have HLO := Lib.hid hlo
      have hi0 : (0 : Int) ≤ (i : Int) := by omega
      clear hX5 hr5 hu5 hlo
      go_upto_region 6 with fail
      clear d1 d2
      have k0 := (HX5.out).reg 0 _ rfl
      have k1 := (HX5.out).reg 1 _ rfl
      have k2 := (HX5.out).reg 2 _ rfl
      have k3 := (HX5.out).reg 3 _ rfl
      have k4 := (HX5.out).reg 4 _ rfl
      have k5 := (HX5.out).reg 5 _ rfl
      have k6 := (HX5.out).reg 6 _ rfl
      have k7 := (HX5.out).reg 7 _ rfl
      have hVW : Hid (∀ W, Below wr.heap.size wr W → Calls Try.prog 11 #[cvB b (some ⟨g, 0, none⟩) cap, .slice (some (A.add lo)) (N - lo) (capl - lo)] W fun e w' => ∃ v, e = .returned v ∧ Below W.heap.size W w' ∧ viewsR b.fl (l.drop lo) k v w') := Lib.hid fun W h => by
        have hh := views23_any b (some ⟨g, 0, none⟩) cap (l.drop lo) (some (A.add lo)) (capl - lo) W (by rw [HK.out]; omega) (by have := HL.out; rw [List.length_drop]; omega) HF2.out.1 (by have := HF2.out.2; omega) (HU5.out.next h)
        rw [List.length_drop, ← HNL.out] at hh
        refine hh.mono ?_
        rintro e w' ⟨v, V, rfl, h1, h2, h3, h4⟩
        obtain ⟨q, c, rfl⟩ := row_form h3
        rw [h1, HK.out] at h3
        exact ⟨_, rfl, h4, V, q, c, by rw [h1, HK.out], by rw [h1, HK.out], h2, rdV_of_owns h3⟩
      have hst := rPlan_stable 6 (viewsR b.fl (l.drop lo) k) (viewsR_stable _ _ _)
      refine Grow.wp_region (rPlan 6 (viewsR b.fl (l.drop lo) k)) hst (by kernel_rfl) (by kernel_rfl) ?_
      clear hst
      intro opsq Hopsq
      repeat (first | (refine Grow.lex_move rfl ?_ rfl ?_; (· first | exact Grow.wanted_none | (rw [Hopsq.out]; rfl)); intro K hK; simp only [Grow.put_lit, Grow.setAt, Grow.eval_lit, Grow.ev]; refine hK _ _ ?_; clear hK K) | (refine Grow.lex_assign rfl ?_ rfl ?_; (· first | exact Grow.wanted_none | (rw [Hopsq.out]; rfl)); intro K hK; simp only [Grow.put_lit, Grow.setAt, Grow.eval_lit, Grow.ev]; refine hK _ _ ?_; clear hK K) | (refine Grow.lex_plain rfl rfl ?_ rfl ?_; (· first | exact Grow.wanted_none | (rw [Hopsq.out]; rfl)); apply Exists.intro; refine ⟨fun wq hCq _ => ?_, ?_⟩; (· (go_wp2_with fail; refine ⟨rfl, Below.refl _ _, ?_⟩; simp only [Grow.getD_lit, Grow.nth]; rfl)); intro K hK; simp only [Grow.put_lit, Grow.setAt]; refine hK _ _ ?_; clear hK K) | (refine Grow.lex_nilCheck rfl rfl ?_ rfl ?_; (· first | exact Grow.wanted_none | (rw [Hopsq.out]; rfl)); intro K hK; simp only [Grow.put_lit, Grow.setAt]; refine hK _ _ ?_; clear hK K) | (refine Grow.lex_skip ?_ ?_; (· (rw [Hopsq.out]; rfl)); intro K hK; simp only [Grow.put_lit, Grow.setAt]; refine hK _ _ ?_; clear hK K))
      (refine Grow.lex_callR (r := (fun _ v w => viewsR b.fl (l.drop lo) k v w)) ?_ rfl ?_; (· first | exact Grow.wanted_none | (rw [Hopsq.out]; rfl)); apply Exists.intro; apply Exists.intro; refine ⟨fun wq => ?_, ?_, ?_⟩; (· (go_simp; exact ⟨rfl, rfl⟩)); (· (intro wq hCq hKq; exact hVW.out _ (Grow.Cl.base hCq))); intro vq hWq; obtain ⟨_, _, hTT⟩ := hWq; obtain ⟨qv, cw, hvq⟩ := viewsR_form (Grow.Holds.of_upd hTT).2; subst hvq; clear hTT; intro K hK; simp only [Grow.put_lit, Grow.setAt]; refine hK _ _ ?_; clear hK K)
      repeat (first | (refine Grow.lex_move rfl ?_ rfl ?_; (· first | exact Grow.wanted_none | (rw [Hopsq.out]; rfl)); intro K hK; simp only [Grow.put_lit, Grow.setAt, Grow.eval_lit, Grow.ev]; refine hK _ _ ?_; clear hK K) | (refine Grow.lex_assign rfl ?_ rfl ?_; (· first | exact Grow.wanted_none | (rw [Hopsq.out]; rfl)); intro K hK; simp only [Grow.put_lit, Grow.setAt, Grow.eval_lit, Grow.ev]; refine hK _ _ ?_; clear hK K) | (refine Grow.lex_plain rfl rfl ?_ rfl ?_; (· first | exact Grow.wanted_none | (rw [Hopsq.out]; rfl)); apply Exists.intro; refine ⟨fun wq hCq _ => ?_, ?_⟩; (· (go_wp2_with fail; refine ⟨rfl, Below.refl _ _, ?_⟩; simp only [Grow.getD_lit, Grow.nth]; rfl)); intro K hK; simp only [Grow.put_lit, Grow.setAt]; refine hK _ _ ?_; clear hK K) | (refine Grow.lex_nilCheck rfl rfl ?_ rfl ?_; (· first | exact Grow.wanted_none | (rw [Hopsq.out]; rfl)); intro K hK; simp only [Grow.put_lit, Grow.setAt]; refine hK _ _ ?_; clear hK K) | (refine Grow.lex_skip ?_ ?_; (· (rw [Hopsq.out]; rfl)); intro K hK; simp only [Grow.put_lit, Grow.setAt]; refine hK _ _ ?_; clear hK K))
      refine Grow.lex_nil ?_
      intro w6 hb6 hTq
      have hVR := (Grow.Holds.of_upd hTq).2
      replace hb6 := Grow.Cl.base hb6
      clear hli hlo1 hloN hloc hlo0 hTq Hopsq opsq hVW k0 k1 k2 k3 k4 k5 k6 k7
      obtain ⟨V, hVk, hPP, hrv⟩ := viewsR_out hVR
      have HVK := Lib.hid hVk; have HPP := Lib.hid hPP; have HRV := Lib.hid hrv
      have HRB6 := Lib.hid (HRB.out.next hb6); have HB6 := Lib.hid (HB.out.trans (hb6.mono HB.out.size)); have HX6 := Lib.hid (HX5.out.next hb6); have HR6 := Lib.hid (HR5.out.next hb6)
      clear hVR hVk hPP hrv hb6 HRB HB HX5 HR5 HU5
      have k0 := (HX6.out).cell 0 _ rfl
      have k1 := (HX6.out).cell 1 _ rfl
      have k2 := (HX6.out).cell 2 _ rfl
      have k3 := (HX6.out).cell 3 _ rfl
      have k4 := (HX6.out).cell 4 _ rfl
      have k5 := (HX6.out).cell 5 _ rfl
      have k6 := (HX6.out).cell 6 _ rfl
      have k7 := (HX6.out).cell 7 _ rfl
      go_wp2_with fail
      have hLI := light_any b (some ⟨g, 0, none⟩) cap V qv cw B qb cb w6 HL1.out HSL.out HR6.out HRV.out HRB6.out
      have HOKL : Hid (lightOk b V B) := Lib.hid ⟨HVA.out, by rw [HVK.out, HK.out], by rw [HBK.out, HK.out]⟩
      obtain ⟨F, hF⟩ : ∃ F, lightK b V B k = F := ⟨_, rfl⟩
      have HFE := Lib.hid hF
      rw [show lightF b V B = F by rw [lightF, if_pos HOKL.out, HVK.out, hF], show lightE b V B = 0 by rw [lightE, if_pos HOKL.out], HVK.out, HBK.out] at hLI
      obtain ⟨l1, l2⟩ := lightK_len b V B k (by rw [HVK.out]; exact Nat.le_refl _) (by rw [HBK.out]; exact Nat.le_refl _)
      rw [hF] at l1 l2
      clear hF
      unfold cvL at hLI
      rw [l1, l2] at hLI
      have hFL : F.lit = litL b (l.drop lo) k := by rw [← HFE.out]; exact litL_of b _ k V B HVK.out HBK.out HPP.out
      have HFL := Lib.hid hFL
      clear l1 l2 hFL
      refine hLI.mono ?_
      clear hLI
      rintro e w8 ⟨q1, c1, q2, c2, rfl, ho1, ho2, hb8⟩
      have HO1 := Lib.hid (rdX_of_owns ho1); have HO2 := Lib.hid (rdX_of_owns ho2)
      have HRB8 := Lib.hid (HRB6.out.next hb8); have HB8 := Lib.hid (HB6.out.trans (hb8.mono HB6.out.size))
      clear ho1 ho2 hb8 HRB6 HB6 HX6 HR6 HRV k0 k1 k2 k3 k4 k5 k6 k7
      go_upto_region 8 with fail
      have BG := Blk.new w8 [.slice q1 k c1, .slice q2 k c2, .int .u32 (F.clr.1.toNat : Int), .int .u32 (F.clr.2.toNat : Int)] 40
      have hbg := below1' w8 (.cells #[.slice q1 k c1, .slice q2 k c2, .int .u32 (F.clr.1.toNat : Int), .int .u32 (F.clr.2.toNat : Int)] 40)
      change Blk (w8.alloc (.cells #[.slice q1 k c1, .slice q2 k c2, .int .u32 (F.clr.1.toNat : Int), .int .u32 (F.clr.2.toNat : Int)] 40)) _ _ at BG
      have HG := Lib.hid BG
      have HO1' := Lib.hid (HO1.out.next hbg); have HO2' := Lib.hid (HO2.out.next hbg); have HRB9 := Lib.hid (HRB8.out.next hbg); have HB9 := Lib.hid (HB8.out.trans (hbg.mono HB8.out.size))
      clear BG hbg HO1 HO2 HRB8 HB8
      generalize w8.alloc (.cells #[.slice q1 k c1, .slice q2 k c2, .int .u32 (F.clr.1.toNat : Int), .int .u32 (F.clr.2.toNat : Int)] 40) = w9 at *
      generalize w8.heap.size = g9 at *
      have HAL2 : Hid (∀ W, Below w9.heap.size w9 W → Blk W g9 [.slice q1 k c1, .slice q2 k c2, .int .u32 (F.clr.1.toNat : Int), .int .u32 (F.clr.2.toNat : Int)] ∧ RdX W q1 (csCells F.lit) ∧ RdX W q2 (boolCells F.gong) ∧ RdX W qb (csCells B)) := Lib.hid fun W h => ⟨HG.out.next h, HO1'.out.next h, HO2'.out.next h, HRB9.out.next h⟩
      have s0 := (HG.out).cell 0 _ rfl
      have s1 := (HG.out).cell 1 _ rfl
      have s2 := (HG.out).cell 2 _ rfl
      have s3 := (HG.out).cell 3 _ rfl
      go_wp2_with fail
      clear s0 s1 s2 s3
      go_loopw [11] (fun v wr => ∃ c : Nat, c ≤ k ∧ v = .int .i64 c ∧ Below w9.heap.size w9 wr) (fun v _ => k - (intOf v).toNat)
      case atStart => exact ⟨0, by omega, rfl, Below.refl _ _⟩
      case round =>
        obtain ⟨c, hck, rfl, hbq⟩ := hrel
        have HQ := Lib.hid hbq
        clear hbq
        by_cases hik : c < k
        · have hdk : decide ((c : Int) < (k : Int)) = true := by simp; omega
          obtain ⟨v, hv⟩ : ∃ v, V[c]? = some v := ⟨_, List.getElem?_eq_getElem (by rw [HVK.out]; exact hik)⟩
          obtain ⟨p, hp⟩ : ∃ p, B[c]? = some p := ⟨_, List.getElem?_eq_getElem (by rw [HBK.out]; exact hik)⟩
          obtain ⟨hla, hlg⟩ := lit_at b V B (by rw [HVK.out, HBK.out]) k (by rw [HVK.out]; exact Nat.le_refl _) c v p hik hv hp
          rw [HFE.out] at hla hlg
          obtain ⟨hL8, hr1, hr2, hr3⟩ := HAL2.out wr HQ.out
          have HL8 := Lib.hid hL8
          obtain ⟨A1, hA1, _, p0, p1⟩ := hr1.cs hla
          obtain ⟨A2, hA2, _, p2⟩ := hr2.bl hlg
          obtain ⟨A3, hA3, _, p3, p4⟩ := hr3.cs hp
          have HEQ : Hid (0 < i % 3 → p = minus (calledC b v) (lightK b V B c).clr) := Lib.hid fun h => by
            have e := HBL.out h
            rw [HLO.out, ← HFL.out] at e
            rw [e, hla] at hp
            exact (Option.some.inj hp).symm
          subst hA1
          subst hA2
          subst hA3
          have hi0' : (0 : Int) ≤ (c : Int) := by omega
          have hi1 : (c : Int) < (k : Int) := by omega
          clear hL8 hr1 hr2 hr3 hv hp hla hlg
          generalize minus (calledC b v) (lightK b V B c).clr = lc at *
          by_cases hm : 0 < i % 3
          · obtain rfl : p = lc := HEQ.out hm
            have hmi : (0 : Int) < (i : Int) % 3 := by omega
            clear HEQ hm
            rw [newB_self] at p2
            replace p0 : ∀ W, Grow.Cl wr.drew W → _ := fun W h => cell_later (Grow.Cl.base h) p0
            replace p1 : ∀ W, Grow.Cl wr.drew W → _ := fun W h => cell_later (Grow.Cl.base h) p1
            replace p2 : ∀ W, Grow.Cl wr.drew W → _ := fun W h => cell_later (Grow.Cl.base h) p2
            replace p3 : ∀ W, Grow.Cl wr.drew W → _ := fun W h => cell_later (Grow.Cl.base h) p3
            replace p4 : ∀ W, Grow.Cl wr.drew W → _ := fun W h => cell_later (Grow.Cl.base h) p4
            have y0 := (HL8.out).reg 0 _ rfl
            have y1 := (HL8.out).reg 1 _ rfl
            go_upto_region 13 with fail
            clear hdk
            (refine Grow.wp_region Grow.noPlan Grow.noPlan_stable (by kernel_rfl) (by kernel_rfl) ?_; intro opsq Hopsq)
            repeat (first | (refine Grow.lex_move rfl ?_ rfl ?_; (· first | exact Grow.wanted_none | (rw [Hopsq.out]; rfl)); intro K hK; simp only [Grow.put_lit, Grow.setAt, Grow.eval_lit, Grow.ev]; refine hK _ _ ?_; clear hK K) | (refine Grow.lex_assign rfl ?_ rfl ?_; (· first | exact Grow.wanted_none | (rw [Hopsq.out]; rfl)); intro K hK; simp only [Grow.put_lit, Grow.setAt, Grow.eval_lit, Grow.ev]; refine hK _ _ ?_; clear hK K) | (refine Grow.lex_plain rfl rfl ?_ rfl ?_; (· first | exact Grow.wanted_none | (rw [Hopsq.out]; rfl)); apply Exists.intro; refine ⟨fun wq hCq _ => ?_, ?_⟩; (· (go_wp2_with fail; refine ⟨rfl, Below.refl _ _, ?_⟩; simp only [Grow.getD_lit, Grow.nth]; rfl)); intro K hK; simp only [Grow.put_lit, Grow.setAt]; refine hK _ _ ?_; clear hK K) | (refine Grow.lex_nilCheck rfl rfl ?_ rfl ?_; (· first | exact Grow.wanted_none | (rw [Hopsq.out]; rfl)); intro K hK; simp only [Grow.put_lit, Grow.setAt]; refine hK _ _ ?_; clear hK K) | (refine Grow.lex_skip ?_ ?_; (· (rw [Hopsq.out]; rfl)); intro K hK; simp only [Grow.put_lit, Grow.setAt]; refine hK _ _ ?_; clear hK K))
            (refine Grow.lex_call ?_ rfl ?_; (· first | exact Grow.wanted_none | (rw [Hopsq.out]; rfl)); apply Exists.intro; apply Exists.intro; refine ⟨fun wq => ?_, ?_⟩; (· (go_simp; exact ⟨rfl, rfl⟩)); apply Exists.intro; refine ⟨fun wq hCq hKq => ?_, ?_⟩; (· exact calls_val (refMinus_any p p _) (congrArg cv (minus_self p))); intro K hK; simp only [Grow.put_lit, Grow.setAt]; refine hK _ _ ?_; clear hK K)
            repeat (first | (refine Grow.lex_move rfl ?_ rfl ?_; (· first | exact Grow.wanted_none | (rw [Hopsq.out]; rfl)); intro K hK; simp only [Grow.put_lit, Grow.setAt, Grow.eval_lit, Grow.ev]; refine hK _ _ ?_; clear hK K) | (refine Grow.lex_assign rfl ?_ rfl ?_; (· first | exact Grow.wanted_none | (rw [Hopsq.out]; rfl)); intro K hK; simp only [Grow.put_lit, Grow.setAt, Grow.eval_lit, Grow.ev]; refine hK _ _ ?_; clear hK K) | (refine Grow.lex_plain rfl rfl ?_ rfl ?_; (· first | exact Grow.wanted_none | (rw [Hopsq.out]; rfl)); apply Exists.intro; refine ⟨fun wq hCq _ => ?_, ?_⟩; (· (go_wp2_with fail; refine ⟨rfl, Below.refl _ _, ?_⟩; simp only [Grow.getD_lit, Grow.nth]; rfl)); intro K hK; simp only [Grow.put_lit, Grow.setAt]; refine hK _ _ ?_; clear hK K) | (refine Grow.lex_nilCheck rfl rfl ?_ rfl ?_; (· first | exact Grow.wanted_none | (rw [Hopsq.out]; rfl)); intro K hK; simp only [Grow.put_lit, Grow.setAt]; refine hK _ _ ?_; clear hK K) | (refine Grow.lex_skip ?_ ?_; (· (rw [Hopsq.out]; rfl)); intro K hK; simp only [Grow.put_lit, Grow.setAt]; refine hK _ _ ?_; clear hK K))
            (refine Grow.lex_nil ?_; intro w10 hb10 _; replace hb10 := Grow.Cl.base hb10; clear Hopsq opsq)
            have HQ2 := Lib.hid (HQ.out.trans (hb10.mono HQ.out.size))
            clear hb10 p0 p1 p2 p3 p4 y0 y1
            go_wp2_with fail
            exact ⟨⟨c + 1, by omega, by go_num, HQ2.out⟩, by simp [intOf]; omega⟩
          · have hmi : (i : Int) % 3 = 0 := by omega
            clear HEQ hm
            unfold newB at p2
            replace p0 : ∀ W, Grow.Cl wr.drew W → _ := fun W h => cell_later (Grow.Cl.base h) p0
            replace p1 : ∀ W, Grow.Cl wr.drew W → _ := fun W h => cell_later (Grow.Cl.base h) p1
            replace p2 : ∀ W, Grow.Cl wr.drew W → _ := fun W h => cell_later (Grow.Cl.base h) p2
            replace p3 : ∀ W, Grow.Cl wr.drew W → _ := fun W h => cell_later (Grow.Cl.base h) p3
            replace p4 : ∀ W, Grow.Cl wr.drew W → _ := fun W h => cell_later (Grow.Cl.base h) p4
            have y0 := (HL8.out).reg 0 _ rfl
            have y1 := (HL8.out).reg 1 _ rfl
            go_upto_region 13 with fail
            clear hdk
            (refine Grow.wp_region Grow.noPlan Grow.noPlan_stable (by kernel_rfl) (by kernel_rfl) ?_; intro opsq Hopsq)
            repeat (first | (refine Grow.lex_move rfl ?_ rfl ?_; (· first | exact Grow.wanted_none | (rw [Hopsq.out]; rfl)); intro K hK; simp only [Grow.put_lit, Grow.setAt, Grow.eval_lit, Grow.ev]; refine hK _ _ ?_; clear hK K) | (refine Grow.lex_assign rfl ?_ rfl ?_; (· first | exact Grow.wanted_none | (rw [Hopsq.out]; rfl)); intro K hK; simp only [Grow.put_lit, Grow.setAt, Grow.eval_lit, Grow.ev]; refine hK _ _ ?_; clear hK K) | (refine Grow.lex_plain rfl rfl ?_ rfl ?_; (· first | exact Grow.wanted_none | (rw [Hopsq.out]; rfl)); apply Exists.intro; refine ⟨fun wq hCq _ => ?_, ?_⟩; (· (go_wp2_with fail; refine ⟨rfl, Below.refl _ _, ?_⟩; simp only [Grow.getD_lit, Grow.nth]; rfl)); intro K hK; simp only [Grow.put_lit, Grow.setAt]; refine hK _ _ ?_; clear hK K) | (refine Grow.lex_nilCheck rfl rfl ?_ rfl ?_; (· first | exact Grow.wanted_none | (rw [Hopsq.out]; rfl)); intro K hK; simp only [Grow.put_lit, Grow.setAt]; refine hK _ _ ?_; clear hK K) | (refine Grow.lex_skip ?_ ?_; (· (rw [Hopsq.out]; rfl)); intro K hK; simp only [Grow.put_lit, Grow.setAt]; refine hK _ _ ?_; clear hK K))
            (refine Grow.lex_call ?_ rfl ?_; (· first | exact Grow.wanted_none | (rw [Hopsq.out]; rfl)); apply Exists.intro; apply Exists.intro; refine ⟨fun wq => ?_, ?_⟩; (· (go_simp; exact ⟨rfl, rfl⟩)); apply Exists.intro; refine ⟨fun wq hCq hKq => ?_, ?_⟩; (· exact refMinus_any lc p _); intro K hK; simp only [Grow.put_lit, Grow.setAt]; refine hK _ _ ?_; clear hK K)
            repeat (first | (refine Grow.lex_move rfl ?_ rfl ?_; (· first | exact Grow.wanted_none | (rw [Hopsq.out]; rfl)); intro K hK; simp only [Grow.put_lit, Grow.setAt, Grow.eval_lit, Grow.ev]; refine hK _ _ ?_; clear hK K) | (refine Grow.lex_assign rfl ?_ rfl ?_; (· first | exact Grow.wanted_none | (rw [Hopsq.out]; rfl)); intro K hK; simp only [Grow.put_lit, Grow.setAt, Grow.eval_lit, Grow.ev]; refine hK _ _ ?_; clear hK K) | (refine Grow.lex_plain rfl rfl ?_ rfl ?_; (· first | exact Grow.wanted_none | (rw [Hopsq.out]; rfl)); apply Exists.intro; refine ⟨fun wq hCq _ => ?_, ?_⟩; (· (go_wp2_with fail; refine ⟨rfl, Below.refl _ _, ?_⟩; simp only [Grow.getD_lit, Grow.nth]; rfl)); intro K hK; simp only [Grow.put_lit, Grow.setAt]; refine hK _ _ ?_; clear hK K) | (refine Grow.lex_nilCheck rfl rfl ?_ rfl ?_; (· first | exact Grow.wanted_none | (rw [Hopsq.out]; rfl)); intro K hK; simp only [Grow.put_lit, Grow.setAt]; refine hK _ _ ?_; clear hK K) | (refine Grow.lex_skip ?_ ?_; (· (rw [Hopsq.out]; rfl)); intro K hK; simp only [Grow.put_lit, Grow.setAt]; refine hK _ _ ?_; clear hK K))
            (refine Grow.lex_nil ?_; intro w10 hb10 _; replace hb10 := Grow.Cl.base hb10; clear Hopsq opsq)
            have HQ2 := Lib.hid (HQ.out.trans (hb10.mono HQ.out.size))
            clear hb10 p0 p1 p2 p3 p4 y0 y1
            go_wp2_with fail
            exact ⟨⟨c + 1, by omega, by go_num, HQ2.out⟩, by simp [intOf]; omega⟩
        · have hdk : decide ((c : Int) < (k : Int)) = false := by simp; omega
          obtain ⟨hL8, hr1, _, _⟩ := HAL2.out wr HQ.out
          have y0 := hL8.cell 0 _ rfl
          have HR1 := Lib.hid hr1
          have HB10 := Lib.hid (HB9.out.trans (HQ.out.mono HB9.out.size))
          have hFLL : F.lit.length = k := by rw [HFL.out]; exact (lightK_len b (vwL b.fl (l.drop lo) k) (List.replicate k (0#32, 0#32)) k (by rw [vwL_len]; exact Nat.le_refl _) (by simp)).1
          have HFLL := Lib.hid hFLL
          clear hL8 hr1 hFLL
          go_wp2_with fail
          exact ⟨⟨i + 1, F.lit, q1, c1, by omega, by omega, by go_num, rfl, HFLL.out, fun h => by rw [HFL.out, ← HLO.out, show (i + 1) / 3 * 3 = i / 3 * 3 by omega], HR1.out, HB10.out⟩, by simp [intOf]; omega⟩
set_option maxHeartbeats 1000000 in
set_option maxRecDepth 100000 in
theorem lanternGongs_lifted (os : Os) (started : os.Started) (H : Type) (enc : TypeId × Value → H) :
    ReturnsInHanded {} Try.checked os 5 .any (Rows.lanternGongsSpec.pre6 enc Try.prog Try.f5 Rows.lanternGongsRow.domain false) (Rows.lanternGongsSpec.post enc Try.prog Try.f5 false true false false) := by
  refine law_lifted (C := Try.checked) own laidOut started (by kernel_rfl) Try.func5 4 rfl Try.underlying4 (by kernel_rfl) rfl H enc
    (fun ds h => by match ds, h with | [d0, d1], _ => rfl)
    (ChangeSpec.witness6 (enc := enc) (C := Try.checked) false ⟨#[], #[.int .u8 0, .slice none 0 0], []⟩ 8 (by kernel_rfl) (by kernel_rfl) (by kernel_rfl) (by kernel_rfl)) ?_
  intro W base args ds ps hval hA hsz
  have hA' : DataW.TrodAll enc Try.prog W 0 (fun _ => true) true Try.f5.params.toList args.toList ds ps := hA
  have hval' : ∀ (j : Nat) t v, Try.f5.params[j]? = some t → args[j]? = some v → Value.okWide Try.prog W .any base t v := hval
  rw [Try.params5] at hA' hval'
  obtain ⟨v0, vs0, d0, ds0, p0, q0, hargs, rfl, rfl, h0, r0⟩ := trodAll_cons hA'
  obtain ⟨v1, vs1, d1, ds1, p1, q1, rfl, rfl, rfl, h1, r1⟩ := trodAll_cons r0
  obtain ⟨rfl, rfl, rfl⟩ := trodAll_nil r1
  obtain rfl : args = #[v0, v1] := by cases args; simp_all
  obtain ⟨x0, rfl, rfl, rfl, wx0⟩ := open_int Try.underlying5 (hval' 0 5 v0 rfl rfl) h0
  obtain ⟨l1, q1x, cap1, rfl, hl1, hu1, hc1⟩ := open_u8c (hval' 1 22 v1 rfl rfl) h1
  (obtain ⟨m0, rfl, hm0⟩ := u8_wf wx0; exact lanternGongs_walk m0 l1 q1x cap1 W hm0 hl1 hu1 hc1)

theorem lanternGongs_over : Rows.lanternGongsRow.holds Try.pinned (OpenSpec.ofChange Rows.lanternGongsSpec) :=
  OpenClaim.holds_of_wide 5 Try.f5 rfl rfl rfl rfl rfl rfl rfl ⟨rfl, rfl, rfl, rfl, rfl⟩ rfl rfl rfl rfl rfl (by kernel_rfl) Try.func5 (by kernel_rfl)
    (of_decide_eq_true (by kernel_rfl)) (by unfold Func.isWrapper; first | (rw [if_pos (by decide +kernel)]; kernel_rfl) | (rw [if_neg (by decide +kernel)]; exact ⟨rfl, rfl⟩))
    (fun os started H enc _ => lanternGongs_lifted os started H enc)

/-- THE STATEMENT. -/
theorem lanternGongs_holds : Rows.LanternGongsSaid := lanternGongs_over
#print axioms lanternGongs_holds
end Go.Proofs.Ytpgcpalemnnbaaa
