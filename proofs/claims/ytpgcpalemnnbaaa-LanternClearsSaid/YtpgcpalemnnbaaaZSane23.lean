/- The sanity check of chapter 23 answers true. Conditions: none. -/
import Derived.Test.YtpgcpalemnnbaaaZOwnM
import Derived.Test.YtpgcpalemnnbaaaZPlans
import Derived.Test.YtpgcpalemnnbaaaZServe
import Derived.Test.YtpgcpalemnnbaaaZImgNil
import Derived.Test.YtpgcpalemnnbaaaZSameL
import Derived.Test.YtpgcpalemnnbaaaZBld10
import Derived.Deep.RegionHeld3
namespace Go.Proofs.Ytpgcpalemnnbaaa
open Go.RowKit
attribute [local go_sem ↓] run_neq_cs run_eql_cs
attribute [local go_sem] run_store_float
def v23 : ViewV := ⟨false, true, false, false, 0, 0, 0, (4#32, 0#32), 0, 0, 0⟩
def F23 : LanV := ⟨[(4#32, 0#32), (0#32, 0#32)], [true, false], (4#32, 0#32)⟩
theorem light23 : lightF (b10 9 90) [v23, v23] (csZ 2) = F23 := by
  have h : (lightF (b10 9 90) [v23, v23] (csZ 2)).lit = F23.lit ∧ (lightF (b10 9 90) [v23, v23] (csZ 2)).gong = F23.gong ∧ (lightF (b10 9 90) [v23, v23] (csZ 2)).clr = F23.clr := by decide +kernel
  obtain ⟨h1, h2, h3⟩ := h
  generalize lightF (b10 9 90) [v23, v23] (csZ 2) = s at *
  cases s
  simp only at h1 h2 h3
  rw [h1, h2, h3]
theorem lightE23 : lightE (b10 9 90) [v23, v23] (csZ 2) = 0 := by decide +kernel
theorem serve23 (b : BldV) (V : List ViewV) : servF b (imgI b) V = [] := by
  unfold servF
  split
  · have : (imgI b).en = [] := by unfold imgI; split <;> rfl
    rw [this]; rfl
  · rfl
theorem img23_len (b : BldV) (h : b.cars.length ≤ 1000) : (imgI b).ph.length ≤ 1000 ∧ (imgI b).en.length ≤ 1000 := by
  unfold imgI
  split
  · simp [imgZ, h]
  · simp [img0]
/-- An image that can be read. -/
def imgR (m : ImgV) (v : Value) (w : World) : Prop := ∃ a, v = cvM m a ∧ RdM w m a
theorem imgR_stable (m : ImgV) (v : Value) : Grow.Stable (imgR m v) := fun _ _ ⟨a, hv, hr⟩ hb => ⟨a, hv, hr.next hb⟩
theorem imgR_form {m : ImgV} {v : Value} {w : World} (h : imgR m v w) : ∃ a, v = cvM m a := h.imp fun _ h => h.1
theorem imgR_out {m : ImgV} {a : ImgA} {w : World} (h : imgR m (cvM m a) w) : RdM w m a := by
  obtain ⟨a', hv, hr⟩ := h
  obtain ⟨p, pc, f, fc, l, lc, e, ec⟩ := a
  obtain ⟨p', pc', f', fc', l', lc', e', ec'⟩ := a'
  simp at hv
  obtain ⟨⟨rfl, rfl⟩, ⟨rfl, rfl⟩, ⟨rfl, rfl⟩, rfl, rfl⟩ := hv
  exact hr
/-- A slice without anything in it. -/
def nilR (v : Value) (_ : World) : Prop := ∃ q c, v = .slice q 0 c
theorem nilR_stable (v : Value) : Grow.Stable (nilR v) := fun _ _ h _ => h
theorem nilR_form {v : Value} {w : World} (h : nilR v w) : ∃ q c, v = .slice q 0 c := h
set_option maxHeartbeats 4000000 in
set_option maxRecDepth 100000 in
theorem sane23_any (w : World) :
    Calls Try.prog 8 #[] w fun e w' => e = .returned (.bool true) ∧ Below w.heap.size w w' := by
  go_enter Try.func8, Try.ntmps8
  go_wp2_with fail
  have hB := b10_any 9 90 w (by omega) (by omega)
  change Calls _ _ #[.int .u8 9, .int .u8 90] _ _ at hB
  refine hB.mono ?_
  clear hB
  rintro e w1 ⟨g, cap, rfl, hg0, hg1, hr, hb⟩
  have hlc : (b10 9 90).cars.length = 2 := by rw [cars10_len]; rfl
  have HLC := Lib.hid hlc
  have HSL := Lib.hid (slack10 9 90)
  have HF2 := Lib.hid (fl10_range 9)
  have HF : Hid (lightF (b10 9 90) [v23, v23] (csZ 2) = F23 ∧ lightE (b10 9 90) [v23, v23] (csZ 2) = 0) := Lib.hid ⟨light23, lightE23⟩
  have hfl : (b10 9 90).fl = fl10 9 := rfl
  rw [← hfl] at HF2
  have HR1 := Lib.hid hr; have HB1 := Lib.hid hb
  clear hr hb hfl hlc
  generalize b10 9 90 = b at *
  go_upto_region 2 with fail
  have B5 := Blk.new w1 [.int .i64 b.fl, .int .i64 b.deb, .int .i64 b.room, .int .i64 b.park, .float .f64 b.em, .float .f64 b.fu, .float .f64 b.ov, .slice (some ⟨g, 0, none⟩) b.cars.length cap] 28
  have hb5 := below1' w1 (.cells #[.int .i64 b.fl, .int .i64 b.deb, .int .i64 b.room, .int .i64 b.park, .float .f64 b.em, .float .f64 b.fu, .float .f64 b.ov, .slice (some ⟨g, 0, none⟩) b.cars.length cap] 28)
  change Blk (w1.alloc (.cells #[.int .i64 b.fl, .int .i64 b.deb, .int .i64 b.room, .int .i64 b.park, .float .f64 b.em, .float .f64 b.fu, .float .f64 b.ov, .slice (some ⟨g, 0, none⟩) b.cars.length cap] 28)) _ _ at B5
  have HW2 := Lib.hid (HB1.out.trans (hb5.mono HB1.out.size))
  have HR2 := Lib.hid (HR1.out.next hb5)
  have HX2 := Lib.hid B5
  clear B5 hb5 HB1 HR1
  generalize w1.alloc (.cells #[.int .i64 b.fl, .int .i64 b.deb, .int .i64 b.room, .int .i64 b.park, .float .f64 b.em, .float .f64 b.fu, .float .f64 b.ov, .slice (some ⟨g, 0, none⟩) b.cars.length cap] 28) = w2 at *
  generalize w1.heap.size = g5 at *
  go_upto_region 3 with fail
  have B6 := Blk.new w2 [.int .u32 4, .int .u32 0] 33
  have hb6 := below1' w2 (.cells #[.int .u32 4, .int .u32 0] 33)
  change Blk (w2.alloc (.cells #[.int .u32 4, .int .u32 0] 33)) _ _ at B6
  have HW3 := Lib.hid (HW2.out.trans (hb6.mono HW2.out.size))
  have HR3 := Lib.hid (HR2.out.next hb6)
  have HX3 := Lib.hid (HX2.out.next hb6)
  have HC3 := Lib.hid B6
  clear B6 hb6 HW2 HR2 HX2
  generalize w2.alloc (.cells #[.int .u32 4, .int .u32 0] 33) = w3 at *
  generalize w2.heap.size = g6 at *
  have c0 := (HC3.out).cell 0 _ rfl
  have c1 := (HC3.out).cell 1 _ rfl
  go_upto_region 4 with fail
  have hb7 := below1' w3 (.cells #[.bool false, .bool true, .bool false, .bool false, .int .i64 0, .int .i64 0, .int .i64 0, .int .u32 4, .int .u32 0, .int .u32 0, .int .u32 0, .int .u32 0, .bool false, .bool true, .bool false, .bool false, .int .i64 0, .int .i64 0, .int .i64 0, .int .u32 4, .int .u32 0, .int .u32 0, .int .u32 0, .int .u32 0] 50)
  have hv7 : (w3.alloc (.cells #[.bool false, .bool true, .bool false, .bool false, .int .i64 0, .int .i64 0, .int .i64 0, .int .u32 4, .int .u32 0, .int .u32 0, .int .u32 0, .int .u32 0, .bool false, .bool true, .bool false, .bool false, .int .i64 0, .int .i64 0, .int .i64 0, .int .u32 4, .int .u32 0, .int .u32 0, .int .u32 0, .int .u32 0] 50)).ownsRow w3.heap.size 50 12 (.slice (some ⟨w3.heap.size, 0, none⟩) 2 2) 2 (viewCells [v23, v23]) := World.ownsRow_lit w3 #[.bool false, .bool true, .bool false, .bool false, .int .i64 0, .int .i64 0, .int .i64 0, .int .u32 4, .int .u32 0, .int .u32 0, .int .u32 0, .int .u32 0, .bool false, .bool true, .bool false, .bool false, .int .i64 0, .int .i64 0, .int .i64 0, .int .u32 4, .int .u32 0, .int .u32 0, .int .u32 0, .int .u32 0] 2 (Nat.le_refl _) (by unfold maxLen; omega) rfl
  have HV4 := Lib.hid (rdV_of_owns hv7)
  have HW4 := Lib.hid (HW3.out.trans (hb7.mono HW3.out.size))
  have HR4 := Lib.hid (HR3.out.next hb7)
  have HX4 := Lib.hid (HX3.out.next hb7)
  have HC4 := Lib.hid (HC3.out.next hb7)
  clear hb7 hv7 HW3 HR3 HX3 HC3 c0 c1
  generalize w3.alloc (.cells #[.bool false, .bool true, .bool false, .bool false, .int .i64 0, .int .i64 0, .int .i64 0, .int .u32 4, .int .u32 0, .int .u32 0, .int .u32 0, .int .u32 0, .bool false, .bool true, .bool false, .bool false, .int .i64 0, .int .i64 0, .int .i64 0, .int .u32 4, .int .u32 0, .int .u32 0, .int .u32 0, .int .u32 0] 50) = w4 at *
  generalize w3.heap.size = g7 at *
  have hmk : ∀ W, (Instr.makeSlice 30 (.int .i64 2) (.int .i64 2)).run Try.prog W = .ok (.slice (some ⟨W.heap.size, 0, none⟩) 2 2) (W.alloc (.cells (zerosC 2) 33)) := run_mkC 2 (by omega)
  have k0 := (HX4.out).cell 0 _ rfl
  have k1 := (HX4.out).cell 1 _ rfl
  have k2 := (HX4.out).cell 2 _ rfl
  have k3 := (HX4.out).cell 3 _ rfl
  have k4 := (HX4.out).cell 4 _ rfl
  have k5 := (HX4.out).cell 5 _ rfl
  have k6 := (HX4.out).cell 6 _ rfl
  have k7 := (HX4.out).cell 7 _ rfl
  have HL1 : Hid (b.cars.length ≤ 1000) := Lib.hid (by rw [HLC.out]; decide)
  have HSS : Hid (∀ W, Below w4.heap.size w4 W → W.cell? ⟨g5, 0, none⟩ = some (.int .i64 b.fl) ∧ W.cell? ⟨g5, 1, none⟩ = some (.int .i64 b.deb) ∧ W.cell? ⟨g5, 2, none⟩ = some (.int .i64 b.room) ∧ W.cell? ⟨g5, 3, none⟩ = some (.int .i64 b.park) ∧ W.cell? ⟨g5, 4, none⟩ = some (.float .f64 b.em) ∧ W.cell? ⟨g5, 5, none⟩ = some (.float .f64 b.fu) ∧ W.cell? ⟨g5, 6, none⟩ = some (.float .f64 b.ov) ∧ W.cell? ⟨g5, 7, none⟩ = some (.slice (some ⟨g, 0, none⟩) b.cars.length cap)) := Lib.hid fun W h => by
    have X := HX4.out.next h
    exact ⟨X.cell 0 _ rfl, X.cell 1 _ rfl, X.cell 2 _ rfl, X.cell 3 _ rfl, X.cell 4 _ rfl, X.cell 5 _ rfl, X.cell 6 _ rfl, X.cell 7 _ rfl⟩
  have HOC : Hid (∀ W B, Below w4.heap.size w4 W → W.ownsRow w4.heap.size 33 2 (.slice (some ⟨B, 0, none⟩) 2 2) 2 (csCells (csZ 2)) → Calls Try.prog 12 #[cvB b (some ⟨g, 0, none⟩) cap, .slice (some ⟨g7, 0, none⟩) 2 2, .slice (some ⟨B, 0, none⟩) 2 2] W fun e w' => ∃ q1 c1 q2 c2, e = .returned (.tuple #[cvL F23 q1 c1 q2 c2, .int .i64 0]) ∧ w'.ownsRow W.heap.size 33 2 (.slice q1 F23.lit.length c1) F23.lit.length (csCells F23.lit) ∧ w'.ownsRow W.heap.size 4 1 (.slice q2 F23.gong.length c2) F23.gong.length (boolCells F23.gong) ∧ Below W.heap.size W w') := Lib.hid fun W B h ho => by
    have hh := light_any b (some ⟨g, 0, none⟩) cap [v23, v23] (some ⟨g7, 0, none⟩) 2 (csZ 2) (some ⟨B, 0, none⟩) 2 W HL1.out HSL.out (HR4.out.next h) (HV4.out.next h) (rdX_of_owns ho)
    rw [HF.out.1, HF.out.2] at hh
    exact hh
  go_cut [4, 5] from 14 to 20 (fun v4 v5 wx => lanP w4 F23 0 v4 v5 wx)
  case first =>
    go_region_held3 (fun W : World => W.cell? ⟨g5, 0, none⟩ = some (.int .i64 b.fl) ∧ W.cell? ⟨g5, 1, none⟩ = some (.int .i64 b.deb) ∧ W.cell? ⟨g5, 2, none⟩ = some (.int .i64 b.room) ∧ W.cell? ⟨g5, 3, none⟩ = some (.int .i64 b.park) ∧ W.cell? ⟨g5, 4, none⟩ = some (.float .f64 b.em) ∧ W.cell? ⟨g5, 5, none⟩ = some (.float .f64 b.fu) ∧ W.cell? ⟨g5, 6, none⟩ = some (.float .f64 b.ov) ∧ W.cell? ⟨g5, 7, none⟩ = some (.slice (some ⟨g, 0, none⟩) b.cars.length cap))
      ((refine HSS.out _ ?_
        repeat (with_reducible refine setB2 ?_ ?_; rotate_left; (first | exact Nat.le_refl _ | exact Nat.le_succ _ | exact T6.out.size))
        first
          | with_reducible exact drewB2 w4
          | with_reducible exact drewA2 w4 _
          | with_reducible exact drewAA2 w4 _ _
          | with_reducible exact T6.out
          | with_reducible exact below_al2 T6.out (Nat.le_refl _) _
          | with_reducible exact below_al2 (drewB2 w4) (Nat.le_refl _) _
          | with_reducible exact below_al2 (below_al2 (drewB2 w4) (Nat.le_refl _) _) (Nat.le_refl _) _))
      (first
        | (go_at_call 12
           refine (HOC.out _ _ ?_ ?_).mono ?_
           · first
               | with_reducible exact drewA2 w4 _
               | with_reducible exact drewAA2 w4 _ _
           · first
               | with_reducible exact ownsC_0 w4 2 (by omega)
               | with_reducible exact ownsC_1 w4 2 _ (by omega)
               | with_reducible exact ownsC_2 w4 2 _ (by omega)
           rintro e w6 ⟨q1, c1, q2, c2, rfl, ho1, ho2, hb6⟩
           have T6 : Hid (Below w4.heap.size w4 w6) := Lib.hid (by first | with_reducible exact (drewA2 w4 _).trans (hb6.mono (drewA2 w4 _).size) | with_reducible exact (drewAA2 w4 _ _).trans (hb6.mono (drewAA2 w4 _ _).size))
           have c6 := base_cell hb6
           have z6 := base_frozen2 hb6))
    all_goals go_wp2_with fail
    all_goals go_meet
    all_goals
      first
        | exact lanP_A T6.out (by simp) ho1 ho2
        | exact lanP_B (xs := zL) rfl T6.out (Nat.le_succ _) (by simp) (blkL_1 hb6) ho1 ho2
        | exact lanP_B (xs := zL) rfl T6.out (Nat.le_refl _) (by simp; omega) (blkL_0 hb6) ho1 ho2
  case rest =>
    obtain ⟨g8, q1, c1, q2, c2, rfl, rfl, hg8, hB8, ho1, ho2, hb8⟩ := hcut
    obtain ⟨b1, cc1, hq1, hb1l, hb1u⟩ := World.ownsRow.form ho1 (by decide)
    obtain ⟨b2, cc2, hq2, hb2l, hb2u⟩ := World.ownsRow.form ho2 (by decide)
    simp at hq1 hq2
    obtain ⟨rfl, rfl⟩ := hq1
    obtain ⟨rfl, rfl⟩ := hq2
    have HO1 := Lib.hid ho1; have HO2 := Lib.hid ho2; have HG8 := Lib.hid hB8
    have HW8 := Lib.hid (HW4.out.trans (hb8.mono HW4.out.size))
    have HX8 := Lib.hid (HX4.out.next hb8); have HC8 := Lib.hid (HC4.out.next hb8); have HV8 := Lib.hid (HV4.out.next hb8); have HR8 := Lib.hid (HR4.out.next hb8)
    generalize hwc : wc = w8 at *
    clear hwc ho1 ho2 hB8 hb8 HSS HOC hmk k0 k1 k2 k3 k4 k5 k6 k7 HX4 HC4 HV4 HR4 HW4
    change Hid (Blk w8 g8 [.slice (some ⟨b1, 0, none⟩) 2 c1, .slice (some ⟨b2, 0, none⟩) 2 c2, .int .u32 4, .int .u32 0]) at HG8
    have l0 := (HG8.out).cell 0 _ rfl
    have l1 := (HG8.out).cell 1 _ rfl
    have l2 := (HG8.out).cell 2 _ rfl
    have l3 := (HG8.out).cell 3 _ rfl
    go_upto_region 7 with fail
    clear l0 l1 l2 l3
    have k0 := (HX8.out).reg 0 _ rfl
    have k1 := (HX8.out).reg 1 _ rfl
    have k2 := (HX8.out).reg 2 _ rfl
    have k3 := (HX8.out).reg 3 _ rfl
    have k4 := (HX8.out).reg 4 _ rfl
    have k5 := (HX8.out).reg 5 _ rfl
    have k6 := (HX8.out).reg 6 _ rfl
    have k7 := (HX8.out).reg 7 _ rfl
    have hst := rPlan2_stable 2 (imgR (imgI b)) 4 nilR (imgR_stable _) nilR_stable
    refine Grow.wp_region (rPlan2 2 (imgR (imgI b)) 4 nilR) hst (by kernel_rfl) (by kernel_rfl) ?_
    clear hst
    intro opsq Hopsq
    repeat (first | (refine Grow.lex_move rfl ?_ rfl ?_; (· first | exact Grow.wanted_none | (rw [Hopsq.out]; rfl)); intro K hK; simp only [Grow.put_lit, Grow.setAt, Grow.eval_lit, Grow.ev]; refine hK _ _ ?_; clear hK K) | (refine Grow.lex_assign rfl ?_ rfl ?_; (· first | exact Grow.wanted_none | (rw [Hopsq.out]; rfl)); intro K hK; simp only [Grow.put_lit, Grow.setAt, Grow.eval_lit, Grow.ev]; refine hK _ _ ?_; clear hK K) | (refine Grow.lex_plain rfl rfl ?_ rfl ?_; (· first | exact Grow.wanted_none | (rw [Hopsq.out]; rfl)); apply Exists.intro; refine ⟨fun wq hCq _ => ?_, ?_⟩; (· (go_wp2_with fail; refine ⟨rfl, Below.refl _ _, ?_⟩; simp only [Grow.getD_lit, Grow.nth]; rfl)); intro K hK; simp only [Grow.put_lit, Grow.setAt]; refine hK _ _ ?_; clear hK K) | (refine Grow.lex_nilCheck rfl rfl ?_ rfl ?_; (· first | exact Grow.wanted_none | (rw [Hopsq.out]; rfl)); intro K hK; simp only [Grow.put_lit, Grow.setAt]; refine hK _ _ ?_; clear hK K) | (refine Grow.lex_skip ?_ ?_; (· (rw [Hopsq.out]; rfl)); intro K hK; simp only [Grow.put_lit, Grow.setAt]; refine hK _ _ ?_; clear hK K))
    (refine Grow.lex_callR (r := (fun _ v w => imgR (imgI b) v w)) ?_ rfl ?_; (· first | exact Grow.wanted_none | (rw [Hopsq.out]; rfl)); apply Exists.intro; apply Exists.intro; refine ⟨fun wq => ?_, ?_, ?_⟩; (· (go_simp; exact ⟨rfl, rfl⟩)); (· (intro wq hCq hKq; exact (imageNil_any b _ _ _ (by rw [HLC.out]; decide) (by rw [HLC.out]; decide) HF2.out.1 (by have := HF2.out.2; omega) HSL.out (HR8.out.next (Grow.Cl.base hCq))).mono fun e w' ⟨a, he, ho, hb⟩ => ⟨_, he, hb, a, rfl, ho.rd⟩)); intro vq hWq; obtain ⟨_, _, hTT⟩ := hWq; obtain ⟨a, hvq⟩ := imgR_form (Grow.Holds.of_upd hTT).2; subst hvq; clear hTT; intro K hK; simp only [Grow.put_lit, Grow.setAt]; refine hK _ _ ?_; clear hK K)
    repeat (first | (refine Grow.lex_move rfl ?_ rfl ?_; (· first | exact Grow.wanted_none | (rw [Hopsq.out]; rfl)); intro K hK; simp only [Grow.put_lit, Grow.setAt, Grow.eval_lit, Grow.ev]; refine hK _ _ ?_; clear hK K) | (refine Grow.lex_assign rfl ?_ rfl ?_; (· first | exact Grow.wanted_none | (rw [Hopsq.out]; rfl)); intro K hK; simp only [Grow.put_lit, Grow.setAt, Grow.eval_lit, Grow.ev]; refine hK _ _ ?_; clear hK K) | (refine Grow.lex_plain rfl rfl ?_ rfl ?_; (· first | exact Grow.wanted_none | (rw [Hopsq.out]; rfl)); apply Exists.intro; refine ⟨fun wq hCq _ => ?_, ?_⟩; (· (go_wp2_with fail; refine ⟨rfl, Below.refl _ _, ?_⟩; simp only [Grow.getD_lit, Grow.nth]; rfl)); intro K hK; simp only [Grow.put_lit, Grow.setAt]; refine hK _ _ ?_; clear hK K) | (refine Grow.lex_nilCheck rfl rfl ?_ rfl ?_; (· first | exact Grow.wanted_none | (rw [Hopsq.out]; rfl)); intro K hK; simp only [Grow.put_lit, Grow.setAt]; refine hK _ _ ?_; clear hK K) | (refine Grow.lex_skip ?_ ?_; (· (rw [Hopsq.out]; rfl)); intro K hK; simp only [Grow.put_lit, Grow.setAt]; refine hK _ _ ?_; clear hK K))
    (refine Grow.lex_callR (r := (fun _ v w => nilR v w)) ?_ rfl ?_; (· first | exact Grow.wanted_none | (rw [Hopsq.out]; rfl)); apply Exists.intro; apply Exists.intro; refine ⟨fun wq => ?_, ?_, ?_⟩; (· (go_simp; exact ⟨rfl, rfl⟩)); (· (intro wq hCq hKq; exact (serve_any b (some ⟨g, 0, none⟩) cap (imgI b) a [v23, v23] (some ⟨g7, 0, none⟩) 2 _ HL1.out HSL.out (img23_len b HL1.out).1 (img23_len b HL1.out).2 (HR8.out.next (Grow.Cl.base hCq)) (imgR_out ((hKq 2 ⟨[], by rw [Hopsq.out]; kernel_rfl⟩).2 rfl)) (HV8.out.next (Grow.Cl.base hCq))).mono (fun e w' ⟨v, he, ho, hb⟩ => ⟨v, he, hb, by rw [serve23] at ho; exact row_form ho⟩))); intro vq hWq; obtain ⟨_, _, hTT⟩ := hWq; obtain ⟨qs, cs, hvq⟩ := nilR_form (Grow.Holds.of_upd hTT).2; subst hvq; clear hTT; intro K hK; simp only [Grow.put_lit, Grow.setAt]; refine hK _ _ ?_; clear hK K)
    repeat (first | (refine Grow.lex_move rfl ?_ rfl ?_; (· first | exact Grow.wanted_none | (rw [Hopsq.out]; rfl)); intro K hK; simp only [Grow.put_lit, Grow.setAt, Grow.eval_lit, Grow.ev]; refine hK _ _ ?_; clear hK K) | (refine Grow.lex_assign rfl ?_ rfl ?_; (· first | exact Grow.wanted_none | (rw [Hopsq.out]; rfl)); intro K hK; simp only [Grow.put_lit, Grow.setAt, Grow.eval_lit, Grow.ev]; refine hK _ _ ?_; clear hK K) | (refine Grow.lex_plain rfl rfl ?_ rfl ?_; (· first | exact Grow.wanted_none | (rw [Hopsq.out]; rfl)); apply Exists.intro; refine ⟨fun wq hCq _ => ?_, ?_⟩; (· (go_wp2_with fail; refine ⟨rfl, Below.refl _ _, ?_⟩; simp only [Grow.getD_lit, Grow.nth]; rfl)); intro K hK; simp only [Grow.put_lit, Grow.setAt]; refine hK _ _ ?_; clear hK K) | (refine Grow.lex_nilCheck rfl rfl ?_ rfl ?_; (· first | exact Grow.wanted_none | (rw [Hopsq.out]; rfl)); intro K hK; simp only [Grow.put_lit, Grow.setAt]; refine hK _ _ ?_; clear hK K) | (refine Grow.lex_skip ?_ ?_; (· (rw [Hopsq.out]; rfl)); intro K hK; simp only [Grow.put_lit, Grow.setAt]; refine hK _ _ ?_; clear hK K))
    (refine Grow.lex_nil ?_; intro w9 hb9 _; replace hb9 := Grow.Cl.base hb9; clear Hopsq opsq)
    have HO19 := Lib.hid (rowLater HO1.out hb9); have HO29 := Lib.hid (rowLater HO2.out hb9); have HG9 := Lib.hid (HG8.out.next hb9); have HC9 := Lib.hid (HC8.out.next hb9)
    have HW9 := Lib.hid (HW8.out.trans (hb9.mono HW8.out.size))
    clear hb9 HO1 HO2 HG8 HC8 HX8 HV8 HR8 HW8 k0 k1 k2 k3 k4 k5 k6 k7
    have l0 := (HG9.out).reg 0 _ rfl
    have l1 := (HG9.out).reg 1 _ rfl
    have l2 := (HG9.out).reg 2 _ rfl
    have l3 := (HG9.out).reg 3 _ rfl
    have s0 := (HC9.out).reg 0 _ rfl
    have s1 := (HC9.out).reg 1 _ rfl
    have x0 := row_reg HO19.out 0 (by decide) (.int .u32 4) rfl
    have x1 := row_reg HO19.out 1 (by decide) (.int .u32 0) rfl
    have x2 := row_reg HO19.out 2 (by decide) (.int .u32 0) rfl
    have x3 := row_reg HO19.out 3 (by decide) (.int .u32 0) rfl
    have y0 := row_reg HO29.out 0 (by decide) (.bool true) rfl
    have y1 := row_reg HO29.out 1 (by decide) (.bool false) rfl
    have HSM : Hid (lanB F23 F23 = true) := Lib.hid (by decide +kernel)
    go_upto_region 8 with fail
    (refine Grow.wp_region Grow.noPlan Grow.noPlan_stable (by kernel_rfl) (by kernel_rfl) ?_; intro opsq Hopsq)
    repeat (first | (refine Grow.lex_move rfl ?_ rfl ?_; (· first | exact Grow.wanted_none | (rw [Hopsq.out]; rfl)); intro K hK; simp only [Grow.put_lit, Grow.setAt, Grow.eval_lit, Grow.ev]; refine hK _ _ ?_; clear hK K) | (refine Grow.lex_assign rfl ?_ rfl ?_; (· first | exact Grow.wanted_none | (rw [Hopsq.out]; rfl)); intro K hK; simp only [Grow.put_lit, Grow.setAt, Grow.eval_lit, Grow.ev]; refine hK _ _ ?_; clear hK K) | (refine Grow.lex_plain rfl rfl ?_ rfl ?_; (· first | exact Grow.wanted_none | (rw [Hopsq.out]; rfl)); apply Exists.intro; refine ⟨fun wq hCq _ => ?_, ?_⟩; (· (go_wp2_with fail; refine ⟨rfl, Below.refl _ _, ?_⟩; simp only [Grow.getD_lit, Grow.nth]; rfl)); intro K hK; simp only [Grow.put_lit, Grow.setAt]; refine hK _ _ ?_; clear hK K) | (refine Grow.lex_nilCheck rfl rfl ?_ rfl ?_; (· first | exact Grow.wanted_none | (rw [Hopsq.out]; rfl)); intro K hK; simp only [Grow.put_lit, Grow.setAt]; refine hK _ _ ?_; clear hK K) | (refine Grow.lex_skip ?_ ?_; (· (rw [Hopsq.out]; rfl)); intro K hK; simp only [Grow.put_lit, Grow.setAt]; refine hK _ _ ?_; clear hK K))
    (refine Grow.lex_call ?_ rfl ?_; (· first | exact Grow.wanted_none | (rw [Hopsq.out]; rfl)); apply Exists.intro; apply Exists.intro; refine ⟨fun wq => ?_, ?_⟩; (· (go_simp; exact ⟨rfl, rfl⟩)); apply Exists.intro; refine ⟨fun wq hCq hKq => ?_, ?_⟩; (· exact calls_bool (lanSame_any F23 (some ⟨b1, 0, none⟩) c1 (some ⟨b2, 0, none⟩) c2 F23 (some ⟨b1, 0, none⟩) c1 (some ⟨b2, 0, none⟩) c2 _ (by decide) (by decide) (rdX_of_owns (rowLater HO19.out (Grow.Cl.base hCq))) (rdX_of_owns (rowLater HO29.out (Grow.Cl.base hCq))) (rdX_of_owns (rowLater HO19.out (Grow.Cl.base hCq))) (rdX_of_owns (rowLater HO29.out (Grow.Cl.base hCq)))) HSM.out); intro K hK; simp only [Grow.put_lit, Grow.setAt]; refine hK _ _ ?_; clear hK K)
    repeat (first | (refine Grow.lex_move rfl ?_ rfl ?_; (· first | exact Grow.wanted_none | (rw [Hopsq.out]; rfl)); intro K hK; simp only [Grow.put_lit, Grow.setAt, Grow.eval_lit, Grow.ev]; refine hK _ _ ?_; clear hK K) | (refine Grow.lex_assign rfl ?_ rfl ?_; (· first | exact Grow.wanted_none | (rw [Hopsq.out]; rfl)); intro K hK; simp only [Grow.put_lit, Grow.setAt, Grow.eval_lit, Grow.ev]; refine hK _ _ ?_; clear hK K) | (refine Grow.lex_plain rfl rfl ?_ rfl ?_; (· first | exact Grow.wanted_none | (rw [Hopsq.out]; rfl)); apply Exists.intro; refine ⟨fun wq hCq _ => ?_, ?_⟩; (· (go_wp2_with fail; refine ⟨rfl, Below.refl _ _, ?_⟩; simp only [Grow.getD_lit, Grow.nth]; rfl)); intro K hK; simp only [Grow.put_lit, Grow.setAt]; refine hK _ _ ?_; clear hK K) | (refine Grow.lex_nilCheck rfl rfl ?_ rfl ?_; (· first | exact Grow.wanted_none | (rw [Hopsq.out]; rfl)); intro K hK; simp only [Grow.put_lit, Grow.setAt]; refine hK _ _ ?_; clear hK K) | (refine Grow.lex_skip ?_ ?_; (· (rw [Hopsq.out]; rfl)); intro K hK; simp only [Grow.put_lit, Grow.setAt]; refine hK _ _ ?_; clear hK K))
    (refine Grow.lex_nil ?_; intro w10 hb10 _; replace hb10 := Grow.Cl.base hb10; clear Hopsq opsq)
    go_wp2_with fail
    go_ret
    exact ⟨rfl, HW9.out.trans (hb10.mono HW9.out.size)⟩
end Go.Proofs.Ytpgcpalemnnbaaa
