/- LanternServes: which calls are served, and which lamps are lit, for made and arbitrary images and views. Conditions: none. -/
import Derived.Test.YtpgcpalemnnbaaaZServeR
import Derived.Test.YtpgcpalemnnbaaaZSame9
import Derived.Test.YtpgcpalemnnbaaaZImage
import Derived.Test.YtpgcpalemnnbaaaZSane23
import Derived.Test.YtpgcpalemnnbaaaZViews23
import Derived.Test.YtpgcpalemnnbaaaZArgsI
namespace Go.Proofs.Ytpgcpalemnnbaaa
open Go.ChangeShapes Go.WideShapes Go.ChangeAt Go.RowKit
attribute [local go_sem ↓] run_neq_cs run_eql_cs
attribute [local go_sem] run_store_float
/-- Records that can be read. -/
def recR (L : List R5) (v : Value) (w : World) : Prop := ∃ q c, v = .slice q L.length c ∧ RdX w q (recCells L)
theorem recR_form {L : List R5} {v : Value} {w : World} (h : recR L v w) : ∃ q c, v = .slice q L.length c := by
  obtain ⟨q, c, h, _⟩ := h; exact ⟨q, c, h⟩
theorem recR_out {L : List R5} {n c : Nat} {q : Option Addr} {w : World} (h : recR L (.slice q n c) w) : RdX w q (recCells L) := by
  obtain ⟨q', c', h, h'⟩ := h
  cases h
  exact h'
theorem recR_of {L : List R5} {v : Value} {w : World} {base : Nat} (h : w.ownsRow base 65 5 v L.length (recCells L)) : recR L v w := by
  obtain ⟨q, c, rfl⟩ := row_form h
  exact ⟨q, c, rfl, rdX_of_owns h⟩
/-- Two images, of which the first lies beside. -/
def imsR (m : ImgV) (xs : List Value) (v : Value) (w : World) : Prop := ∃ g a, v = .slice (some ⟨g, 0, none⟩) 2 2 ∧ Blk w g (([.slice a.p m.ph.length a.pc, .slice a.f m.fg.length a.fc, .slice a.l m.lv.length a.lc, .slice a.e m.en.length a.ec] : List Value) ++ xs) ∧ RdM w m a
theorem imsR_stable (m : ImgV) (xs : List Value) (v : Value) : Grow.Stable (imsR m xs v) := fun _ _ ⟨g, a, hv, h1, h2⟩ hb => ⟨g, a, hv, h1.next hb, h2.next hb⟩
def sPlan (L : List R5) : Grow.Plan := fun i => if i = 3 then some (fun _ v w => recR L v w) else if i = 7 then some (fun _ v w => recR L v w) else if i = 15 then some (fun _ v w => nilR v w) else none
theorem sPlan_stable (L : List R5) : (sPlan L).stable := by
  intro i r0 h _ v w w' hw hb
  unfold sPlan at h
  split at h
  · cases h; obtain ⟨q, c, hv, hr⟩ := hw; exact ⟨q, c, hv, hr.next hb⟩
  · split at h
    · cases h; obtain ⟨q, c, hv, hr⟩ := hw; exact ⟨q, c, hv, hr.next hb⟩
    · split at h
      · cases h; exact hw
      · cases h
theorem lex_ims {P : Program} {ops : Array Oper} {md : Region.Mode} {w0 : World} {pl : Grow.Plan} {Q : Act → Grow.Facts → Prop} {rest : List Oper} {a : Act} {T : Grow.Facts} {o : Oper} {j : Nat} (m : ImgV) (A : ImgA) (xs : List Value) (ty : TypeId) (hpl : pl j = some (fun _ v w => imsR m xs v w)) (hw : Region.wanted o (yielded ops a.tmps) = true)
    (hz : ∀ w, (execOp a.eval o).run P w = .ok (.value (.slice (some ⟨w.heap.size, 0, none⟩) 2 2)) (w.alloc (.cells (([.slice A.p m.ph.length A.pc, .slice A.f m.fg.length A.fc, .slice A.l m.lv.length A.lc, .slice A.e m.en.length A.ec] : List Value) ++ xs).toArray ty))) (hr : ∀ w, Grow.Cl w0 w → Grow.Known ops md T j w → RdM w m A)
    (h : ∀ g, Grow.lexR P ops md w0 pl Q (j + 1) rest (a.put o.dst (.slice (some ⟨g, 0, none⟩) 2 2)) (Grow.upd T j (imsR m xs (.slice (some ⟨g, 0, none⟩) 2 2)))) : Grow.lexR P ops md w0 pl Q j (o :: rest) a T := by
  refine Grow.lex_rel hw hpl (fun w hC hK => ?_) fun v hW => ?_
  · unfold Grow.yields
    rw [hz w]
    exact ⟨below1' _ _, w.heap.size, A, rfl, Blk.new _ _ _, (hr w hC hK).next (below1' _ _)⟩
  · obtain ⟨w, _, hT⟩ := hW
    obtain ⟨_, g, a', rfl, _⟩ := Grow.Holds.of_upd hT
    exact h g
/-- The views from the second on. -/
theorem run_slice1 (g k c : Nat) (h : 1 ≤ k) (W : World) : (Instr.slice 23 (.slice (some ⟨g, 0, none⟩) k c) (some (.int .i64 1)) none none).run Try.prog W = .ok (.slice (if c = 1 then some ⟨g, 0, none⟩ else some ⟨g, 12, none⟩) (k - 1) (c - 1)) W := by
  have h1 : (1 : Int) ≤ (k : Int) := by omega
  have h2 : (Go.sizeOf 50).run Try.prog W = .ok 12 W := by kernel_rfl
  by_cases hc : c = 1
  · simp [Instr.slice, Instr.sliceBounds, Instr.sliceBound, asIntOf, run_underlying Try.underlying23, Result.andThen, h1, hc, h2]
  · simp [Instr.slice, Instr.sliceBounds, Instr.sliceBound, asIntOf, run_underlying Try.underlying23, Result.andThen, h1, hc, h2, Addr.add]
theorem rdV_drop1 {W : World} {g c : Nat} {V : List ViewV} (hc : V.length ≤ c) (h : RdV W (some ⟨g, 0, none⟩) V) : RdV W (if c = 1 then some ⟨g, 0, none⟩ else some ⟨g, 12, none⟩) (V.drop 1) := by
  intro i v hv
  rw [List.getElem?_drop] at hv
  have hl : 1 + i < V.length := (List.getElem?_eq_some_iff.1 hv).1
  rw [if_neg (by omega)]
  obtain ⟨A, hA, hlt, hcell⟩ := h (1 + i) v hv
  obtain rfl : (⟨g, 0, none⟩ : Addr) = A := by simpa using hA
  refine ⟨_, rfl, hlt, fun j u hu => ?_⟩
  have := hcell j u hu
  have e : (⟨g, 0, none⟩ : Addr).add ((1 + i) * 12 + j) = (⟨g, 12, none⟩ : Addr).add (i * 12 + j) := by
    simp only [Addr.add]
    split <;> split <;> simp <;> omega
  rwa [e] at this
theorem servF_short (b : BldV) (m : ImgV) (V : List ViewV) (k : Nat) (h : b.cars.length = k) (h' : V.length = k) (h1 : 1 ≤ k) : servF b m (V.drop 1) = [] := by
  unfold servF
  rw [if_neg]
  rintro ⟨_, h2⟩
  rw [List.length_drop] at h2
  omega
theorem servF_len (b : BldV) (m : ImgV) (V : List ViewV) : (servF b m V).length ≤ m.en.length := by
  unfold servF
  split
  · exact servL_len _ _
  · exact Nat.zero_le _
def bigB (m : ImgV) : Bool := decide (80 < m.en.length) || decide (20 < m.ph.length) || decide (20 < m.fg.length) || decide (20 < m.lv.length)
set_option maxHeartbeats 8000000 in
set_option maxRecDepth 100000 in
theorem lanternServes_walk (n : Nat) (l : List Nat) (ql : Option Addr) (capl : Nat) (R : ImgV) (ar : ImgA) (w : World) (hn : n < 256) (hl : l.length ≤ maxLen) (hu : RdU w ql l) (hrw : RdM w R ar) (h1 : R.ph.length ≤ maxLen) (h2 : R.fg.length ≤ maxLen) (h3 : R.lv.length ≤ maxLen) (h4 : R.en.length ≤ maxLen) :
    Calls Try.prog 6 #[.int .u8 n, .slice ql l.length capl, cvM R ar] w fun e w' => e = .returned (.bool true) ∧ Below w.heap.size w w' := by
  have X0 : Blk (w.alloc (.cells #[.slice ar.p R.ph.length ar.pc, .slice ar.f R.fg.length ar.fc, .slice ar.l R.lv.length ar.lc, .slice ar.e R.en.length ar.ec] 56)) w.heap.size [.slice ar.p R.ph.length ar.pc, .slice ar.f R.fg.length ar.fc, .slice ar.l R.lv.length ar.lc, .slice ar.e R.en.length ar.ec] := by
    have hx := Blk.new w [.slice ar.p R.ph.length ar.pc, .slice ar.f R.fg.length ar.fc, .slice ar.l R.lv.length ar.lc, .slice ar.e R.en.length ar.ec] 56
    exact hx
  have XW : Below w.heap.size w (w.alloc (.cells #[.slice ar.p R.ph.length ar.pc, .slice ar.f R.fg.length ar.fc, .slice ar.l R.lv.length ar.lc, .slice ar.e R.en.length ar.ec] 56)) := below1' w _
  have HWW := Lib.hid XW; have HX0 := Lib.hid X0
  clear XW X0
  have HL := Lib.hid hl; have HU := Lib.hid (hu.next HWW.out); have HRW := Lib.hid (hrw.next HWW.out)
  have h5 : bigB R = true ∨ (bigB R = false ∧ R.en.length ≤ 80 ∧ R.ph.length ≤ 20 ∧ R.fg.length ≤ 20 ∧ R.lv.length ≤ 20) := by
    cases hb : bigB R
    · right
      simp [bigB] at hb
      exact ⟨rfl, by omega, by omega, by omega, by omega⟩
    · left; rfl
  have H5 := Lib.hid h5
  unfold maxLen at h1 h2 h3 h4
  have HBG : Hid (bigB R = (decide (80 < R.en.length) || decide (20 < R.ph.length) || decide (20 < R.fg.length) || decide (20 < R.lv.length))) := Lib.hid rfl
  clear hl hu hrw h5
  go_enter Try.func6, Try.ntmps6
  go_upto_region 1 with fail
  generalize (w.alloc (.cells #[.slice ar.p R.ph.length ar.pc, .slice ar.f R.fg.length ar.fc, .slice ar.l R.lv.length ar.lc, .slice ar.e R.en.length ar.ec] 56)) = w0 at *
  have HW := Lib.hid (Below.refl w0.heap.size w0)
  have hz0 := HX0.out.lt
  have y0 := (HX0.out).cell 0 _ rfl
  have y1 := (HX0.out).cell 1 _ rfl
  have y2 := (HX0.out).cell 2 _ rfl
  have y3 := (HX0.out).cell 3 _ rfl
  go_cut [32] from 11 to 32 (fun v wx => v = .bool (bigB R) ∧ wx = w0)
  case first =>
    by_cases a1 : 80 < R.en.length <;> by_cases a2 : 20 < R.ph.length <;> by_cases a3 : 20 < R.fg.length <;> by_cases a4 : 20 < R.lv.length
    all_goals
      have A1 := Lib.hid a1; have A2 := Lib.hid a2; have A3 := Lib.hid a3; have A4 := Lib.hid a4
      go_wp2_with fail
      go_meet
      exact ⟨by have b1 := A1.out; have b2 := A2.out; have b3 := A3.out; have b4 := A4.out; rw [HBG.out]; first | (simp [b1, b2, b3, b4]; done) | (simp [b1, b2, b3, b4]; omega) | (congr 1; simp only [Bool.eq_iff_iff, Bool.or_eq_true, decide_eq_true_eq]; omega), rfl⟩
  case rest =>
    obtain ⟨rfl, hwq⟩ := hcut
    subst hwq
    clear y0 y1 y2 y3
    rcases H5.out with hb | ⟨hb, hl1, hl2, hl3, hl4⟩
    · rw [hb]
      clear hb H5 HBG
      go_wp2_with fail
      refine (sane23_any _).mono ?_
      rintro e w11 ⟨rfl, hb11⟩
      go_wp2_with fail
      go_ret
      exact ⟨rfl, HWW.out.trans (hb11.mono HWW.out.size)⟩
    rw [hb]
    clear hb H5 HBG HW
    go_wp2_with fail
    have hB := b10_any n 200 wc hn (by omega)
    change Calls _ _ #[.int .u8 n, .int .u8 200] _ _ at hB
    refine hB.mono ?_
    clear hB
    rintro e w1 ⟨g, cap, rfl, hg0, hg1, hr, hb⟩
    have hlc : (b10 n 200).cars.length = k10 n := cars10_len n 200
    have hkr := k10_range n
    have HSL := Lib.hid (slack10 n 200)
    have HF2 : Hid (2 ≤ (b10 n 200).fl ∧ (b10 n 200).fl ≤ 8) := Lib.hid (fl10_range n)
    obtain ⟨k, hk⟩ : ∃ k, k10 n = k := ⟨_, rfl⟩
    rw [hk] at hlc hkr
    have HK := Lib.hid hlc
    have HR1 := Lib.hid hr; have HB1 := Lib.hid (HWW.out.trans (hb.mono HWW.out.size))
    have HU1 := Lib.hid (HU.out.next hb); have HRW1 := Lib.hid (HRW.out.next hb); have HX1 := Lib.hid (HX0.out.next hb)
    clear hr hb hlc hk HU HRW HX0 HWW
    generalize b10 n 200 = b at *
    go_upto_region 4 with fail
    have B5 := Blk.new w1 [.int .i64 b.fl, .int .i64 b.deb, .int .i64 b.room, .int .i64 b.park, .float .f64 b.em, .float .f64 b.fu, .float .f64 b.ov, .slice (some ⟨g, 0, none⟩) b.cars.length cap] 28
    have hb5 := below1' w1 (.cells #[.int .i64 b.fl, .int .i64 b.deb, .int .i64 b.room, .int .i64 b.park, .float .f64 b.em, .float .f64 b.fu, .float .f64 b.ov, .slice (some ⟨g, 0, none⟩) b.cars.length cap] 28)
    change Blk (w1.alloc (.cells #[.int .i64 b.fl, .int .i64 b.deb, .int .i64 b.room, .int .i64 b.park, .float .f64 b.em, .float .f64 b.fu, .float .f64 b.ov, .slice (some ⟨g, 0, none⟩) b.cars.length cap] 28)) _ _ at B5
    have HW2 := Lib.hid (HB1.out.trans (hb5.mono HB1.out.size))
    have HR2 := Lib.hid (HR1.out.next hb5)
    have HU2 := Lib.hid (HU1.out.next hb5); have HRW2 := Lib.hid (HRW1.out.next hb5); have HI2 := Lib.hid (HX1.out.next hb5)
    have HX2 := Lib.hid B5
    clear B5 hb5 HB1 HR1 HU1 HRW1 HX1
    generalize w1.alloc (.cells #[.int .i64 b.fl, .int .i64 b.deb, .int .i64 b.room, .int .i64 b.park, .float .f64 b.em, .float .f64 b.fu, .float .f64 b.ov, .slice (some ⟨g, 0, none⟩) b.cars.length cap] 28) = w2 at *
    generalize w1.heap.size = g5 at *
    have k0 := (HX2.out).cell 0 _ rfl
    have k1 := (HX2.out).cell 1 _ rfl
    have k2 := (HX2.out).cell 2 _ rfl
    have k3 := (HX2.out).cell 3 _ rfl
    have k4 := (HX2.out).cell 4 _ rfl
    have k5 := (HX2.out).cell 5 _ rfl
    have k6 := (HX2.out).cell 6 _ rfl
    have k7 := (HX2.out).cell 7 _ rfl
    go_wp2_with fail
    refine (views23_any b (some ⟨g, 0, none⟩) cap l ql capl _ (by rw [HK.out]; omega) HL.out HF2.out.1 (by have := HF2.out.2; omega) HU2.out).mono ?_
    rintro e w3 ⟨v, V0, rfl, hVk, hPP, hown, hb3⟩
    clear hPP
    have hVk' : V0.length = k := by rw [hVk, HK.out]
    obtain ⟨qv, capv, rfl⟩ := row_form hown
    obtain ⟨g6, c6, hq6, _, _⟩ := World.ownsRow.form hown (by rw [hVk']; omega)
    simp only [Value.slice.injEq, true_and] at hq6
    obtain ⟨rfl, rfl⟩ := hq6
    have hcap : V0.length ≤ capv := row_cap hown
    have HV3 := Lib.hid (rdV_of_owns hown)
    have HVK := Lib.hid hVk'
    rw [hVk'] at hcap ⊢
    have HW3 := Lib.hid (HW2.out.trans (hb3.mono HW2.out.size))
    have HR3 := Lib.hid (HR2.out.next hb3); have HU3 := Lib.hid (HU2.out.next hb3); have HRW3 := Lib.hid (HRW2.out.next hb3); have HI3 := Lib.hid (HI2.out.next hb3); have HX3 := Lib.hid (HX2.out.next hb3)
    clear hVk hVk' hown hb3 HR2 HU2 HRW2 HI2 HX2 HW2 k0 k1 k2 k3 k4 k5 k6 k7
    go_upto_region 5 with fail
    obtain ⟨mI, hmI⟩ : ∃ mI, mI = imageF b l := ⟨_, rfl⟩
    have HMI := Lib.hid hmI
    clear hmI
    have k0 := (HX3.out).reg 0 _ rfl
    have k1 := (HX3.out).reg 1 _ rfl
    have k2 := (HX3.out).reg 2 _ rfl
    have k3 := (HX3.out).reg 3 _ rfl
    have k4 := (HX3.out).reg 4 _ rfl
    have k5 := (HX3.out).reg 5 _ rfl
    have k6 := (HX3.out).reg 6 _ rfl
    have k7 := (HX3.out).reg 7 _ rfl
    have y0 := (HI3.out).reg 0 _ rfl
    have y1 := (HI3.out).reg 1 _ rfl
    have y2 := (HI3.out).reg 2 _ rfl
    have y3 := (HI3.out).reg 3 _ rfl
    have hst := rPlan2_stable 2 (imgR mI) 4 (imsR mI [.slice ar.p R.ph.length ar.pc, .slice ar.f R.fg.length ar.fc, .slice ar.l R.lv.length ar.lc, .slice ar.e R.en.length ar.ec]) (imgR_stable _) (imsR_stable _ _)
    refine Grow.wp_region (rPlan2 2 (imgR mI) 4 (imsR mI [.slice ar.p R.ph.length ar.pc, .slice ar.f R.fg.length ar.fc, .slice ar.l R.lv.length ar.lc, .slice ar.e R.en.length ar.ec])) hst (by kernel_rfl) (by kernel_rfl) ?_
    clear hst
    intro opsq Hopsq
    repeat (first | (refine Grow.lex_move rfl ?_ rfl ?_; (· first | exact Grow.wanted_none | (rw [Hopsq.out]; rfl)); intro K hK; simp only [Grow.put_lit, Grow.setAt, Grow.eval_lit, Grow.ev]; refine hK _ _ ?_; clear hK K) | (refine Grow.lex_assign rfl ?_ rfl ?_; (· first | exact Grow.wanted_none | (rw [Hopsq.out]; rfl)); intro K hK; simp only [Grow.put_lit, Grow.setAt, Grow.eval_lit, Grow.ev]; refine hK _ _ ?_; clear hK K) | (refine Grow.lex_plain rfl rfl ?_ rfl ?_; (· first | exact Grow.wanted_none | (rw [Hopsq.out]; rfl)); apply Exists.intro; refine ⟨fun wq hCq _ => ?_, ?_⟩; (· (go_wp2_with fail; refine ⟨rfl, Below.refl _ _, ?_⟩; simp only [Grow.getD_lit, Grow.nth]; rfl)); intro K hK; simp only [Grow.put_lit, Grow.setAt]; refine hK _ _ ?_; clear hK K) | (refine Grow.lex_nilCheck rfl rfl ?_ rfl ?_; (· first | exact Grow.wanted_none | (rw [Hopsq.out]; rfl)); intro K hK; simp only [Grow.put_lit, Grow.setAt]; refine hK _ _ ?_; clear hK K) | (refine Grow.lex_skip ?_ ?_; (· (rw [Hopsq.out]; rfl)); intro K hK; simp only [Grow.put_lit, Grow.setAt]; refine hK _ _ ?_; clear hK K))
    (refine Grow.lex_callR (r := (fun _ v w => imgR mI v w)) ?_ rfl ?_; (· first | exact Grow.wanted_none | (rw [Hopsq.out]; rfl)); apply Exists.intro; apply Exists.intro; refine ⟨fun wq => ?_, ?_, ?_⟩; (· (go_simp; exact ⟨rfl, rfl⟩)); (· (intro wq hCq hKq; exact (image_any b _ _ l ql capl _ (by rw [HK.out]; omega) (by rw [HK.out]; omega) HF2.out.1 (by have := HF2.out.2; omega) HSL.out (HR3.out.next (Grow.Cl.base hCq)) HL.out (HU3.out.next (Grow.Cl.base hCq))).mono fun e w' ⟨a, he, ho, hb⟩ => ⟨_, he, hb, a, by rw [HMI.out], by rw [HMI.out]; exact ho.rd⟩)); intro vq hWq; obtain ⟨_, _, hTT⟩ := hWq; obtain ⟨a, hvq⟩ := imgR_form (Grow.Holds.of_upd hTT).2; subst hvq; clear hTT; intro K hK; simp only [Grow.put_lit, Grow.setAt]; refine hK _ _ ?_; clear hK K)
    repeat (first | (refine Grow.lex_move rfl ?_ rfl ?_; (· first | exact Grow.wanted_none | (rw [Hopsq.out]; rfl)); intro K hK; simp only [Grow.put_lit, Grow.setAt, Grow.eval_lit, Grow.ev]; refine hK _ _ ?_; clear hK K) | (refine Grow.lex_assign rfl ?_ rfl ?_; (· first | exact Grow.wanted_none | (rw [Hopsq.out]; rfl)); intro K hK; simp only [Grow.put_lit, Grow.setAt, Grow.eval_lit, Grow.ev]; refine hK _ _ ?_; clear hK K) | (refine Grow.lex_plain rfl rfl ?_ rfl ?_; (· first | exact Grow.wanted_none | (rw [Hopsq.out]; rfl)); apply Exists.intro; refine ⟨fun wq hCq _ => ?_, ?_⟩; (· (go_wp2_with fail; refine ⟨rfl, Below.refl _ _, ?_⟩; simp only [Grow.getD_lit, Grow.nth]; rfl)); intro K hK; simp only [Grow.put_lit, Grow.setAt]; refine hK _ _ ?_; clear hK K) | (refine Grow.lex_nilCheck rfl rfl ?_ rfl ?_; (· first | exact Grow.wanted_none | (rw [Hopsq.out]; rfl)); intro K hK; simp only [Grow.put_lit, Grow.setAt]; refine hK _ _ ?_; clear hK K) | (refine Grow.lex_skip ?_ ?_; (· (rw [Hopsq.out]; rfl)); intro K hK; simp only [Grow.put_lit, Grow.setAt]; refine hK _ _ ?_; clear hK K))
    refine lex_ims mI a [.slice ar.p R.ph.length ar.pc, .slice ar.f R.fg.length ar.fc, .slice ar.l R.lv.length ar.lc, .slice ar.e R.en.length ar.ec] 56 rfl ?_ (fun wq => ?_) (fun wq hCq hKq => imgR_out ((hKq 2 ⟨[], by rw [Hopsq.out]; kernel_rfl⟩).2 rfl)) ?_
    · first | exact Grow.wanted_none | (rw [Hopsq.out]; rfl)
    · go_simp
    intro g7
    simp only [Grow.put_lit, Grow.setAt]
    repeat (first | (refine Grow.lex_move rfl ?_ rfl ?_; (· first | exact Grow.wanted_none | (rw [Hopsq.out]; rfl)); intro K hK; simp only [Grow.put_lit, Grow.setAt, Grow.eval_lit, Grow.ev]; refine hK _ _ ?_; clear hK K) | (refine Grow.lex_assign rfl ?_ rfl ?_; (· first | exact Grow.wanted_none | (rw [Hopsq.out]; rfl)); intro K hK; simp only [Grow.put_lit, Grow.setAt, Grow.eval_lit, Grow.ev]; refine hK _ _ ?_; clear hK K) | (refine Grow.lex_plain rfl rfl ?_ rfl ?_; (· first | exact Grow.wanted_none | (rw [Hopsq.out]; rfl)); apply Exists.intro; refine ⟨fun wq hCq _ => ?_, ?_⟩; (· (go_wp2_with fail; refine ⟨rfl, Below.refl _ _, ?_⟩; simp only [Grow.getD_lit, Grow.nth]; rfl)); intro K hK; simp only [Grow.put_lit, Grow.setAt]; refine hK _ _ ?_; clear hK K) | (refine Grow.lex_nilCheck rfl rfl ?_ rfl ?_; (· first | exact Grow.wanted_none | (rw [Hopsq.out]; rfl)); intro K hK; simp only [Grow.put_lit, Grow.setAt]; refine hK _ _ ?_; clear hK K) | (refine Grow.lex_skip ?_ ?_; (· (rw [Hopsq.out]; rfl)); intro K hK; simp only [Grow.put_lit, Grow.setAt]; refine hK _ _ ?_; clear hK K))
    refine Grow.lex_nil ?_
    intro w4 hb4 hTT
    obtain ⟨_, g7', aI, hgq, hB7, hMI7⟩ := Grow.Holds.of_upd hTT
    obtain rfl : g7 = g7' := by simpa using hgq
    replace hb4 := Grow.Cl.base hb4
    have hlI : mI.ph.length ≤ 1000 ∧ mI.en.length ≤ 60 := by
      have h := imgK_len b (recL b l 60) (by rw [HK.out]; omega) 60
      rw [List.take_of_length_le (by simp only [recL, recT_len]; omega)] at h
      rw [HMI.out]
      exact h
    have HA : Hid (∀ W, Below w4.heap.size w4 W → Blk W g5 [.int .i64 b.fl, .int .i64 b.deb, .int .i64 b.room, .int .i64 b.park, .float .f64 b.em, .float .f64 b.fu, .float .f64 b.ov, .slice (some ⟨g, 0, none⟩) b.cars.length cap] ∧ RdC W (some ⟨g, 0, none⟩) b.cars ∧ RdV W (some ⟨g6, 0, none⟩) V0 ∧ Below w.heap.size w W ∧ ∀ j : Nat, j < 2 → ∃ (m : ImgV) (a : ImgA), m.ph.length ≤ 1000 ∧ m.en.length ≤ 200 ∧ RdM W m a ∧ W.cell? ⟨g7, j * 4, none⟩ = some (.slice a.p m.ph.length a.pc) ∧ W.cell? ⟨g7, j * 4 + 1, none⟩ = some (.slice a.f m.fg.length a.fc) ∧ W.cell? ⟨g7, j * 4 + 2, none⟩ = some (.slice a.l m.lv.length a.lc) ∧ W.cell? ⟨g7, j * 4 + 3, none⟩ = some (.slice a.e m.en.length a.ec)) := Lib.hid fun W h => by
      have h3 := hb4.trans (h.mono hb4.size)
      have hX := hB7.next h
      refine ⟨HX3.out.next h3, HR3.out.next h3, HV3.out.next h3, HW3.out.trans (h3.mono HW3.out.size), fun j hj => ?_⟩
      match j, hj with
      | 0, _ => exact ⟨mI, aI, hlI.1, by omega, hMI7.next h, hX.cell 0 _ rfl, hX.cell 1 _ rfl, hX.cell 2 _ rfl, hX.cell 3 _ rfl⟩
      | 1, _ => exact ⟨R, ar, by omega, by omega, HRW3.out.next h3, hX.cell 4 _ rfl, hX.cell 5 _ rfl, hX.cell 6 _ rfl, hX.cell 7 _ rfl⟩
    clear hTT hgq hB7 hMI7 hlI hb4 Hopsq opsq HX3 HR3 HV3 HW3 HI3 HU3 HRW3 k0 k1 k2 k3 k4 k5 k6 k7 y0 y1 y2 y3 HMI
    go_wp2_with fail
    go_loopw [45] (fun v wr => ∃ j : Nat, j ≤ 2 ∧ v = .int .i64 j ∧ Below w4.heap.size w4 wr) (fun v _ => 2 - (intOf v).toNat)
    case atStart => exact ⟨0, by omega, rfl, Below.refl _ _⟩
    case round =>
      obtain ⟨j, hj2, rfl, hb⟩ := hrel
      have HB := Lib.hid hb
      clear hb
      by_cases hj : j < 2
      rotate_left 1
      · have d1 : decide ((j : Int) < 2) = false := by simp; omega
        have HW9 := Lib.hid ((HA.out wr HB.out).2.2.2.1)
        go_wp2_with fail
        refine (sane23_any _).mono ?_
        rintro e w11 ⟨rfl, hb11⟩
        go_wp2_with fail
        go_ret
        exact ⟨rfl, HW9.out.trans (hb11.mono HW9.out.size)⟩
      · have d1 : decide ((j : Int) < 2) = true := by simp; omega
        obtain ⟨hX, hR, hV, _, hM⟩ := HA.out wr HB.out
        obtain ⟨m, a, hmp, hme, hrm, x0, x1, x2, x3⟩ := hM j hj
        have HX := Lib.hid hX; have HR := Lib.hid hR; have HV := Lib.hid hV; have HM := Lib.hid hrm; have HMP := Lib.hid hmp; have HME := Lib.hid hme
        have hj0 : (0 : Int) ≤ (j : Int) := by omega
        have hj2' : (j : Int) < 2 := by omega
        clear hX hR hV hM hrm hmp hme
        go_upto_region 8 with fail
        clear x0 x1 x2 x3
        have BM := Blk.new wr [.slice a.p m.ph.length a.pc, .slice a.f m.fg.length a.fc, .slice a.l m.lv.length a.lc, .slice a.e m.en.length a.ec] 56
        have hbm := below1' wr (.cells #[.slice a.p m.ph.length a.pc, .slice a.f m.fg.length a.fc, .slice a.l m.lv.length a.lc, .slice a.e m.en.length a.ec] 56)
        change Blk (wr.alloc (.cells #[.slice a.p m.ph.length a.pc, .slice a.f m.fg.length a.fc, .slice a.l m.lv.length a.lc, .slice a.e m.en.length a.ec] 56)) _ _ at BM
        have HB5 := Lib.hid (HB.out.trans (hbm.mono HB.out.size))
        have HX5 := Lib.hid (HX.out.next hbm); have HR5 := Lib.hid (HR.out.next hbm); have HV5 := Lib.hid (HV.out.next hbm); have HM5 := Lib.hid (HM.out.next hbm); have HI5 := Lib.hid BM
        clear BM hbm HB HX HR HV HM
        generalize wr.alloc (.cells #[.slice a.p m.ph.length a.pc, .slice a.f m.fg.length a.fc, .slice a.l m.lv.length a.lc, .slice a.e m.en.length a.ec] 56) = w5 at *
        generalize wr.heap.size = g8 at *
        clear d1
        obtain ⟨L, hL⟩ : ∃ L, servF b m V0 = L := ⟨_, rfl⟩
        obtain ⟨cL, hcL⟩ : ∃ c, ofL (m.en.map E5.key) = c := ⟨_, rfl⟩
        have HLL : Hid (L.length ≤ 1000) := Lib.hid (by rw [← hL]; have := servF_len b m V0; have := HME.out; omega)
        have HS1 : Hid (∀ W, Below w5.heap.size w5 W → Calls Try.prog 20 #[cvB b (some ⟨g, 0, none⟩) cap, cvM m a, .slice (some ⟨g6, 0, none⟩) k capv] W fun e w' => ∃ v, e = .returned v ∧ Below W.heap.size W w' ∧ recR L v w') := Lib.hid fun W h => by
          have hh := serve_any b (some ⟨g, 0, none⟩) cap m a V0 (some ⟨g6, 0, none⟩) capv W (by rw [HK.out]; omega) HSL.out HMP.out (by have := HME.out; omega) (HR5.out.next h) (HM5.out.next h) (HV5.out.next h)
          rw [HVK.out, hL] at hh
          exact hh.mono fun e w' ⟨v, he, ho, hb⟩ => ⟨v, he, hb, recR_of ho⟩
        have HS2 : Hid (∀ W, Below w5.heap.size w5 W → Calls Try.prog 21 #[cvB b (some ⟨g, 0, none⟩) cap, cvM m a, .slice (some ⟨g6, 0, none⟩) k capv] W fun e w' => ∃ v, e = .returned v ∧ Below W.heap.size W w' ∧ recR L v w') := Lib.hid fun W h => by
          have hh := refServe_any b (some ⟨g, 0, none⟩) cap m a V0 (some ⟨g6, 0, none⟩) capv W (by rw [HK.out]; omega) HSL.out HMP.out (by have := HME.out; omega) (HR5.out.next h) (HM5.out.next h) (HV5.out.next h)
          rw [HVK.out, hL] at hh
          exact hh.mono fun e w' ⟨v, he, ho, hb⟩ => ⟨v, he, hb, recR_of ho⟩
        have HS4 : Hid (∀ W, Below w5.heap.size w5 W → Calls Try.prog 22 #[cvM m a] W fun e w' => e = .returned (cv cL) ∧ Below W.heap.size W w') := Lib.hid fun W h => by
          have hh := lamps_any m a W HME.out (HM5.out.next h).2.2.2
          rw [hcL] at hh
          exact hh
        have HS5 : Hid (∀ W, Below w5.heap.size w5 W → Calls Try.prog 23 #[cvM m a] W fun e w' => e = .returned (cv cL) ∧ Below W.heap.size W w') := Lib.hid fun W h => by
          have hh := refLamps_any m a W HME.out (HM5.out.next h).2.2.2
          rw [hcL] at hh
          exact hh
        have hsl := run_slice1 g6 k capv hkr.1
        obtain ⟨qd, hqd⟩ : ∃ qd, (if capv = 1 then some (⟨g6, 0, none⟩ : Addr) else some ⟨g6, 12, none⟩) = qd := ⟨_, rfl⟩
        rw [hqd] at hsl
        have HS3 : Hid (∀ W, Below w5.heap.size w5 W → Calls Try.prog 20 #[cvB b (some ⟨g, 0, none⟩) cap, cvM m a, .slice qd (k - 1) (capv - 1)] W fun e w' => ∃ v, e = .returned v ∧ Below W.heap.size W w' ∧ nilR v w') := Lib.hid fun W h => by
          have hd := rdV_drop1 (c := capv) (by rw [HVK.out]; omega) (HV5.out.next h)
          rw [hqd] at hd
          have hh := serve_any b (some ⟨g, 0, none⟩) cap m a (V0.drop 1) qd (capv - 1) W (by rw [HK.out]; omega) HSL.out HMP.out (by have := HME.out; omega) (HR5.out.next h) (HM5.out.next h) hd
          rw [List.length_drop, HVK.out, servF_short b m V0 k HK.out HVK.out hkr.1] at hh
          exact hh.mono fun e w' ⟨v, he, ho, hb⟩ => ⟨v, he, hb, row_form ho⟩
        clear hL hcL hqd
        have k0 := (HX5.out).reg 0 _ rfl
        have k1 := (HX5.out).reg 1 _ rfl
        have k2 := (HX5.out).reg 2 _ rfl
        have k3 := (HX5.out).reg 3 _ rfl
        have k4 := (HX5.out).reg 4 _ rfl
        have k5 := (HX5.out).reg 5 _ rfl
        have k6 := (HX5.out).reg 6 _ rfl
        have k7 := (HX5.out).reg 7 _ rfl
        have y0 := (HI5.out).reg 0 _ rfl
        have y1 := (HI5.out).reg 1 _ rfl
        have y2 := (HI5.out).reg 2 _ rfl
        have y3 := (HI5.out).reg 3 _ rfl
        refine Grow.wp_region (sPlan L) (sPlan_stable L) (by kernel_rfl) (by kernel_rfl) ?_
        intro opsq Hopsq
        repeat (first | (refine Grow.lex_move rfl ?_ rfl ?_; (· first | exact Grow.wanted_none | (rw [Hopsq.out]; rfl)); intro K hK; simp only [Grow.put_lit, Grow.setAt, Grow.eval_lit, Grow.ev]; refine hK _ _ ?_; clear hK K) | (refine Grow.lex_assign rfl ?_ rfl ?_; (· first | exact Grow.wanted_none | (rw [Hopsq.out]; rfl)); intro K hK; simp only [Grow.put_lit, Grow.setAt, Grow.eval_lit, Grow.ev]; refine hK _ _ ?_; clear hK K) | (refine Grow.lex_plain rfl rfl ?_ rfl ?_; (· first | exact Grow.wanted_none | (rw [Hopsq.out]; rfl)); apply Exists.intro; refine ⟨fun wq hCq _ => ?_, ?_⟩; (· (go_wp2_with fail; refine ⟨rfl, Below.refl _ _, ?_⟩; simp only [Grow.getD_lit, Grow.nth]; rfl)); intro K hK; simp only [Grow.put_lit, Grow.setAt]; refine hK _ _ ?_; clear hK K) | (refine Grow.lex_nilCheck rfl rfl ?_ rfl ?_; (· first | exact Grow.wanted_none | (rw [Hopsq.out]; rfl)); intro K hK; simp only [Grow.put_lit, Grow.setAt]; refine hK _ _ ?_; clear hK K) | (refine Grow.lex_skip ?_ ?_; (· (rw [Hopsq.out]; rfl)); intro K hK; simp only [Grow.put_lit, Grow.setAt]; refine hK _ _ ?_; clear hK K))
        (refine Grow.lex_callR (r := (fun _ v w => recR L v w)) ?_ rfl ?_; (· first | exact Grow.wanted_none | (rw [Hopsq.out]; rfl)); apply Exists.intro; apply Exists.intro; refine ⟨fun wq => ?_, ?_, ?_⟩; (· (go_simp; exact ⟨rfl, rfl⟩)); (· (intro wq hCq hKq; exact HS1.out _ (Grow.Cl.base hCq))); intro vq hWq; obtain ⟨_, _, hTT⟩ := hWq; obtain ⟨q1, c1, hvq⟩ := recR_form (Grow.Holds.of_upd hTT).2; subst hvq; clear hTT; intro K hK; simp only [Grow.put_lit, Grow.setAt]; refine hK _ _ ?_; clear hK K)
        repeat (first | (refine Grow.lex_move rfl ?_ rfl ?_; (· first | exact Grow.wanted_none | (rw [Hopsq.out]; rfl)); intro K hK; simp only [Grow.put_lit, Grow.setAt, Grow.eval_lit, Grow.ev]; refine hK _ _ ?_; clear hK K) | (refine Grow.lex_assign rfl ?_ rfl ?_; (· first | exact Grow.wanted_none | (rw [Hopsq.out]; rfl)); intro K hK; simp only [Grow.put_lit, Grow.setAt, Grow.eval_lit, Grow.ev]; refine hK _ _ ?_; clear hK K) | (refine Grow.lex_plain rfl rfl ?_ rfl ?_; (· first | exact Grow.wanted_none | (rw [Hopsq.out]; rfl)); apply Exists.intro; refine ⟨fun wq hCq _ => ?_, ?_⟩; (· (go_wp2_with fail; refine ⟨rfl, Below.refl _ _, ?_⟩; simp only [Grow.getD_lit, Grow.nth]; rfl)); intro K hK; simp only [Grow.put_lit, Grow.setAt]; refine hK _ _ ?_; clear hK K) | (refine Grow.lex_nilCheck rfl rfl ?_ rfl ?_; (· first | exact Grow.wanted_none | (rw [Hopsq.out]; rfl)); intro K hK; simp only [Grow.put_lit, Grow.setAt]; refine hK _ _ ?_; clear hK K) | (refine Grow.lex_skip ?_ ?_; (· (rw [Hopsq.out]; rfl)); intro K hK; simp only [Grow.put_lit, Grow.setAt]; refine hK _ _ ?_; clear hK K))
        (refine Grow.lex_callR (r := (fun _ v w => recR L v w)) ?_ rfl ?_; (· first | exact Grow.wanted_none | (rw [Hopsq.out]; rfl)); apply Exists.intro; apply Exists.intro; refine ⟨fun wq => ?_, ?_, ?_⟩; (· (go_simp; exact ⟨rfl, rfl⟩)); (· (intro wq hCq hKq; exact HS2.out _ (Grow.Cl.base hCq))); intro vq hWq; obtain ⟨_, _, hTT⟩ := hWq; obtain ⟨q2, c2, hvq⟩ := recR_form (Grow.Holds.of_upd hTT).2; subst hvq; clear hTT; intro K hK; simp only [Grow.put_lit, Grow.setAt]; refine hK _ _ ?_; clear hK K)
        repeat (first | (refine Grow.lex_move rfl ?_ rfl ?_; (· first | exact Grow.wanted_none | (rw [Hopsq.out]; rfl)); intro K hK; simp only [Grow.put_lit, Grow.setAt, Grow.eval_lit, Grow.ev]; refine hK _ _ ?_; clear hK K) | (refine Grow.lex_assign rfl ?_ rfl ?_; (· first | exact Grow.wanted_none | (rw [Hopsq.out]; rfl)); intro K hK; simp only [Grow.put_lit, Grow.setAt, Grow.eval_lit, Grow.ev]; refine hK _ _ ?_; clear hK K) | (refine Grow.lex_plain rfl rfl ?_ rfl ?_; (· first | exact Grow.wanted_none | (rw [Hopsq.out]; rfl)); apply Exists.intro; refine ⟨fun wq hCq _ => ?_, ?_⟩; (· (go_wp2_with fail; refine ⟨rfl, Below.refl _ _, ?_⟩; simp only [Grow.getD_lit, Grow.nth]; rfl)); intro K hK; simp only [Grow.put_lit, Grow.setAt]; refine hK _ _ ?_; clear hK K) | (refine Grow.lex_nilCheck rfl rfl ?_ rfl ?_; (· first | exact Grow.wanted_none | (rw [Hopsq.out]; rfl)); intro K hK; simp only [Grow.put_lit, Grow.setAt]; refine hK _ _ ?_; clear hK K) | (refine Grow.lex_skip ?_ ?_; (· (rw [Hopsq.out]; rfl)); intro K hK; simp only [Grow.put_lit, Grow.setAt]; refine hK _ _ ?_; clear hK K))
        (refine Grow.lex_call ?_ rfl ?_; (· first | exact Grow.wanted_none | (rw [Hopsq.out]; rfl)); apply Exists.intro; apply Exists.intro; refine ⟨fun wq => ?_, ?_⟩; (· (go_simp; exact ⟨rfl, rfl⟩)); apply Exists.intro; refine ⟨fun wq hCq hKq => ?_, ?_⟩; (· exact same9_refl L q1 c1 q2 c2 _ HLL.out (recR_out ((hKq 3 ⟨[], by rw [Hopsq.out]; kernel_rfl⟩).1.2 rfl)) (recR_out ((hKq 7 ⟨[], by rw [Hopsq.out]; kernel_rfl⟩).2 rfl))); intro K hK; simp only [Grow.put_lit, Grow.setAt]; refine hK _ _ ?_; clear hK K)
        repeat (first | (refine Grow.lex_move rfl ?_ rfl ?_; (· first | exact Grow.wanted_none | (rw [Hopsq.out]; rfl)); intro K hK; simp only [Grow.put_lit, Grow.setAt, Grow.eval_lit, Grow.ev]; refine hK _ _ ?_; clear hK K) | (refine Grow.lex_assign rfl ?_ rfl ?_; (· first | exact Grow.wanted_none | (rw [Hopsq.out]; rfl)); intro K hK; simp only [Grow.put_lit, Grow.setAt, Grow.eval_lit, Grow.ev]; refine hK _ _ ?_; clear hK K) | (refine Grow.lex_plain rfl rfl ?_ rfl ?_; (· first | exact Grow.wanted_none | (rw [Hopsq.out]; rfl)); apply Exists.intro; refine ⟨fun wq hCq _ => ?_, ?_⟩; (· (go_wp2_with fail; refine ⟨rfl, Below.refl _ _, ?_⟩; simp only [Grow.getD_lit, Grow.nth]; rfl)); intro K hK; simp only [Grow.put_lit, Grow.setAt]; refine hK _ _ ?_; clear hK K) | (refine Grow.lex_nilCheck rfl rfl ?_ rfl ?_; (· first | exact Grow.wanted_none | (rw [Hopsq.out]; rfl)); intro K hK; simp only [Grow.put_lit, Grow.setAt]; refine hK _ _ ?_; clear hK K) | (refine Grow.lex_skip ?_ ?_; (· (rw [Hopsq.out]; rfl)); intro K hK; simp only [Grow.put_lit, Grow.setAt]; refine hK _ _ ?_; clear hK K))
        (refine Grow.lex_callR (r := (fun _ v w => nilR v w)) ?_ rfl ?_; (· first | exact Grow.wanted_none | (rw [Hopsq.out]; rfl)); apply Exists.intro; apply Exists.intro; refine ⟨fun wq => ?_, ?_, ?_⟩; (· (go_simp; exact ⟨rfl, rfl⟩)); (· (intro wq hCq hKq; exact HS3.out _ (Grow.Cl.base hCq))); intro vq hWq; obtain ⟨_, _, hTT⟩ := hWq; obtain ⟨q3, c3, hvq⟩ := nilR_form (Grow.Holds.of_upd hTT).2; subst hvq; clear hTT; intro K hK; simp only [Grow.put_lit, Grow.setAt]; refine hK _ _ ?_; clear hK K)
        repeat (first | (refine Grow.lex_move rfl ?_ rfl ?_; (· first | exact Grow.wanted_none | (rw [Hopsq.out]; rfl)); intro K hK; simp only [Grow.put_lit, Grow.setAt, Grow.eval_lit, Grow.ev]; refine hK _ _ ?_; clear hK K) | (refine Grow.lex_assign rfl ?_ rfl ?_; (· first | exact Grow.wanted_none | (rw [Hopsq.out]; rfl)); intro K hK; simp only [Grow.put_lit, Grow.setAt, Grow.eval_lit, Grow.ev]; refine hK _ _ ?_; clear hK K) | (refine Grow.lex_plain rfl rfl ?_ rfl ?_; (· first | exact Grow.wanted_none | (rw [Hopsq.out]; rfl)); apply Exists.intro; refine ⟨fun wq hCq _ => ?_, ?_⟩; (· (go_wp2_with fail; refine ⟨rfl, Below.refl _ _, ?_⟩; simp only [Grow.getD_lit, Grow.nth]; rfl)); intro K hK; simp only [Grow.put_lit, Grow.setAt]; refine hK _ _ ?_; clear hK K) | (refine Grow.lex_nilCheck rfl rfl ?_ rfl ?_; (· first | exact Grow.wanted_none | (rw [Hopsq.out]; rfl)); intro K hK; simp only [Grow.put_lit, Grow.setAt]; refine hK _ _ ?_; clear hK K) | (refine Grow.lex_skip ?_ ?_; (· (rw [Hopsq.out]; rfl)); intro K hK; simp only [Grow.put_lit, Grow.setAt]; refine hK _ _ ?_; clear hK K))
        (refine Grow.lex_call ?_ rfl ?_; (· first | exact Grow.wanted_none | (rw [Hopsq.out]; rfl)); apply Exists.intro; apply Exists.intro; refine ⟨fun wq => ?_, ?_⟩; (· (go_simp; exact ⟨rfl, rfl⟩)); apply Exists.intro; refine ⟨fun wq hCq hKq => ?_, ?_⟩; (· exact HS4.out _ (Grow.Cl.base hCq)); intro K hK; simp only [Grow.put_lit, Grow.setAt]; refine hK _ _ ?_; clear hK K)
        repeat (first | (refine Grow.lex_move rfl ?_ rfl ?_; (· first | exact Grow.wanted_none | (rw [Hopsq.out]; rfl)); intro K hK; simp only [Grow.put_lit, Grow.setAt, Grow.eval_lit, Grow.ev]; refine hK _ _ ?_; clear hK K) | (refine Grow.lex_assign rfl ?_ rfl ?_; (· first | exact Grow.wanted_none | (rw [Hopsq.out]; rfl)); intro K hK; simp only [Grow.put_lit, Grow.setAt, Grow.eval_lit, Grow.ev]; refine hK _ _ ?_; clear hK K) | (refine Grow.lex_plain rfl rfl ?_ rfl ?_; (· first | exact Grow.wanted_none | (rw [Hopsq.out]; rfl)); apply Exists.intro; refine ⟨fun wq hCq _ => ?_, ?_⟩; (· (go_wp2_with fail; refine ⟨rfl, Below.refl _ _, ?_⟩; simp only [Grow.getD_lit, Grow.nth]; rfl)); intro K hK; simp only [Grow.put_lit, Grow.setAt]; refine hK _ _ ?_; clear hK K) | (refine Grow.lex_nilCheck rfl rfl ?_ rfl ?_; (· first | exact Grow.wanted_none | (rw [Hopsq.out]; rfl)); intro K hK; simp only [Grow.put_lit, Grow.setAt]; refine hK _ _ ?_; clear hK K) | (refine Grow.lex_skip ?_ ?_; (· (rw [Hopsq.out]; rfl)); intro K hK; simp only [Grow.put_lit, Grow.setAt]; refine hK _ _ ?_; clear hK K))
        (refine Grow.lex_call ?_ rfl ?_; (· first | exact Grow.wanted_none | (rw [Hopsq.out]; rfl)); apply Exists.intro; apply Exists.intro; refine ⟨fun wq => ?_, ?_⟩; (· (go_simp; exact ⟨rfl, rfl⟩)); apply Exists.intro; refine ⟨fun wq hCq hKq => ?_, ?_⟩; (· exact HS5.out _ (Grow.Cl.base hCq)); intro K hK; simp only [Grow.put_lit, Grow.setAt]; refine hK _ _ ?_; clear hK K)
        repeat (first | (refine Grow.lex_move rfl ?_ rfl ?_; (· first | exact Grow.wanted_none | (rw [Hopsq.out]; rfl)); intro K hK; simp only [Grow.put_lit, Grow.setAt, Grow.eval_lit, Grow.ev]; refine hK _ _ ?_; clear hK K) | (refine Grow.lex_assign rfl ?_ rfl ?_; (· first | exact Grow.wanted_none | (rw [Hopsq.out]; rfl)); intro K hK; simp only [Grow.put_lit, Grow.setAt, Grow.eval_lit, Grow.ev]; refine hK _ _ ?_; clear hK K) | (refine Grow.lex_plain rfl rfl ?_ rfl ?_; (· first | exact Grow.wanted_none | (rw [Hopsq.out]; rfl)); apply Exists.intro; refine ⟨fun wq hCq _ => ?_, ?_⟩; (· (go_wp2_with fail; refine ⟨rfl, Below.refl _ _, ?_⟩; simp only [Grow.getD_lit, Grow.nth]; rfl)); intro K hK; simp only [Grow.put_lit, Grow.setAt]; refine hK _ _ ?_; clear hK K) | (refine Grow.lex_nilCheck rfl rfl ?_ rfl ?_; (· first | exact Grow.wanted_none | (rw [Hopsq.out]; rfl)); intro K hK; simp only [Grow.put_lit, Grow.setAt]; refine hK _ _ ?_; clear hK K) | (refine Grow.lex_skip ?_ ?_; (· (rw [Hopsq.out]; rfl)); intro K hK; simp only [Grow.put_lit, Grow.setAt]; refine hK _ _ ?_; clear hK K))
        (refine Grow.lex_nil ?_; intro w6 hb6 _; replace hb6 := Grow.Cl.base hb6; clear Hopsq opsq)
        have HB6 := Lib.hid (HB5.out.trans (hb6.mono HB5.out.size))
        clear hb6 k0 k1 k2 k3 k4 k5 k6 k7 y0 y1 y2 y3 hsl
        go_wp2_with fail
        exact ⟨⟨j + 1, by omega, by go_num, HB6.out⟩, by simp [intOf]; omega⟩
set_option maxHeartbeats 1000000 in
set_option maxRecDepth 100000 in
theorem lanternServes_lifted (os : Os) (started : os.Started) (H : Type) (enc : TypeId × Value → H) :
    ReturnsInHanded {} Try.checked os 6 .any (Rows.lanternServesSpec.pre6 enc Try.prog Try.f6 Rows.lanternServesRow.domain false) (Rows.lanternServesSpec.post enc Try.prog Try.f6 false true false false) := by
  refine law_lifted (C := Try.checked) own laidOut started (by kernel_rfl) Try.func6 4 rfl Try.underlying4 (by kernel_rfl) rfl H enc
    (fun ds h => by match ds, h with | [d0, d1, d2], _ => rfl)
    (ChangeSpec.witness6 (enc := enc) (C := Try.checked) false ⟨#[], #[.int .u8 0, .slice none 0 0, .agg #[.slice none 0 0, .slice none 0 0, .slice none 0 0, .slice none 0 0]], []⟩ 8 (by kernel_rfl) (by kernel_rfl) (by kernel_rfl) (by kernel_rfl)) ?_
  intro W base args ds ps hval hA hsz
  have hA' : DataW.TrodAll enc Try.prog W 0 (fun _ => true) true Try.f6.params.toList args.toList ds ps := hA
  have hval' : ∀ (j : Nat) t v, Try.f6.params[j]? = some t → args[j]? = some v → Value.okWide Try.prog W .any base t v := hval
  rw [Try.params6] at hA' hval'
  obtain ⟨v0, vs0, d0, ds0, p0, q0, hargs, rfl, rfl, h0, r0⟩ := trodAll_cons hA'
  obtain ⟨v1, vs1, d1, ds1, p1, q1, rfl, rfl, rfl, h1, r1⟩ := trodAll_cons r0
  obtain ⟨v2, vs2, d2, ds2, p2, q2, rfl, rfl, rfl, h2, r2⟩ := trodAll_cons r1
  obtain ⟨rfl, rfl, rfl⟩ := trodAll_nil r2
  obtain rfl : args = #[v0, v1, v2] := by cases args; simp_all
  obtain ⟨x0, rfl, rfl, rfl, wx0⟩ := open_int Try.underlying5 (hval' 0 5 v0 rfl rfl) h0
  obtain ⟨l1, q1x, cap1, rfl, hl1, hu1⟩ := open_u8s (hval' 1 22 v1 rfl rfl) h1
  obtain ⟨R2, ar2, rfl, hr2, hp2, hf2, hl2, he2⟩ := open_img (hval' 2 56 v2 rfl rfl) h2
  (obtain ⟨m0, rfl, hm0⟩ := u8_wf wx0; exact lanternServes_walk m0 l1 q1x cap1 R2 ar2 W hm0 hl1 hu1 hr2 hp2 hf2 hl2 he2)

theorem lanternServes_over : Rows.lanternServesRow.holds Try.pinned (OpenSpec.ofChange Rows.lanternServesSpec) :=
  OpenClaim.holds_of_wide 6 Try.f6 rfl rfl rfl rfl rfl rfl rfl ⟨rfl, rfl, rfl, rfl, rfl⟩ rfl rfl rfl rfl rfl (by kernel_rfl) Try.func6 (by kernel_rfl)
    (of_decide_eq_true (by kernel_rfl)) (by unfold Func.isWrapper; first | (rw [if_pos (by decide +kernel)]; kernel_rfl) | (rw [if_neg (by decide +kernel)]; exact ⟨rfl, rfl⟩))
    (fun os started H enc _ => lanternServes_lifted os started H enc)

/-- THE STATEMENT. -/
theorem lanternServes_holds : Rows.LanternServesSaid := lanternServes_over
#print axioms lanternServes_holds
end Go.Proofs.Ytpgcpalemnnbaaa
