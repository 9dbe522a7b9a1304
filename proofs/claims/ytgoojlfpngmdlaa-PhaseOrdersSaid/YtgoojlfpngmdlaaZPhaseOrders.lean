/- PhaseOrders: what every command does for every car, or the first error, what happens by itself, and which cars serve and are ready, for made and arbitrary images. Conditions: none. -/
import Derived.Test.YtgoojlfpngmdlaaZSane25
import Derived.Test.YtgoojlfpngmdlaaZCalms
import Derived.Test.YtgoojlfpngmdlaaZFrame
import Derived.Test.YtgoojlfpngmdlaaZArgs25
namespace Go.Proofs.Ytgoojlfpngmdlaa
open Go.ChangeShapes Go.WideShapes Go.ChangeAt Go.RowKit
attribute [local go_sem] run_store_float
theorem carryF_len (m : ImgV) (c : Nat) (calm : Bool) (kind : Int) : (carryF m c calm kind).1.length ≤ 1 := by
  unfold carryF
  repeat' split
  all_goals simp
theorem orderF_len (b : BldV) (m : ImgV) (kind car : Int) (C : List Bool) : (orderF b m kind car C).1.length ≤ 1 := by
  unfold orderF
  split
  · simp
  split
  · simp
  split
  · simp
  split
  · simp
  exact carryF_len _ _ _ _
theorem autoF_len (b : BldV) (m : ImgV) (C : List Bool) (h : b.cars.length ≤ 100) : (autoF b m C).length ≤ 1000 := by
  unfold autoF
  split
  · rename_i hi
    have h1 := (imgB_facts hi.1).2.2.1
    have := autoN_len m C m.ph.length
    omega
  · simp
/-- The bools from the second on. -/
theorem run_sliceB (g k c : Nat) (h : 1 ≤ k) (W : World) : (Instr.slice 32 (.slice (some ⟨g, 0, none⟩) k c) (some (.int .i64 1)) none none).run Try.prog W = .ok (.slice (if c = 1 then some ⟨g, 0, none⟩ else some ⟨g, 1, none⟩) (k - 1) (c - 1)) W := by
  have h1 : (1 : Int) ≤ (k : Int) := by omega
  have h2 : (Go.sizeOf 4).run Try.prog W = .ok 1 W := by kernel_rfl
  by_cases hc : c = 1
  · simp [Instr.slice, Instr.sliceBounds, Instr.sliceBound, asIntOf, run_underlying Try.underlying32, Result.andThen, h1, hc, h2]
  · simp [Instr.slice, Instr.sliceBounds, Instr.sliceBound, asIntOf, run_underlying Try.underlying32, Result.andThen, h1, hc, h2, Addr.add]
theorem rdB_drop {W : World} {g c : Nat} {C : List Bool} (hc : C.length ≤ c) (h : RdX W (some ⟨g, 0, none⟩) (boolCells C)) : RdX W (if c = 1 then some ⟨g, 0, none⟩ else some ⟨g, 1, none⟩) (boolCells (C.drop 1)) := by
  intro i u hu
  simp only [boolCells, List.map_drop, List.getElem?_drop] at hu
  have hl : 1 + i < C.length := by have := (List.getElem?_eq_some_iff.1 hu).1; simpa using this
  rw [if_neg (by omega)]
  obtain ⟨A, hA, hlt, hcell⟩ := h (1 + i) u hu
  obtain rfl : (⟨g, 0, none⟩ : Addr) = A := by simpa using hA
  refine ⟨_, rfl, hlt, ?_⟩
  have e : (⟨g, 0, none⟩ : Addr).add (1 + i) = (⟨g, 1, none⟩ : Addr).add i := by
    simp only [Addr.add]
    split <;> split <;> simp <;> omega
  rwa [e] at hcell
theorem orderF_drop (b : BldV) (m : ImgV) (kind car : Int) (C : List Bool) (k : Nat) (h : b.cars.length = k) (h' : C.length = k) (h1 : 1 ≤ k) : orderF b m kind car (C.drop 1) = ([], 1) := by
  unfold orderF
  rw [if_pos]
  rintro ⟨_, h2⟩
  rw [List.length_drop] at h2
  omega
theorem autoF_drop (b : BldV) (m : ImgV) (C : List Bool) (k : Nat) (h : b.cars.length = k) (h' : C.length = k) (h1 : 1 ≤ k) : autoF b m (C.drop 1) = [] := by
  unfold autoF
  rw [if_neg]
  rintro ⟨_, h2⟩
  rw [List.length_drop] at h2
  omega
/-- An image that can be read. -/
def imgR (m : ImgV) (v : Value) (w : World) : Prop := ∃ a, v = cvM m a ∧ RdM w m a
theorem imgR_stable (m : ImgV) (v : Value) : Grow.Stable (imgR m v) := fun _ _ ⟨a, hv, hr⟩ hb => ⟨a, hv, hr.next hb⟩
theorem imgR_form {m : ImgV} {v : Value} {w : World} (h : imgR m v w) : ∃ a, v = cvM m a := h.imp fun _ h => h.1
theorem imgR_out {m : ImgV} {a : ImgA} {w : World} (h : imgR m (cvM m a) w) : RdM w m a := by
  obtain ⟨a', hv, hr⟩ := h
  obtain ⟨p, pc, f, fc, l, lc, e, ec⟩ := a
  obtain ⟨p', pc', f', fc', l', lc', e', ec'⟩ := a'
  simp at hv
  obtain ⟨⟨rfl, rfl⟩, ⟨rfl, rfl⟩, ⟨rfl, rfl⟩, rfl, rfl⟩ := hv
  exact hr
/-- Three images, of which the first two lie beside. -/
def ims3 (m m' : ImgV) (xs : List Value) (v : Value) (w : World) : Prop := ∃ g a a', v = .slice (some ⟨g, 0, none⟩) 3 3 ∧ Blk w g (([.slice a.p m.ph.length a.pc, .slice a.f m.fg.length a.fc, .slice a.l m.lv.length a.lc, .slice a.e m.en.length a.ec] : List Value) ++ ([.slice a'.p m'.ph.length a'.pc, .slice a'.f m'.fg.length a'.fc, .slice a'.l m'.lv.length a'.lc, .slice a'.e m'.en.length a'.ec] : List Value) ++ xs) ∧ RdM w m a ∧ RdM w m' a'
def oPlan (m m' : ImgV) (xs : List Value) : Grow.Plan := fun i => if i = 2 then some (fun _ v w => imgR m v w) else if i = 4 then some (fun _ v w => imgR m' v w) else if i = 6 then some (fun _ v w => ims3 m m' xs v w) else none
theorem oPlan_stable (m m' : ImgV) (xs : List Value) : (oPlan m m' xs).stable := by
  intro i r0 h _ v w w' hw hb
  unfold oPlan at h
  split at h
  · cases h; exact imgR_stable _ _ _ _ hw hb
  · split at h
    · cases h; exact imgR_stable _ _ _ _ hw hb
    · split at h
      · cases h; obtain ⟨g, a, a', hv, h1, h2, h3⟩ := hw; exact ⟨g, a, a', hv, h1.next hb, h2.next hb, h3.next hb⟩
      · cases h
theorem lex_ims3 {P : Program} {ops : Array Oper} {md : Region.Mode} {w0 : World} {pl : Grow.Plan} {Q : Act → Grow.Facts → Prop} {rest : List Oper} {a : Act} {T : Grow.Facts} {o : Oper} {j : Nat} (m m' : ImgV) (A A' : ImgA) (xs : List Value) (ty : TypeId) (hpl : pl j = some (fun _ v w => ims3 m m' xs v w)) (hw : Region.wanted o (yielded ops a.tmps) = true)
    (hz : ∀ w, (execOp a.eval o).run P w = .ok (.value (.slice (some ⟨w.heap.size, 0, none⟩) 3 3)) (w.alloc (.cells (([.slice A.p m.ph.length A.pc, .slice A.f m.fg.length A.fc, .slice A.l m.lv.length A.lc, .slice A.e m.en.length A.ec] : List Value) ++ ([.slice A'.p m'.ph.length A'.pc, .slice A'.f m'.fg.length A'.fc, .slice A'.l m'.lv.length A'.lc, .slice A'.e m'.en.length A'.ec] : List Value) ++ xs).toArray ty))) (hr : ∀ w, Grow.Cl w0 w → Grow.Known ops md T j w → RdM w m A ∧ RdM w m' A')
    (h : ∀ g, Grow.lexR P ops md w0 pl Q (j + 1) rest (a.put o.dst (.slice (some ⟨g, 0, none⟩) 3 3)) (Grow.upd T j (ims3 m m' xs (.slice (some ⟨g, 0, none⟩) 3 3)))) : Grow.lexR P ops md w0 pl Q j (o :: rest) a T := by
  refine Grow.lex_rel hw hpl (fun w hC hK => ?_) fun v hW => ?_
  · unfold Grow.yields
    rw [hz w]
    exact ⟨below1' _ _, w.heap.size, A, A', rfl, Blk.new _ _ _, (hr w hC hK).1.next (below1' _ _), (hr w hC hK).2.next (below1' _ _)⟩
  · obtain ⟨w, _, hT⟩ := hW
    obtain ⟨_, g, a', a'', rfl, _⟩ := Grow.Holds.of_upd hT
    exact h g
def aPlan (L : List R5) : Grow.Plan := fun i => if i = 3 then some (fun _ v w => recR L v w) else if i = 7 then some (fun _ v w => recR L v w) else if i = 24 then some (fun _ v w => recR [] v w) else none
theorem aPlan_stable (L : List R5) : (aPlan L).stable := by
  intro i r0 h _ v w w' hw hb
  unfold aPlan at h
  split at h
  · cases h; exact hw.next hb
  · split at h
    · cases h; exact hw.next hb
    · split at h
      · cases h; exact hw.next hb
      · cases h
def bigB (m : ImgV) : Bool := decide (80 < m.en.length) || decide (20 < m.ph.length) || decide (20 < m.fg.length) || decide (20 < m.lv.length)
set_option maxHeartbeats 8000000 in
set_option maxRecDepth 100000 in
theorem phaseOrders_walk (n0 n1 n2 : Nat) (l : List Nat) (ql : Option Addr) (capl : Nat) (R : ImgV) (ar : ImgA) (w : World) (hn0 : n0 < 256) (hn1 : n1 < 256) (hn2 : n2 < 256) (hl : l.length ≤ maxLen) (hu : RdU w ql l) (hrw : RdM w R ar) (h1 : R.ph.length ≤ maxLen) (h2 : R.fg.length ≤ maxLen) (h3 : R.lv.length ≤ maxLen) (h4 : R.en.length ≤ maxLen) :
    Calls Try.prog 5 #[.agg #[.int .u8 n0, .int .u8 n1, .int .u8 n2], .slice ql l.length capl, cvM R ar] w fun e w' => e = .returned (.bool true) ∧ Below w.heap.size w w' := by
  have X0 : Blk (w.alloc (.cells #[.int .u8 n0, .int .u8 n1, .int .u8 n2] 55)) w.heap.size [.int .u8 n0, .int .u8 n1, .int .u8 n2] := by
    have hx := Blk.new w [.int .u8 n0, .int .u8 n1, .int .u8 n2] 55
    exact hx
  replace X0 : Blk ((w.alloc (.cells #[.int .u8 n0, .int .u8 n1, .int .u8 n2] 55)).alloc (.cells #[.slice ar.p R.ph.length ar.pc, .slice ar.f R.fg.length ar.fc, .slice ar.l R.lv.length ar.lc, .slice ar.e R.en.length ar.ec] 35)) w.heap.size [.int .u8 n0, .int .u8 n1, .int .u8 n2] := X0.next (below1' _ _)
  have X1 : Blk ((w.alloc (.cells #[.int .u8 n0, .int .u8 n1, .int .u8 n2] 55)).alloc (.cells #[.slice ar.p R.ph.length ar.pc, .slice ar.f R.fg.length ar.fc, .slice ar.l R.lv.length ar.lc, .slice ar.e R.en.length ar.ec] 35)) (w.heap.size + 1) [.slice ar.p R.ph.length ar.pc, .slice ar.f R.fg.length ar.fc, .slice ar.l R.lv.length ar.lc, .slice ar.e R.en.length ar.ec] := by
    have hx := Blk.new (w.alloc (.cells #[.int .u8 n0, .int .u8 n1, .int .u8 n2] 55)) [.slice ar.p R.ph.length ar.pc, .slice ar.f R.fg.length ar.fc, .slice ar.l R.lv.length ar.lc, .slice ar.e R.en.length ar.ec] 35
    rw [World.size_alloc] at hx
    exact hx
  have XW : Below w.heap.size w (w.alloc (.cells #[.int .u8 n0, .int .u8 n1, .int .u8 n2] 55)) := below1' w _
  replace XW : Below w.heap.size w ((w.alloc (.cells #[.int .u8 n0, .int .u8 n1, .int .u8 n2] 55)).alloc (.cells #[.slice ar.p R.ph.length ar.pc, .slice ar.f R.fg.length ar.fc, .slice ar.l R.lv.length ar.lc, .slice ar.e R.en.length ar.ec] 35)) := XW.trans ((below1' _ _).mono XW.size)
  have HWW := Lib.hid XW; have HX0 := Lib.hid X0; have HX1 := Lib.hid X1
  clear XW X0 X1
  have HL := Lib.hid hl; have HU := Lib.hid (hu.next HWW.out); have HRW := Lib.hid (hrw.next HWW.out)
  have h5 : bigB R = true ∨ (bigB R = false ∧ R.en.length ≤ 80 ∧ R.ph.length ≤ 20 ∧ R.fg.length ≤ 20 ∧ R.lv.length ≤ 20) := by
    cases hb : bigB R
    · right
      simp [bigB] at hb
      exact ⟨rfl, by omega, by omega, by omega, by omega⟩
    · left; rfl
  have H5 := Lib.hid h5
  unfold maxLen at h1 h2 h3 h4
  have HBG : Hid (bigB R = (decide (80 < R.en.length) || decide (20 < R.ph.length) || decide (20 < R.fg.length) || decide (20 < R.lv.length))) := Lib.hid rfl
  clear hl hu hrw h5
  go_enter Try.func5, Try.ntmps5
  go_upto_region 1 with fail
  generalize ((w.alloc (.cells #[.int .u8 n0, .int .u8 n1, .int .u8 n2] 55)).alloc (.cells #[.slice ar.p R.ph.length ar.pc, .slice ar.f R.fg.length ar.fc, .slice ar.l R.lv.length ar.lc, .slice ar.e R.en.length ar.ec] 35)) = w0 at *
  generalize hg1 : w.heap.size + 1 = g1 at *
  have HG1 := Lib.hid hg1; have hq1 : w.heap.size + 1 ≤ g1 := by omega
  clear hg1
  have HW := Lib.hid (Below.refl w0.heap.size w0)
  have hz0 := HX0.out.lt; have hz1 := HX1.out.lt
  have y0 := (HX1.out).cell 0 _ rfl
  have y1 := (HX1.out).cell 1 _ rfl
  have y2 := (HX1.out).cell 2 _ rfl
  have y3 := (HX1.out).cell 3 _ rfl
  go_cut [41] from 20 to 41 (fun v wx => v = .bool (bigB R) ∧ wx = w0)
  case first =>
    by_cases a1 : 80 < R.en.length
    rotate_left 1
    · by_cases a2 : 20 < R.ph.length
      rotate_left 1
      · by_cases a3 : 20 < R.fg.length
        rotate_left 1
        · by_cases a4 : 20 < R.lv.length
          all_goals
            have A1 := Lib.hid a1; have A2 := Lib.hid a2; have A3 := Lib.hid a3; have A4 := Lib.hid a4
            go_wp2_with fail
            go_meet
            exact ⟨by have b1 := A1.out; have b2 := A2.out; have b3 := A3.out; have b4 := A4.out; rw [HBG.out]; first | (simp [b1, b2, b3, b4]; done) | (simp [b1, b2, b3, b4]; omega) | (congr 1; simp only [Bool.eq_iff_iff, Bool.or_eq_true, decide_eq_true_eq]; omega), rfl⟩
        · have A3 := Lib.hid a3
          go_wp2_with fail
          go_meet
          exact ⟨by have b3 := A3.out; rw [HBG.out]; simp [b3], rfl⟩
      · have A2 := Lib.hid a2
        go_wp2_with fail
        go_meet
        exact ⟨by have b2 := A2.out; rw [HBG.out]; simp [b2], rfl⟩
    · have A1 := Lib.hid a1
      go_wp2_with fail
      go_meet
      exact ⟨by have b1 := A1.out; rw [HBG.out]; simp [b1], rfl⟩
  case rest =>
    obtain ⟨rfl, hwq⟩ := hcut
    subst hwq
    clear y0 y1 y2 y3
    rcases H5.out with hb | ⟨hb, hl1, hl2, hl3, hl4⟩
    · rw [hb]
      clear hb H5 HBG
      go_wp2_with fail
      refine (sane25_any _).mono ?_
      rintro e w11 ⟨rfl, hb11⟩
      go_wp2_with fail
      go_ret
      exact ⟨rfl, HWW.out.trans (hb11.mono HWW.out.size)⟩
    rw [hb]
    clear hb H5 HBG HW
    have x0 := (HX0.out).cell 0 _ rfl
    have x1 := (HX0.out).cell 1 _ rfl
    have x2 := (HX0.out).cell 2 _ rfl
    go_wp2_with fail
    have hB := b10_any n0 n1 wc hn0 hn1
    refine hB.mono ?_
    clear hB
    rintro e w1 ⟨g, cap, rfl, hg0, hg1, hr, hb⟩
    have hlc : (b10 n0 n1).cars.length = k10 n0 := cars10_len n0 n1
    have hkr := k10_range n0
    have HSL := Lib.hid (slack10 n0 n1)
    have HF2 : Hid (2 ≤ (b10 n0 n1).fl ∧ (b10 n0 n1).fl ≤ 8) := Lib.hid (fl10_range n0)
    obtain ⟨k, hk⟩ : ∃ k, k10 n0 = k := ⟨_, rfl⟩
    rw [hk] at hlc hkr
    have HK := Lib.hid hlc
    have HR1 := Lib.hid hr; have HB1 := Lib.hid (HWW.out.trans (hb.mono HWW.out.size))
    have HU1 := Lib.hid (HU.out.next hb); have HRW1 := Lib.hid (HRW.out.next hb); have HX1' := Lib.hid (HX1.out.next hb); have HY1 := Lib.hid (HX0.out.next hb)
    clear hr hb hlc hk HU HRW HX0 HX1 HWW x0 x1 x2
    generalize b10 n0 n1 = b at *
    go_upto_region 4 with fail
    have B5 := Blk.new w1 [.int .i64 b.fl, .int .i64 b.deb, .int .i64 b.room, .int .i64 b.park, .float .f64 b.em, .float .f64 b.fu, .float .f64 b.ov, .slice (some ⟨g, 0, none⟩) b.cars.length cap] 29
    have hb5 := below1' w1 (.cells #[.int .i64 b.fl, .int .i64 b.deb, .int .i64 b.room, .int .i64 b.park, .float .f64 b.em, .float .f64 b.fu, .float .f64 b.ov, .slice (some ⟨g, 0, none⟩) b.cars.length cap] 29)
    change Blk (w1.alloc (.cells #[.int .i64 b.fl, .int .i64 b.deb, .int .i64 b.room, .int .i64 b.park, .float .f64 b.em, .float .f64 b.fu, .float .f64 b.ov, .slice (some ⟨g, 0, none⟩) b.cars.length cap] 29)) _ _ at B5
    have HW2 := Lib.hid (HB1.out.trans (hb5.mono HB1.out.size))
    have HR2 := Lib.hid (HR1.out.next hb5)
    have HU2 := Lib.hid (HU1.out.next hb5); have HRW2 := Lib.hid (HRW1.out.next hb5); have HI2 := Lib.hid (HX1'.out.next hb5); have HY2 := Lib.hid (HY1.out.next hb5)
    have HX2 := Lib.hid B5
    clear B5 hb5 HB1 HR1 HU1 HRW1 HX1' HY1
    generalize w1.alloc (.cells #[.int .i64 b.fl, .int .i64 b.deb, .int .i64 b.room, .int .i64 b.park, .float .f64 b.em, .float .f64 b.fu, .float .f64 b.ov, .slice (some ⟨g, 0, none⟩) b.cars.length cap] 29) = w2 at *
    generalize w1.heap.size = g5 at *
    have k0 := (HX2.out).cell 0 _ rfl
    have k1 := (HX2.out).cell 1 _ rfl
    have k2 := (HX2.out).cell 2 _ rfl
    have k3 := (HX2.out).cell 3 _ rfl
    have k4 := (HX2.out).cell 4 _ rfl
    have k5 := (HX2.out).cell 5 _ rfl
    have k6 := (HX2.out).cell 6 _ rfl
    have k7 := (HX2.out).cell 7 _ rfl
    have x0 := (HY2.out).cell 0 _ rfl
    have x1 := (HY2.out).cell 1 _ rfl
    have x2 := (HY2.out).cell 2 _ rfl
    go_wp2_with fail
    refine (calms_any b (some ⟨g, 0, none⟩) cap n2 w2 hn2 (by rw [HK.out]; omega)).mono ?_
    rintro e w3 ⟨v, C, rfl, hCk, hown, hb3⟩
    rw [HK.out] at hCk hown
    obtain ⟨qv, capv, rfl⟩ := row_form hown
    obtain ⟨g6, c6, hq6, _, _⟩ := World.ownsRow.form hown (by omega)
    simp only [Value.slice.injEq, true_and] at hq6
    obtain ⟨rfl, rfl⟩ := hq6
    have hcap : k ≤ capv := row_cap hown
    have HC3 := Lib.hid (rdX_of_owns hown); have HCK := Lib.hid hCk
    have HW3 := Lib.hid (HW2.out.trans (hb3.mono HW2.out.size))
    have HR3 := Lib.hid (HR2.out.next hb3); have HU3 := Lib.hid (HU2.out.next hb3); have HRW3 := Lib.hid (HRW2.out.next hb3); have HI3 := Lib.hid (HI2.out.next hb3); have HX3 := Lib.hid (HX2.out.next hb3)
    clear hCk hown hb3 HR2 HU2 HRW2 HI2 HX2 HW2 HY2 k0 k1 k2 k3 k4 k5 k6 k7 x0 x1 x2
    go_upto_region 5 with fail
    obtain ⟨mI, hmI⟩ : ∃ mI, mI = imageF b l := ⟨_, rfl⟩
    obtain ⟨mN, hmN⟩ : ∃ mN, mN = imageF b [] := ⟨_, rfl⟩
    have HMI := Lib.hid hmI; have HMN := Lib.hid hmN
    clear hmI hmN
    have k0 := (HX3.out).reg 0 _ rfl
    have k1 := (HX3.out).reg 1 _ rfl
    have k2 := (HX3.out).reg 2 _ rfl
    have k3 := (HX3.out).reg 3 _ rfl
    have k4 := (HX3.out).reg 4 _ rfl
    have k5 := (HX3.out).reg 5 _ rfl
    have k6 := (HX3.out).reg 6 _ rfl
    have k7 := (HX3.out).reg 7 _ rfl
    have y0 := (HI3.out).reg 0 _ rfl
    have y1 := (HI3.out).reg 1 _ rfl
    have y2 := (HI3.out).reg 2 _ rfl
    have y3 := (HI3.out).reg 3 _ rfl
    have HNU : Hid (∀ W, RdU W none []) := Lib.hid fun W i x hx => by simp at hx
    refine Grow.wp_region (oPlan mI mN [.slice ar.p R.ph.length ar.pc, .slice ar.f R.fg.length ar.fc, .slice ar.l R.lv.length ar.lc, .slice ar.e R.en.length ar.ec]) (oPlan_stable _ _ _) (by kernel_rfl) (by kernel_rfl) ?_
    intro opsq Hopsq
    repeat (first | (refine Grow.lex_move rfl ?_ rfl ?_; (· first | exact Grow.wanted_none | (rw [Hopsq.out]; rfl)); intro K hK; simp only [Grow.put_lit, Grow.setAt, Grow.eval_lit, Grow.ev]; refine hK _ _ ?_; clear hK K) | (refine Grow.lex_assign rfl ?_ rfl ?_; (· first | exact Grow.wanted_none | (rw [Hopsq.out]; rfl)); intro K hK; simp only [Grow.put_lit, Grow.setAt, Grow.eval_lit, Grow.ev]; refine hK _ _ ?_; clear hK K) | (refine Grow.lex_plain rfl rfl ?_ rfl ?_; (· first | exact Grow.wanted_none | (rw [Hopsq.out]; rfl)); apply Exists.intro; refine ⟨fun wq hCq _ => ?_, ?_⟩; (· (go_wp2_with fail; refine ⟨rfl, Below.refl _ _, ?_⟩; simp only [Grow.getD_lit, Grow.nth]; rfl)); intro K hK; simp only [Grow.put_lit, Grow.setAt]; refine hK _ _ ?_; clear hK K) | (refine Grow.lex_nilCheck rfl rfl ?_ rfl ?_; (· first | exact Grow.wanted_none | (rw [Hopsq.out]; rfl)); intro K hK; simp only [Grow.put_lit, Grow.setAt]; refine hK _ _ ?_; clear hK K) | (refine Grow.lex_skip ?_ ?_; (· (rw [Hopsq.out]; rfl)); intro K hK; simp only [Grow.put_lit, Grow.setAt]; refine hK _ _ ?_; clear hK K))
    (refine Grow.lex_callR (r := (fun _ v w => imgR mI v w)) ?_ rfl ?_; (· first | exact Grow.wanted_none | (rw [Hopsq.out]; rfl)); apply Exists.intro; apply Exists.intro; refine ⟨fun wq => ?_, ?_, ?_⟩; (· (go_simp; exact ⟨rfl, rfl⟩)); (· (intro wq hCq hKq; exact (image_any b _ _ l ql capl _ (by rw [HK.out]; omega) (by rw [HK.out]; omega) HF2.out.1 (by have := HF2.out.2; omega) HSL.out (HR3.out.next (Grow.Cl.base hCq)) HL.out (HU3.out.next (Grow.Cl.base hCq))).mono fun e w' ⟨a, he, ho, hb⟩ => ⟨_, he, hb, a, by rw [HMI.out], by rw [HMI.out]; exact ho.rd⟩)); intro vq hWq; obtain ⟨_, _, hTT⟩ := hWq; obtain ⟨a, hvq⟩ := imgR_form (Grow.Holds.of_upd hTT).2; subst hvq; clear hTT; intro K hK; simp only [Grow.put_lit, Grow.setAt]; refine hK _ _ ?_; clear hK K)
    repeat (first | (refine Grow.lex_move rfl ?_ rfl ?_; (· first | exact Grow.wanted_none | (rw [Hopsq.out]; rfl)); intro K hK; simp only [Grow.put_lit, Grow.setAt, Grow.eval_lit, Grow.ev]; refine hK _ _ ?_; clear hK K) | (refine Grow.lex_assign rfl ?_ rfl ?_; (· first | exact Grow.wanted_none | (rw [Hopsq.out]; rfl)); intro K hK; simp only [Grow.put_lit, Grow.setAt, Grow.eval_lit, Grow.ev]; refine hK _ _ ?_; clear hK K) | (refine Grow.lex_plain rfl rfl ?_ rfl ?_; (· first | exact Grow.wanted_none | (rw [Hopsq.out]; rfl)); apply Exists.intro; refine ⟨fun wq hCq _ => ?_, ?_⟩; (· (go_wp2_with fail; refine ⟨rfl, Below.refl _ _, ?_⟩; simp only [Grow.getD_lit, Grow.nth]; rfl)); intro K hK; simp only [Grow.put_lit, Grow.setAt]; refine hK _ _ ?_; clear hK K) | (refine Grow.lex_nilCheck rfl rfl ?_ rfl ?_; (· first | exact Grow.wanted_none | (rw [Hopsq.out]; rfl)); intro K hK; simp only [Grow.put_lit, Grow.setAt]; refine hK _ _ ?_; clear hK K) | (refine Grow.lex_skip ?_ ?_; (· (rw [Hopsq.out]; rfl)); intro K hK; simp only [Grow.put_lit, Grow.setAt]; refine hK _ _ ?_; clear hK K))
    (refine Grow.lex_callR (r := (fun _ v w => imgR mN v w)) ?_ rfl ?_; (· first | exact Grow.wanted_none | (rw [Hopsq.out]; rfl)); apply Exists.intro; apply Exists.intro; refine ⟨fun wq => ?_, ?_, ?_⟩; (· (go_simp; exact ⟨rfl, rfl⟩)); (· (intro wq hCq hKq; exact (image_any b _ _ [] none 0 _ (by rw [HK.out]; omega) (by rw [HK.out]; omega) HF2.out.1 (by have := HF2.out.2; omega) HSL.out (HR3.out.next (Grow.Cl.base hCq)) (by simp [maxLen]) (HNU.out _)).mono fun e w' ⟨a, he, ho, hb⟩ => ⟨_, he, hb, a, by rw [HMN.out], by rw [HMN.out]; exact ho.rd⟩)); intro vq hWq; obtain ⟨_, _, hTT⟩ := hWq; obtain ⟨a2, hvq⟩ := imgR_form (Grow.Holds.of_upd hTT).2; subst hvq; clear hTT; intro K hK; simp only [Grow.put_lit, Grow.setAt]; refine hK _ _ ?_; clear hK K)
    repeat (first | (refine Grow.lex_move rfl ?_ rfl ?_; (· first | exact Grow.wanted_none | (rw [Hopsq.out]; rfl)); intro K hK; simp only [Grow.put_lit, Grow.setAt, Grow.eval_lit, Grow.ev]; refine hK _ _ ?_; clear hK K) | (refine Grow.lex_assign rfl ?_ rfl ?_; (· first | exact Grow.wanted_none | (rw [Hopsq.out]; rfl)); intro K hK; simp only [Grow.put_lit, Grow.setAt, Grow.eval_lit, Grow.ev]; refine hK _ _ ?_; clear hK K) | (refine Grow.lex_plain rfl rfl ?_ rfl ?_; (· first | exact Grow.wanted_none | (rw [Hopsq.out]; rfl)); apply Exists.intro; refine ⟨fun wq hCq _ => ?_, ?_⟩; (· (go_wp2_with fail; refine ⟨rfl, Below.refl _ _, ?_⟩; simp only [Grow.getD_lit, Grow.nth]; rfl)); intro K hK; simp only [Grow.put_lit, Grow.setAt]; refine hK _ _ ?_; clear hK K) | (refine Grow.lex_nilCheck rfl rfl ?_ rfl ?_; (· first | exact Grow.wanted_none | (rw [Hopsq.out]; rfl)); intro K hK; simp only [Grow.put_lit, Grow.setAt]; refine hK _ _ ?_; clear hK K) | (refine Grow.lex_skip ?_ ?_; (· (rw [Hopsq.out]; rfl)); intro K hK; simp only [Grow.put_lit, Grow.setAt]; refine hK _ _ ?_; clear hK K))
    refine lex_ims3 mI mN a a2 [.slice ar.p R.ph.length ar.pc, .slice ar.f R.fg.length ar.fc, .slice ar.l R.lv.length ar.lc, .slice ar.e R.en.length ar.ec] 35 rfl ?_ (fun wq => ?_) (fun wq hCq hKq => ⟨imgR_out ((hKq 2 ⟨[], by rw [Hopsq.out]; kernel_rfl⟩).1.2 rfl), imgR_out ((hKq 4 ⟨[], by rw [Hopsq.out]; kernel_rfl⟩).2 rfl)⟩) ?_
    · first | exact Grow.wanted_none | (rw [Hopsq.out]; rfl)
    · go_simp
    intro g7
    simp only [Grow.put_lit, Grow.setAt]
    repeat (first | (refine Grow.lex_move rfl ?_ rfl ?_; (· first | exact Grow.wanted_none | (rw [Hopsq.out]; rfl)); intro K hK; simp only [Grow.put_lit, Grow.setAt, Grow.eval_lit, Grow.ev]; refine hK _ _ ?_; clear hK K) | (refine Grow.lex_assign rfl ?_ rfl ?_; (· first | exact Grow.wanted_none | (rw [Hopsq.out]; rfl)); intro K hK; simp only [Grow.put_lit, Grow.setAt, Grow.eval_lit, Grow.ev]; refine hK _ _ ?_; clear hK K) | (refine Grow.lex_plain rfl rfl ?_ rfl ?_; (· first | exact Grow.wanted_none | (rw [Hopsq.out]; rfl)); apply Exists.intro; refine ⟨fun wq hCq _ => ?_, ?_⟩; (· (go_wp2_with fail; refine ⟨rfl, Below.refl _ _, ?_⟩; simp only [Grow.getD_lit, Grow.nth]; rfl)); intro K hK; simp only [Grow.put_lit, Grow.setAt]; refine hK _ _ ?_; clear hK K) | (refine Grow.lex_nilCheck rfl rfl ?_ rfl ?_; (· first | exact Grow.wanted_none | (rw [Hopsq.out]; rfl)); intro K hK; simp only [Grow.put_lit, Grow.setAt]; refine hK _ _ ?_; clear hK K) | (refine Grow.lex_skip ?_ ?_; (· (rw [Hopsq.out]; rfl)); intro K hK; simp only [Grow.put_lit, Grow.setAt]; refine hK _ _ ?_; clear hK K))
    refine Grow.lex_nil ?_
    intro w4 hb4 hTT
    obtain ⟨_, g7', aI, aN, hgq, hB7, hMI7, hMN7⟩ := Grow.Holds.of_upd hTT
    obtain rfl : g7 = g7' := by simpa using hgq
    replace hb4 := Grow.Cl.base hb4
    have hlI : (mI.ph.length ≤ 1000 ∧ mI.en.length ≤ 60) ∧ (mN.ph.length ≤ 1000 ∧ mN.en.length ≤ 60) := by
      have h := fun (l : List Nat) => imgK_len b (recL b l 60) (by rw [HK.out]; omega) 60
      have hh : ∀ l, (imageF b l).ph.length ≤ 1000 ∧ (imageF b l).en.length ≤ 60 := fun l => by
        have h1 := h l
        rw [List.take_of_length_le (by simp only [recL, recT_len]; omega)] at h1
        exact h1
      rw [HMI.out, HMN.out]
      exact ⟨hh _, hh _⟩
    have HA : Hid (∀ W, Below w4.heap.size w4 W → Blk W g5 [.int .i64 b.fl, .int .i64 b.deb, .int .i64 b.room, .int .i64 b.park, .float .f64 b.em, .float .f64 b.fu, .float .f64 b.ov, .slice (some ⟨g, 0, none⟩) b.cars.length cap] ∧ RdC W (some ⟨g, 0, none⟩) b.cars ∧ RdX W (some ⟨g6, 0, none⟩) (boolCells C) ∧ Below w.heap.size w W ∧ ∀ j : Nat, j < 3 → ∃ (m : ImgV) (a : ImgA), m.ph.length ≤ 1000 ∧ m.en.length ≤ 200 ∧ RdM W m a ∧ W.cell? ⟨g7, j * 4, none⟩ = some (.slice a.p m.ph.length a.pc) ∧ W.cell? ⟨g7, j * 4 + 1, none⟩ = some (.slice a.f m.fg.length a.fc) ∧ W.cell? ⟨g7, j * 4 + 2, none⟩ = some (.slice a.l m.lv.length a.lc) ∧ W.cell? ⟨g7, j * 4 + 3, none⟩ = some (.slice a.e m.en.length a.ec)) := Lib.hid fun W h => by
      have h3 := hb4.trans (h.mono hb4.size)
      have hX := hB7.next h
      refine ⟨HX3.out.next h3, HR3.out.next h3, HC3.out.next h3, HW3.out.trans (h3.mono HW3.out.size), fun j hj => ?_⟩
      match j, hj with
      | 0, _ => exact ⟨mI, aI, hlI.1.1, by omega, hMI7.next h, hX.cell 0 _ rfl, hX.cell 1 _ rfl, hX.cell 2 _ rfl, hX.cell 3 _ rfl⟩
      | 1, _ => exact ⟨mN, aN, hlI.2.1, by omega, hMN7.next h, hX.cell 4 _ rfl, hX.cell 5 _ rfl, hX.cell 6 _ rfl, hX.cell 7 _ rfl⟩
      | 2, _ => exact ⟨R, ar, by omega, by omega, HRW3.out.next h3, hX.cell 8 _ rfl, hX.cell 9 _ rfl, hX.cell 10 _ rfl, hX.cell 11 _ rfl⟩
    clear hTT hgq hB7 hMI7 hMN7 hlI hb4 Hopsq opsq HX3 HR3 HC3 HW3 HI3 HU3 HRW3 HNU k0 k1 k2 k3 k4 k5 k6 k7 y0 y1 y2 y3 HMI HMN
    go_wp2_with fail
    go_loopw [60] (fun v wr => ∃ j : Nat, j ≤ 3 ∧ v = .int .i64 j ∧ Below w4.heap.size w4 wr) (fun v _ => 3 - (intOf v).toNat)
    case atStart => exact ⟨0, by omega, rfl, Below.refl _ _⟩
    case round =>
      obtain ⟨j, hj2, rfl, hb⟩ := hrel
      have HB := Lib.hid hb
      clear hb
      by_cases hj : j < 3
      rotate_left 1
      · have d1 : decide ((j : Int) < 3) = false := by simp; omega
        have HW9 := Lib.hid ((HA.out wr HB.out).2.2.2.1)
        go_wp2_with fail
        refine (sane25_any _).mono ?_
        rintro e w11 ⟨rfl, hb11⟩
        go_wp2_with fail
        go_ret
        exact ⟨rfl, HW9.out.trans (hb11.mono HW9.out.size)⟩
      have d1 : decide ((j : Int) < 3) = true := by simp; omega
      obtain ⟨hX, hR, hV, _, hM⟩ := HA.out wr HB.out
      obtain ⟨m, a, hmp, hme, hrm, x0, x1, x2, x3⟩ := hM j hj
      have HX := Lib.hid hX; have HR := Lib.hid hR; have HV := Lib.hid hV; have HM := Lib.hid hrm; have HMP := Lib.hid hmp; have HME := Lib.hid hme
      have hj0 : (0 : Int) ≤ (j : Int) := by omega
      have hj2' : (j : Int) < 3 := by omega
      clear hX hR hV hM hrm hmp hme
      go_upto_region 8 with fail
      clear x0 x1 x2 x3
      have BM := Blk.new wr [.slice a.p m.ph.length a.pc, .slice a.f m.fg.length a.fc, .slice a.l m.lv.length a.lc, .slice a.e m.en.length a.ec] 35
      have hbm := below1' wr (.cells #[.slice a.p m.ph.length a.pc, .slice a.f m.fg.length a.fc, .slice a.l m.lv.length a.lc, .slice a.e m.en.length a.ec] 35)
      change Blk (wr.alloc (.cells #[.slice a.p m.ph.length a.pc, .slice a.f m.fg.length a.fc, .slice a.l m.lv.length a.lc, .slice a.e m.en.length a.ec] 35)) _ _ at BM
      have HB5 := Lib.hid (HB.out.trans (hbm.mono HB.out.size))
      have HX5 := Lib.hid (HX.out.next hbm); have HR5 := Lib.hid (HR.out.next hbm); have HV5 := Lib.hid (HV.out.next hbm); have HM5 := Lib.hid (HM.out.next hbm); have HI5 := Lib.hid BM
      clear BM hbm HB HX HR HV HM
      generalize wr.alloc (.cells #[.slice a.p m.ph.length a.pc, .slice a.f m.fg.length a.fc, .slice a.l m.lv.length a.lc, .slice a.e m.en.length a.ec] 35) = w5 at *
      generalize wr.heap.size = g8 at *
      have HD : Hid (∀ W, Below w5.heap.size w5 W → Blk W g5 [.int .i64 b.fl, .int .i64 b.deb, .int .i64 b.room, .int .i64 b.park, .float .f64 b.em, .float .f64 b.fu, .float .f64 b.ov, .slice (some ⟨g, 0, none⟩) b.cars.length cap] ∧ RdC W (some ⟨g, 0, none⟩) b.cars ∧ Blk W g8 [.slice a.p m.ph.length a.pc, .slice a.f m.fg.length a.fc, .slice a.l m.lv.length a.lc, .slice a.e m.en.length a.ec] ∧ RdM W m a ∧ RdX W (some ⟨g6, 0, none⟩) (boolCells C) ∧ Below w4.heap.size w4 W) := Lib.hid fun W h => ⟨HX5.out.next h, HR5.out.next h, HI5.out.next h, HM5.out.next h, HV5.out.next h, HB5.out.trans (h.mono HB5.out.size)⟩
      clear HX5 HR5 HI5 HM5 HV5 HB5 d1
      go_wp2_with fail
      go_loopw [11] (fun v wr => ∃ c : Nat, c ≤ 11 ∧ v = .int .i64 ((c : Int) - 1) ∧ Below w5.heap.size w5 wr) (fun v _ => (11 - (intOf v + 1)).toNat)
      case atStart => exact ⟨0, by omega, rfl, Below.refl _ _⟩
      case round =>
        obtain ⟨kd, hkd, rfl, hb⟩ := hrel
        have HB := Lib.hid hb
        clear hb
        by_cases hlk : kd < 11
        · have d2 : decide ((kd : Int) - 1 < 10) = true := by simp; omega
          have hk1 : (-1 : Int) ≤ (kd : Int) - 1 := by omega
          have hk2 : (kd : Int) - 1 < 10 := by omega
          go_wp2_with fail
          clear d2
          go_loopw [12] (fun v wr => ∃ c : Nat, c ≤ k + 2 ∧ v = .int .i64 ((c : Int) - 1) ∧ Below w5.heap.size w5 wr) (fun v _ => ((k : Int) + 2 - (intOf v + 1)).toNat)
          case atStart => exact ⟨0, by omega, rfl, HB.out⟩
          case round =>
            clear HB
            obtain ⟨cr, hcr, rfl, hb⟩ := hrel
            have HB := Lib.hid hb
            clear hb
            have k7 := (HD.out wr HB.out).1.cell 7 _ rfl
            rw [HK.out] at k7
            by_cases hlk2 : cr < k + 2
            · have d3 : decide ((cr : Int) - 1 ≤ (k : Int)) = true := by simp; omega
              have hc1 : (-1 : Int) ≤ (cr : Int) - 1 := by omega
              have hc2 : (cr : Int) - 1 ≤ (k : Int) := by omega
              go_upto_region 15 with fail
              clear d3 k7
              have hbc := below1' wr (.cells #[.int .i64 ((kd : Int) - 1), .int .i64 ((cr : Int) - 1)] 40)
              have BC := Blk.new wr [.int .i64 ((kd : Int) - 1), .int .i64 ((cr : Int) - 1)] 40
              change Blk (wr.alloc (.cells #[.int .i64 ((kd : Int) - 1), .int .i64 ((cr : Int) - 1)] 40)) _ _ at BC
              have HB6 := Lib.hid (HB.out.trans (hbc.mono HB.out.size)); have HC6 := Lib.hid BC
              clear hbc BC HB
              generalize wr.alloc (.cells #[.int .i64 ((kd : Int) - 1), .int .i64 ((cr : Int) - 1)] 40) = w6 at *
              generalize wr.heap.size = g9 at *
              obtain ⟨F, hF⟩ : ∃ F, orderF b m ((kd : Int) - 1) ((cr : Int) - 1) C = F := ⟨_, rfl⟩
              obtain ⟨S, hS⟩ : ∃ S, servB m ((cr : Int) - 1) = S := ⟨_, rfl⟩
              obtain ⟨T, hT⟩ : ∃ T, readyB m ((cr : Int) - 1) = T := ⟨_, rfl⟩
              have HFL : Hid (F.1.length ≤ 1000) := Lib.hid (by rw [← hF]; have := orderF_len b m ((kd : Int) - 1) ((cr : Int) - 1) C; omega)
              have HO1 : Hid (∀ W, Below w5.heap.size w5 W → Calls Try.prog 13 #[cvB b (some ⟨g, 0, none⟩) cap, cvM m a, .agg #[.int .i64 ((kd : Int) - 1), .int .i64 ((cr : Int) - 1)], .slice (some ⟨g6, 0, none⟩) k capv] W fun r w' => ∃ v, r = .returned v ∧ Below W.heap.size W w' ∧ ordR F v w') := Lib.hid fun W h => by
                have hh := order_any b (some ⟨g, 0, none⟩) cap m a ((kd : Int) - 1) ((cr : Int) - 1) C (some ⟨g6, 0, none⟩) capv W (by rw [HK.out]; omega) HSL.out HMP.out (by have := HME.out; omega) (HD.out W h).2.1 (HD.out W h).2.2.2.1 (HD.out W h).2.2.2.2.1
                rw [hF, HCK.out] at hh
                exact hh
              have HO2 : Hid (∀ W, Below w5.heap.size w5 W → Calls Try.prog 18 #[cvB b (some ⟨g, 0, none⟩) cap, cvM m a, .agg #[.int .i64 ((kd : Int) - 1), .int .i64 ((cr : Int) - 1)], .slice (some ⟨g6, 0, none⟩) k capv] W fun r w' => ∃ v, r = .returned v ∧ Below W.heap.size W w' ∧ ordR F v w') := Lib.hid fun W h => by
                have hh := refOrder_any b (some ⟨g, 0, none⟩) cap m a ((kd : Int) - 1) ((cr : Int) - 1) C (some ⟨g6, 0, none⟩) capv W (by rw [HK.out]; omega) HSL.out HMP.out (by have := HME.out; omega) (HD.out W h).2.1 (HD.out W h).2.2.2.1 (HD.out W h).2.2.2.2.1
                rw [hF, HCK.out] at hh
                exact hh
              have HV1 : Hid (∀ W, Below w5.heap.size w5 W → Calls Try.prog 20 #[cvM m a, .int .i64 ((cr : Int) - 1)] W fun r w' => r = .returned (.bool S) ∧ Below W.heap.size W w') := Lib.hid fun W h => by
                have hh := serving_any m a ((cr : Int) - 1) W (HD.out W h).2.2.2.1
                rw [hS] at hh
                exact hh
              have HV2 : Hid (∀ W, Below w5.heap.size w5 W → Calls Try.prog 21 #[cvM m a, .int .i64 ((cr : Int) - 1)] W fun r w' => r = .returned (.bool S) ∧ Below W.heap.size W w') := Lib.hid fun W h => by
                have hh := refServing_any m a ((cr : Int) - 1) W (HD.out W h).2.2.2.1
                rw [hS] at hh
                exact hh
              have HV3 : Hid (∀ W, Below w5.heap.size w5 W → Calls Try.prog 22 #[cvM m a, .int .i64 ((cr : Int) - 1)] W fun r w' => r = .returned (.bool T) ∧ Below W.heap.size W w') := Lib.hid fun W h => by
                have hh := ready_any m a ((cr : Int) - 1) W (HD.out W h).2.2.2.1
                rw [hT] at hh
                exact hh
              have HV4 : Hid (∀ W, Below w5.heap.size w5 W → Calls Try.prog 23 #[cvM m a, .int .i64 ((cr : Int) - 1)] W fun r w' => r = .returned (.bool T) ∧ Below W.heap.size W w') := Lib.hid fun W h => by
                have hh := refReady_any m a ((cr : Int) - 1) W (HD.out W h).2.2.2.1
                rw [hT] at hh
                exact hh
              clear hF hS hT
              have k0 := (HD.out w6 HB6.out).1.cell 0 _ rfl; have k1 := (HD.out w6 HB6.out).1.cell 1 _ rfl; have k2 := (HD.out w6 HB6.out).1.cell 2 _ rfl; have k3 := (HD.out w6 HB6.out).1.cell 3 _ rfl; have k4 := (HD.out w6 HB6.out).1.cell 4 _ rfl; have k5 := (HD.out w6 HB6.out).1.cell 5 _ rfl; have k6 := (HD.out w6 HB6.out).1.cell 6 _ rfl; have k7 := (HD.out w6 HB6.out).1.cell 7 _ rfl
              have y0 := (HD.out w6 HB6.out).2.2.1.cell 0 _ rfl; have y1 := (HD.out w6 HB6.out).2.2.1.cell 1 _ rfl; have y2 := (HD.out w6 HB6.out).2.2.1.cell 2 _ rfl; have y3 := (HD.out w6 HB6.out).2.2.1.cell 3 _ rfl
              have z0 := HC6.out.cell 0 _ rfl; have z1 := HC6.out.cell 1 _ rfl
              go_wp2_with fail
              refine (HO1.out w6 HB6.out).mono ?_
              rintro e w7 ⟨v, rfl, hb7, q1, c1, rfl, hr1⟩
              have HB7 := Lib.hid (HB6.out.trans (hb7.mono HB6.out.size)); have HC7 := Lib.hid (HC6.out.next hb7); have HQ1 := Lib.hid hr1
              clear hb7 hr1 HB6 HC6 HO1 k0 k1 k2 k3 k4 k5 k6 k7 y0 y1 y2 y3 z0 z1
              have k0 := (HD.out w7 HB7.out).1.cell 0 _ rfl; have k1 := (HD.out w7 HB7.out).1.cell 1 _ rfl; have k2 := (HD.out w7 HB7.out).1.cell 2 _ rfl; have k3 := (HD.out w7 HB7.out).1.cell 3 _ rfl; have k4 := (HD.out w7 HB7.out).1.cell 4 _ rfl; have k5 := (HD.out w7 HB7.out).1.cell 5 _ rfl; have k6 := (HD.out w7 HB7.out).1.cell 6 _ rfl; have k7 := (HD.out w7 HB7.out).1.cell 7 _ rfl
              have y0 := (HD.out w7 HB7.out).2.2.1.cell 0 _ rfl; have y1 := (HD.out w7 HB7.out).2.2.1.cell 1 _ rfl; have y2 := (HD.out w7 HB7.out).2.2.1.cell 2 _ rfl; have y3 := (HD.out w7 HB7.out).2.2.1.cell 3 _ rfl
              have z0 := HC7.out.cell 0 _ rfl; have z1 := HC7.out.cell 1 _ rfl
              go_wp2_with fail
              refine (HO2.out w7 HB7.out).mono ?_
              rintro e w8 ⟨v, rfl, hb8, q2, c2, rfl, hr2⟩
              have HB8 := Lib.hid (HB7.out.trans (hb8.mono HB7.out.size)); have HQ2 := Lib.hid hr2; have HQ3 := Lib.hid (HQ1.out.next hb8)
              clear hb8 hr2 HB7 HC7 HO2 HQ1 k0 k1 k2 k3 k4 k5 k6 k7 y0 y1 y2 y3 z0 z1
              generalize F.1 = L at *
              generalize F.2 = er at *
              go_upto_region 17 with fail
              have y0 := ((HD.out w8 HB8.out).2.2.1).reg 0 _ rfl
              have y1 := ((HD.out w8 HB8.out).2.2.1).reg 1 _ rfl
              have y2 := ((HD.out w8 HB8.out).2.2.1).reg 2 _ rfl
              have y3 := ((HD.out w8 HB8.out).2.2.1).reg 3 _ rfl
              (refine Grow.wp_region Grow.noPlan Grow.noPlan_stable (by kernel_rfl) (by kernel_rfl) ?_; intro opsq Hopsq)
              repeat (first | (refine Grow.lex_move rfl ?_ rfl ?_; (· first | exact Grow.wanted_none | (rw [Hopsq.out]; rfl)); intro K hK; simp only [Grow.put_lit, Grow.setAt, Grow.eval_lit, Grow.ev]; refine hK _ _ ?_; clear hK K) | (refine Grow.lex_assign rfl ?_ rfl ?_; (· first | exact Grow.wanted_none | (rw [Hopsq.out]; rfl)); intro K hK; simp only [Grow.put_lit, Grow.setAt, Grow.eval_lit, Grow.ev]; refine hK _ _ ?_; clear hK K) | (refine Grow.lex_plain rfl rfl ?_ rfl ?_; (· first | exact Grow.wanted_none | (rw [Hopsq.out]; rfl)); apply Exists.intro; refine ⟨fun wq hCq _ => ?_, ?_⟩; (· (go_wp2_with fail; refine ⟨rfl, Below.refl _ _, ?_⟩; simp only [Grow.getD_lit, Grow.nth]; rfl)); intro K hK; simp only [Grow.put_lit, Grow.setAt]; refine hK _ _ ?_; clear hK K) | (refine Grow.lex_nilCheck rfl rfl ?_ rfl ?_; (· first | exact Grow.wanted_none | (rw [Hopsq.out]; rfl)); intro K hK; simp only [Grow.put_lit, Grow.setAt]; refine hK _ _ ?_; clear hK K) | (refine Grow.lex_skip ?_ ?_; (· (rw [Hopsq.out]; rfl)); intro K hK; simp only [Grow.put_lit, Grow.setAt]; refine hK _ _ ?_; clear hK K))
              (refine Grow.lex_call ?_ rfl ?_; (· first | exact Grow.wanted_none | (rw [Hopsq.out]; rfl)); apply Exists.intro; apply Exists.intro; refine ⟨fun wq => ?_, ?_⟩; (· (go_simp; exact ⟨rfl, rfl⟩)); apply Exists.intro; refine ⟨fun wq hCq hKq => ?_, ?_⟩; (· exact same9_refl L q1 c1 q2 c2 _ HFL.out (HQ3.out.next (Grow.Cl.base hCq)) (HQ2.out.next (Grow.Cl.base hCq))); intro K hK; simp only [Grow.put_lit, Grow.setAt]; refine hK _ _ ?_; clear hK K)
              repeat (first | (refine Grow.lex_move rfl ?_ rfl ?_; (· first | exact Grow.wanted_none | (rw [Hopsq.out]; rfl)); intro K hK; simp only [Grow.put_lit, Grow.setAt, Grow.eval_lit, Grow.ev]; refine hK _ _ ?_; clear hK K) | (refine Grow.lex_assign rfl ?_ rfl ?_; (· first | exact Grow.wanted_none | (rw [Hopsq.out]; rfl)); intro K hK; simp only [Grow.put_lit, Grow.setAt, Grow.eval_lit, Grow.ev]; refine hK _ _ ?_; clear hK K) | (refine Grow.lex_plain rfl rfl ?_ rfl ?_; (· first | exact Grow.wanted_none | (rw [Hopsq.out]; rfl)); apply Exists.intro; refine ⟨fun wq hCq _ => ?_, ?_⟩; (· (go_wp2_with fail; refine ⟨rfl, Below.refl _ _, ?_⟩; simp only [Grow.getD_lit, Grow.nth]; rfl)); intro K hK; simp only [Grow.put_lit, Grow.setAt]; refine hK _ _ ?_; clear hK K) | (refine Grow.lex_nilCheck rfl rfl ?_ rfl ?_; (· first | exact Grow.wanted_none | (rw [Hopsq.out]; rfl)); intro K hK; simp only [Grow.put_lit, Grow.setAt]; refine hK _ _ ?_; clear hK K) | (refine Grow.lex_skip ?_ ?_; (· (rw [Hopsq.out]; rfl)); intro K hK; simp only [Grow.put_lit, Grow.setAt]; refine hK _ _ ?_; clear hK K))
              (refine Grow.lex_call ?_ rfl ?_; (· first | exact Grow.wanted_none | (rw [Hopsq.out]; rfl)); apply Exists.intro; apply Exists.intro; refine ⟨fun wq => ?_, ?_⟩; (· (go_simp; exact ⟨rfl, rfl⟩)); apply Exists.intro; refine ⟨fun wq hCq hKq => ?_, ?_⟩; (· exact HV1.out _ (HB8.out.trans ((Grow.Cl.base hCq).mono HB8.out.size))); intro K hK; simp only [Grow.put_lit, Grow.setAt]; refine hK _ _ ?_; clear hK K)
              repeat (first | (refine Grow.lex_move rfl ?_ rfl ?_; (· first | exact Grow.wanted_none | (rw [Hopsq.out]; rfl)); intro K hK; simp only [Grow.put_lit, Grow.setAt, Grow.eval_lit, Grow.ev]; refine hK _ _ ?_; clear hK K) | (refine Grow.lex_assign rfl ?_ rfl ?_; (· first | exact Grow.wanted_none | (rw [Hopsq.out]; rfl)); intro K hK; simp only [Grow.put_lit, Grow.setAt, Grow.eval_lit, Grow.ev]; refine hK _ _ ?_; clear hK K) | (refine Grow.lex_plain rfl rfl ?_ rfl ?_; (· first | exact Grow.wanted_none | (rw [Hopsq.out]; rfl)); apply Exists.intro; refine ⟨fun wq hCq _ => ?_, ?_⟩; (· (go_wp2_with fail; refine ⟨rfl, Below.refl _ _, ?_⟩; simp only [Grow.getD_lit, Grow.nth]; rfl)); intro K hK; simp only [Grow.put_lit, Grow.setAt]; refine hK _ _ ?_; clear hK K) | (refine Grow.lex_nilCheck rfl rfl ?_ rfl ?_; (· first | exact Grow.wanted_none | (rw [Hopsq.out]; rfl)); intro K hK; simp only [Grow.put_lit, Grow.setAt]; refine hK _ _ ?_; clear hK K) | (refine Grow.lex_skip ?_ ?_; (· (rw [Hopsq.out]; rfl)); intro K hK; simp only [Grow.put_lit, Grow.setAt]; refine hK _ _ ?_; clear hK K))
              (refine Grow.lex_call ?_ rfl ?_; (· first | exact Grow.wanted_none | (rw [Hopsq.out]; rfl)); apply Exists.intro; apply Exists.intro; refine ⟨fun wq => ?_, ?_⟩; (· (go_simp; exact ⟨rfl, rfl⟩)); apply Exists.intro; refine ⟨fun wq hCq hKq => ?_, ?_⟩; (· exact HV2.out _ (HB8.out.trans ((Grow.Cl.base hCq).mono HB8.out.size))); intro K hK; simp only [Grow.put_lit, Grow.setAt]; refine hK _ _ ?_; clear hK K)
              repeat (first | (refine Grow.lex_move rfl ?_ rfl ?_; (· first | exact Grow.wanted_none | (rw [Hopsq.out]; rfl)); intro K hK; simp only [Grow.put_lit, Grow.setAt, Grow.eval_lit, Grow.ev]; refine hK _ _ ?_; clear hK K) | (refine Grow.lex_assign rfl ?_ rfl ?_; (· first | exact Grow.wanted_none | (rw [Hopsq.out]; rfl)); intro K hK; simp only [Grow.put_lit, Grow.setAt, Grow.eval_lit, Grow.ev]; refine hK _ _ ?_; clear hK K) | (refine Grow.lex_plain rfl rfl ?_ rfl ?_; (· first | exact Grow.wanted_none | (rw [Hopsq.out]; rfl)); apply Exists.intro; refine ⟨fun wq hCq _ => ?_, ?_⟩; (· (go_wp2_with fail; refine ⟨rfl, Below.refl _ _, ?_⟩; simp only [Grow.getD_lit, Grow.nth]; rfl)); intro K hK; simp only [Grow.put_lit, Grow.setAt]; refine hK _ _ ?_; clear hK K) | (refine Grow.lex_nilCheck rfl rfl ?_ rfl ?_; (· first | exact Grow.wanted_none | (rw [Hopsq.out]; rfl)); intro K hK; simp only [Grow.put_lit, Grow.setAt]; refine hK _ _ ?_; clear hK K) | (refine Grow.lex_skip ?_ ?_; (· (rw [Hopsq.out]; rfl)); intro K hK; simp only [Grow.put_lit, Grow.setAt]; refine hK _ _ ?_; clear hK K))
              (refine Grow.lex_call ?_ rfl ?_; (· first | exact Grow.wanted_none | (rw [Hopsq.out]; rfl)); apply Exists.intro; apply Exists.intro; refine ⟨fun wq => ?_, ?_⟩; (· (go_simp; exact ⟨rfl, rfl⟩)); apply Exists.intro; refine ⟨fun wq hCq hKq => ?_, ?_⟩; (· exact HV3.out _ (HB8.out.trans ((Grow.Cl.base hCq).mono HB8.out.size))); intro K hK; simp only [Grow.put_lit, Grow.setAt]; refine hK _ _ ?_; clear hK K)
              repeat (first | (refine Grow.lex_move rfl ?_ rfl ?_; (· first | exact Grow.wanted_none | (rw [Hopsq.out]; rfl)); intro K hK; simp only [Grow.put_lit, Grow.setAt, Grow.eval_lit, Grow.ev]; refine hK _ _ ?_; clear hK K) | (refine Grow.lex_assign rfl ?_ rfl ?_; (· first | exact Grow.wanted_none | (rw [Hopsq.out]; rfl)); intro K hK; simp only [Grow.put_lit, Grow.setAt, Grow.eval_lit, Grow.ev]; refine hK _ _ ?_; clear hK K) | (refine Grow.lex_plain rfl rfl ?_ rfl ?_; (· first | exact Grow.wanted_none | (rw [Hopsq.out]; rfl)); apply Exists.intro; refine ⟨fun wq hCq _ => ?_, ?_⟩; (· (go_wp2_with fail; refine ⟨rfl, Below.refl _ _, ?_⟩; simp only [Grow.getD_lit, Grow.nth]; rfl)); intro K hK; simp only [Grow.put_lit, Grow.setAt]; refine hK _ _ ?_; clear hK K) | (refine Grow.lex_nilCheck rfl rfl ?_ rfl ?_; (· first | exact Grow.wanted_none | (rw [Hopsq.out]; rfl)); intro K hK; simp only [Grow.put_lit, Grow.setAt]; refine hK _ _ ?_; clear hK K) | (refine Grow.lex_skip ?_ ?_; (· (rw [Hopsq.out]; rfl)); intro K hK; simp only [Grow.put_lit, Grow.setAt]; refine hK _ _ ?_; clear hK K))
              (refine Grow.lex_call ?_ rfl ?_; (· first | exact Grow.wanted_none | (rw [Hopsq.out]; rfl)); apply Exists.intro; apply Exists.intro; refine ⟨fun wq => ?_, ?_⟩; (· (go_simp; exact ⟨rfl, rfl⟩)); apply Exists.intro; refine ⟨fun wq hCq hKq => ?_, ?_⟩; (· exact HV4.out _ (HB8.out.trans ((Grow.Cl.base hCq).mono HB8.out.size))); intro K hK; simp only [Grow.put_lit, Grow.setAt]; refine hK _ _ ?_; clear hK K)
              repeat (first | (refine Grow.lex_move rfl ?_ rfl ?_; (· first | exact Grow.wanted_none | (rw [Hopsq.out]; rfl)); intro K hK; simp only [Grow.put_lit, Grow.setAt, Grow.eval_lit, Grow.ev]; refine hK _ _ ?_; clear hK K) | (refine Grow.lex_assign rfl ?_ rfl ?_; (· first | exact Grow.wanted_none | (rw [Hopsq.out]; rfl)); intro K hK; simp only [Grow.put_lit, Grow.setAt, Grow.eval_lit, Grow.ev]; refine hK _ _ ?_; clear hK K) | (refine Grow.lex_plain rfl rfl ?_ rfl ?_; (· first | exact Grow.wanted_none | (rw [Hopsq.out]; rfl)); apply Exists.intro; refine ⟨fun wq hCq _ => ?_, ?_⟩; (· (go_wp2_with fail; refine ⟨rfl, Below.refl _ _, ?_⟩; simp only [Grow.getD_lit, Grow.nth]; rfl)); intro K hK; simp only [Grow.put_lit, Grow.setAt]; refine hK _ _ ?_; clear hK K) | (refine Grow.lex_nilCheck rfl rfl ?_ rfl ?_; (· first | exact Grow.wanted_none | (rw [Hopsq.out]; rfl)); intro K hK; simp only [Grow.put_lit, Grow.setAt]; refine hK _ _ ?_; clear hK K) | (refine Grow.lex_skip ?_ ?_; (· (rw [Hopsq.out]; rfl)); intro K hK; simp only [Grow.put_lit, Grow.setAt]; refine hK _ _ ?_; clear hK K))
              (refine Grow.lex_nil ?_; intro w9 hb9 _; replace hb9 := Grow.Cl.base hb9; clear Hopsq opsq)
              have HB9 := Lib.hid (HB8.out.trans (hb9.mono HB8.out.size))
              clear hb9 y0 y1 y2 y3 HQ2 HQ3 HV1 HV2 HV3 HV4
              go_wp2_with fail
              exact ⟨⟨cr + 1, by omega, by go_num, HB9.out⟩, by simp [intOf]; omega⟩
            · have d3 : decide ((cr : Int) - 1 ≤ (k : Int)) = false := by simp; omega
              have hc2 : ¬ (cr : Int) - 1 ≤ (k : Int) := by omega
              go_wp2_with fail
              exact ⟨⟨kd + 1, by omega, by go_num, HB.out⟩, by simp [intOf]; omega⟩
        · have d2 : decide ((kd : Int) - 1 < 10) = false := by simp; omega
          have hk2 : ¬ (kd : Int) - 1 < 10 := by omega
          go_upto_region 19 with fail
          clear d2
          obtain ⟨L, hL⟩ : ∃ L, autoF b m C = L := ⟨_, rfl⟩
          obtain ⟨T, hT⟩ : ∃ T, freeF b m = T := ⟨_, rfl⟩
          have HLL : Hid (L.length ≤ 1000) := Lib.hid (by rw [← hL]; exact autoF_len b m C (by rw [HK.out]; omega))
          have HS1 : Hid (∀ W, Below w5.heap.size w5 W → Calls Try.prog 14 #[cvB b (some ⟨g, 0, none⟩) cap, cvM m a, .slice (some ⟨g6, 0, none⟩) k capv] W fun r w' => ∃ v, r = .returned v ∧ Below W.heap.size W w' ∧ recR L v w') := Lib.hid fun W h => by
            have hh := auto_any b (some ⟨g, 0, none⟩) cap m a C (some ⟨g6, 0, none⟩) capv W (by rw [HK.out]; omega) HSL.out HMP.out (by have := HME.out; omega) (HD.out W h).2.1 (HD.out W h).2.2.2.1 (HD.out W h).2.2.2.2.1
            rw [hL, HCK.out] at hh
            exact hh
          have HS2 : Hid (∀ W, Below w5.heap.size w5 W → Calls Try.prog 24 #[cvB b (some ⟨g, 0, none⟩) cap, cvM m a, .slice (some ⟨g6, 0, none⟩) k capv] W fun r w' => ∃ v, r = .returned v ∧ Below W.heap.size W w' ∧ recR L v w') := Lib.hid fun W h => by
            have hh := refAuto_any b (some ⟨g, 0, none⟩) cap m a C (some ⟨g6, 0, none⟩) capv W (by rw [HK.out]; omega) HSL.out HMP.out (by have := HME.out; omega) (HD.out W h).2.1 (HD.out W h).2.2.2.1 (HD.out W h).2.2.2.2.1
            rw [hL, HCK.out] at hh
            exact hh
          have HF1 : Hid (∀ W, Below w5.heap.size w5 W → Calls Try.prog 25 #[cvB b (some ⟨g, 0, none⟩) cap, cvM m a] W fun r w' => r = .returned (.bool T) ∧ Below W.heap.size W w') := Lib.hid fun W h => by
            have hh := pfree_any b (some ⟨g, 0, none⟩) cap m a W (by rw [HK.out]; omega) HSL.out HMP.out (by have := HME.out; omega) (HD.out W h).2.1 (HD.out W h).2.2.2.1
            rw [hT] at hh
            exact hh
          have HF2' : Hid (∀ W, Below w5.heap.size w5 W → Calls Try.prog 26 #[cvB b (some ⟨g, 0, none⟩) cap, cvM m a] W fun r w' => r = .returned (.bool T) ∧ Below W.heap.size W w') := Lib.hid fun W h => by
            have hh := refFree_any b (some ⟨g, 0, none⟩) cap m a W (by rw [HK.out]; omega) HSL.out HMP.out (by have := HME.out; omega) (HD.out W h).2.1 (HD.out W h).2.2.2.1
            rw [hT] at hh
            exact hh
          have hsl := run_sliceB g6 k capv hkr.1
          obtain ⟨qd, hqd⟩ : ∃ qd, (if capv = 1 then some (⟨g6, 0, none⟩ : Addr) else some ⟨g6, 1, none⟩) = qd := ⟨_, rfl⟩
          rw [hqd] at hsl
          have HRD : Hid (∀ W, Below w5.heap.size w5 W → RdX W qd (boolCells (C.drop 1))) := Lib.hid fun W h => by
            have hd := rdB_drop (c := capv) (by rw [HCK.out]; omega) (HD.out W h).2.2.2.2.1
            rwa [hqd] at hd
          have HS3 : Hid (∀ W, Below w5.heap.size w5 W → Calls Try.prog 14 #[cvB b (some ⟨g, 0, none⟩) cap, cvM m a, .slice qd (k - 1) (capv - 1)] W fun r w' => ∃ v, r = .returned v ∧ Below W.heap.size W w' ∧ recR [] v w') := Lib.hid fun W h => by
            have hh := auto_any b (some ⟨g, 0, none⟩) cap m a (C.drop 1) qd (capv - 1) W (by rw [HK.out]; omega) HSL.out HMP.out (by have := HME.out; omega) (HD.out W h).2.1 (HD.out W h).2.2.2.1 (HRD.out W h)
            rw [List.length_drop, HCK.out, autoF_drop b m C k HK.out HCK.out hkr.1] at hh
            exact hh
          have HS4 : Hid (∀ W, Below w5.heap.size w5 W → Calls Try.prog 13 #[cvB b (some ⟨g, 0, none⟩) cap, cvM m a, .agg #[.int .i64 0, .int .i64 0], .slice qd (k - 1) (capv - 1)] W fun r w' => ∃ v, r = .returned v ∧ Below W.heap.size W w' ∧ ordR ([], 1) v w') := Lib.hid fun W h => by
            have hh := order_any b (some ⟨g, 0, none⟩) cap m a 0 0 (C.drop 1) qd (capv - 1) W (by rw [HK.out]; omega) HSL.out HMP.out (by have := HME.out; omega) (HD.out W h).2.1 (HD.out W h).2.2.2.1 (HRD.out W h)
            rw [List.length_drop, HCK.out, orderF_drop b m 0 0 C k HK.out HCK.out hkr.1] at hh
            exact hh
          clear hL hT hqd hk2
          have k0 := ((HD.out wr HB.out).1).reg 0 _ rfl
          have k1 := ((HD.out wr HB.out).1).reg 1 _ rfl
          have k2 := ((HD.out wr HB.out).1).reg 2 _ rfl
          have k3 := ((HD.out wr HB.out).1).reg 3 _ rfl
          have k4 := ((HD.out wr HB.out).1).reg 4 _ rfl
          have k5 := ((HD.out wr HB.out).1).reg 5 _ rfl
          have k6 := ((HD.out wr HB.out).1).reg 6 _ rfl
          have k7 := ((HD.out wr HB.out).1).reg 7 _ rfl
          have y0 := ((HD.out wr HB.out).2.2.1).reg 0 _ rfl
          have y1 := ((HD.out wr HB.out).2.2.1).reg 1 _ rfl
          have y2 := ((HD.out wr HB.out).2.2.1).reg 2 _ rfl
          have y3 := ((HD.out wr HB.out).2.2.1).reg 3 _ rfl
          refine Grow.wp_region (aPlan L) (aPlan_stable L) (by kernel_rfl) (by kernel_rfl) ?_
          intro opsq Hopsq
          repeat (first | (refine Grow.lex_move rfl ?_ rfl ?_; (· first | exact Grow.wanted_none | (rw [Hopsq.out]; rfl)); intro K hK; simp only [Grow.put_lit, Grow.setAt, Grow.eval_lit, Grow.ev]; refine hK _ _ ?_; clear hK K) | (refine Grow.lex_assign rfl ?_ rfl ?_; (· first | exact Grow.wanted_none | (rw [Hopsq.out]; rfl)); intro K hK; simp only [Grow.put_lit, Grow.setAt, Grow.eval_lit, Grow.ev]; refine hK _ _ ?_; clear hK K) | (refine Grow.lex_plain rfl rfl ?_ rfl ?_; (· first | exact Grow.wanted_none | (rw [Hopsq.out]; rfl)); apply Exists.intro; refine ⟨fun wq hCq _ => ?_, ?_⟩; (· (go_wp2_with fail; refine ⟨rfl, Below.refl _ _, ?_⟩; simp only [Grow.getD_lit, Grow.nth]; rfl)); intro K hK; simp only [Grow.put_lit, Grow.setAt]; refine hK _ _ ?_; clear hK K) | (refine Grow.lex_nilCheck rfl rfl ?_ rfl ?_; (· first | exact Grow.wanted_none | (rw [Hopsq.out]; rfl)); intro K hK; simp only [Grow.put_lit, Grow.setAt]; refine hK _ _ ?_; clear hK K) | (refine Grow.lex_skip ?_ ?_; (· (rw [Hopsq.out]; rfl)); intro K hK; simp only [Grow.put_lit, Grow.setAt]; refine hK _ _ ?_; clear hK K))
          (refine Grow.lex_callR (r := (fun _ v w => recR L v w)) ?_ rfl ?_; (· first | exact Grow.wanted_none | (rw [Hopsq.out]; rfl)); apply Exists.intro; apply Exists.intro; refine ⟨fun wq => ?_, ?_, ?_⟩; (· (go_simp; exact ⟨rfl, rfl⟩)); (· (intro wq hCq hKq; exact HS1.out _ (HB.out.trans ((Grow.Cl.base hCq).mono HB.out.size)))); intro vq hWq; obtain ⟨_, _, hTT⟩ := hWq; obtain ⟨q1, c1, hvq⟩ := recR_form (Grow.Holds.of_upd hTT).2; subst hvq; clear hTT; intro K hK; simp only [Grow.put_lit, Grow.setAt]; refine hK _ _ ?_; clear hK K)
          repeat (first | (refine Grow.lex_move rfl ?_ rfl ?_; (· first | exact Grow.wanted_none | (rw [Hopsq.out]; rfl)); intro K hK; simp only [Grow.put_lit, Grow.setAt, Grow.eval_lit, Grow.ev]; refine hK _ _ ?_; clear hK K) | (refine Grow.lex_assign rfl ?_ rfl ?_; (· first | exact Grow.wanted_none | (rw [Hopsq.out]; rfl)); intro K hK; simp only [Grow.put_lit, Grow.setAt, Grow.eval_lit, Grow.ev]; refine hK _ _ ?_; clear hK K) | (refine Grow.lex_plain rfl rfl ?_ rfl ?_; (· first | exact Grow.wanted_none | (rw [Hopsq.out]; rfl)); apply Exists.intro; refine ⟨fun wq hCq _ => ?_, ?_⟩; (· (go_wp2_with fail; refine ⟨rfl, Below.refl _ _, ?_⟩; simp only [Grow.getD_lit, Grow.nth]; rfl)); intro K hK; simp only [Grow.put_lit, Grow.setAt]; refine hK _ _ ?_; clear hK K) | (refine Grow.lex_nilCheck rfl rfl ?_ rfl ?_; (· first | exact Grow.wanted_none | (rw [Hopsq.out]; rfl)); intro K hK; simp only [Grow.put_lit, Grow.setAt]; refine hK _ _ ?_; clear hK K) | (refine Grow.lex_skip ?_ ?_; (· (rw [Hopsq.out]; rfl)); intro K hK; simp only [Grow.put_lit, Grow.setAt]; refine hK _ _ ?_; clear hK K))
          (refine Grow.lex_callR (r := (fun _ v w => recR L v w)) ?_ rfl ?_; (· first | exact Grow.wanted_none | (rw [Hopsq.out]; rfl)); apply Exists.intro; apply Exists.intro; refine ⟨fun wq => ?_, ?_, ?_⟩; (· (go_simp; exact ⟨rfl, rfl⟩)); (· (intro wq hCq hKq; exact HS2.out _ (HB.out.trans ((Grow.Cl.base hCq).mono HB.out.size)))); intro vq hWq; obtain ⟨_, _, hTT⟩ := hWq; obtain ⟨q2, c2, hvq⟩ := recR_form (Grow.Holds.of_upd hTT).2; subst hvq; clear hTT; intro K hK; simp only [Grow.put_lit, Grow.setAt]; refine hK _ _ ?_; clear hK K)
          repeat (first | (refine Grow.lex_move rfl ?_ rfl ?_; (· first | exact Grow.wanted_none | (rw [Hopsq.out]; rfl)); intro K hK; simp only [Grow.put_lit, Grow.setAt, Grow.eval_lit, Grow.ev]; refine hK _ _ ?_; clear hK K) | (refine Grow.lex_assign rfl ?_ rfl ?_; (· first | exact Grow.wanted_none | (rw [Hopsq.out]; rfl)); intro K hK; simp only [Grow.put_lit, Grow.setAt, Grow.eval_lit, Grow.ev]; refine hK _ _ ?_; clear hK K) | (refine Grow.lex_plain rfl rfl ?_ rfl ?_; (· first | exact Grow.wanted_none | (rw [Hopsq.out]; rfl)); apply Exists.intro; refine ⟨fun wq hCq _ => ?_, ?_⟩; (· (go_wp2_with fail; refine ⟨rfl, Below.refl _ _, ?_⟩; simp only [Grow.getD_lit, Grow.nth]; rfl)); intro K hK; simp only [Grow.put_lit, Grow.setAt]; refine hK _ _ ?_; clear hK K) | (refine Grow.lex_nilCheck rfl rfl ?_ rfl ?_; (· first | exact Grow.wanted_none | (rw [Hopsq.out]; rfl)); intro K hK; simp only [Grow.put_lit, Grow.setAt]; refine hK _ _ ?_; clear hK K) | (refine Grow.lex_skip ?_ ?_; (· (rw [Hopsq.out]; rfl)); intro K hK; simp only [Grow.put_lit, Grow.setAt]; refine hK _ _ ?_; clear hK K))
          (refine Grow.lex_call ?_ rfl ?_; (· first | exact Grow.wanted_none | (rw [Hopsq.out]; rfl)); apply Exists.intro; apply Exists.intro; refine ⟨fun wq => ?_, ?_⟩; (· (go_simp; exact ⟨rfl, rfl⟩)); apply Exists.intro; refine ⟨fun wq hCq hKq => ?_, ?_⟩; (· exact same9_refl L q1 c1 q2 c2 _ HLL.out (recR_out ((hKq 3 ⟨[], by rw [Hopsq.out]; kernel_rfl⟩).1.2 rfl)) (recR_out ((hKq 7 ⟨[], by rw [Hopsq.out]; kernel_rfl⟩).2 rfl))); intro K hK; simp only [Grow.put_lit, Grow.setAt]; refine hK _ _ ?_; clear hK K)
          repeat (first | (refine Grow.lex_move rfl ?_ rfl ?_; (· first | exact Grow.wanted_none | (rw [Hopsq.out]; rfl)); intro K hK; simp only [Grow.put_lit, Grow.setAt, Grow.eval_lit, Grow.ev]; refine hK _ _ ?_; clear hK K) | (refine Grow.lex_assign rfl ?_ rfl ?_; (· first | exact Grow.wanted_none | (rw [Hopsq.out]; rfl)); intro K hK; simp only [Grow.put_lit, Grow.setAt, Grow.eval_lit, Grow.ev]; refine hK _ _ ?_; clear hK K) | (refine Grow.lex_plain rfl rfl ?_ rfl ?_; (· first | exact Grow.wanted_none | (rw [Hopsq.out]; rfl)); apply Exists.intro; refine ⟨fun wq hCq _ => ?_, ?_⟩; (· (go_wp2_with fail; refine ⟨rfl, Below.refl _ _, ?_⟩; simp only [Grow.getD_lit, Grow.nth]; rfl)); intro K hK; simp only [Grow.put_lit, Grow.setAt]; refine hK _ _ ?_; clear hK K) | (refine Grow.lex_nilCheck rfl rfl ?_ rfl ?_; (· first | exact Grow.wanted_none | (rw [Hopsq.out]; rfl)); intro K hK; simp only [Grow.put_lit, Grow.setAt]; refine hK _ _ ?_; clear hK K) | (refine Grow.lex_skip ?_ ?_; (· (rw [Hopsq.out]; rfl)); intro K hK; simp only [Grow.put_lit, Grow.setAt]; refine hK _ _ ?_; clear hK K))
          (refine Grow.lex_call ?_ rfl ?_; (· first | exact Grow.wanted_none | (rw [Hopsq.out]; rfl)); apply Exists.intro; apply Exists.intro; refine ⟨fun wq => ?_, ?_⟩; (· (go_simp; exact ⟨rfl, rfl⟩)); apply Exists.intro; refine ⟨fun wq hCq hKq => ?_, ?_⟩; (· exact HF1.out _ (HB.out.trans ((Grow.Cl.base hCq).mono HB.out.size))); intro K hK; simp only [Grow.put_lit, Grow.setAt]; refine hK _ _ ?_; clear hK K)
          repeat (first | (refine Grow.lex_move rfl ?_ rfl ?_; (· first | exact Grow.wanted_none | (rw [Hopsq.out]; rfl)); intro K hK; simp only [Grow.put_lit, Grow.setAt, Grow.eval_lit, Grow.ev]; refine hK _ _ ?_; clear hK K) | (refine Grow.lex_assign rfl ?_ rfl ?_; (· first | exact Grow.wanted_none | (rw [Hopsq.out]; rfl)); intro K hK; simp only [Grow.put_lit, Grow.setAt, Grow.eval_lit, Grow.ev]; refine hK _ _ ?_; clear hK K) | (refine Grow.lex_plain rfl rfl ?_ rfl ?_; (· first | exact Grow.wanted_none | (rw [Hopsq.out]; rfl)); apply Exists.intro; refine ⟨fun wq hCq _ => ?_, ?_⟩; (· (go_wp2_with fail; refine ⟨rfl, Below.refl _ _, ?_⟩; simp only [Grow.getD_lit, Grow.nth]; rfl)); intro K hK; simp only [Grow.put_lit, Grow.setAt]; refine hK _ _ ?_; clear hK K) | (refine Grow.lex_nilCheck rfl rfl ?_ rfl ?_; (· first | exact Grow.wanted_none | (rw [Hopsq.out]; rfl)); intro K hK; simp only [Grow.put_lit, Grow.setAt]; refine hK _ _ ?_; clear hK K) | (refine Grow.lex_skip ?_ ?_; (· (rw [Hopsq.out]; rfl)); intro K hK; simp only [Grow.put_lit, Grow.setAt]; refine hK _ _ ?_; clear hK K))
          (refine Grow.lex_call ?_ rfl ?_; (· first | exact Grow.wanted_none | (rw [Hopsq.out]; rfl)); apply Exists.intro; apply Exists.intro; refine ⟨fun wq => ?_, ?_⟩; (· (go_simp; exact ⟨rfl, rfl⟩)); apply Exists.intro; refine ⟨fun wq hCq hKq => ?_, ?_⟩; (· exact HF2'.out _ (HB.out.trans ((Grow.Cl.base hCq).mono HB.out.size))); intro K hK; simp only [Grow.put_lit, Grow.setAt]; refine hK _ _ ?_; clear hK K)
          repeat (first | (refine Grow.lex_move rfl ?_ rfl ?_; (· first | exact Grow.wanted_none | (rw [Hopsq.out]; rfl)); intro K hK; simp only [Grow.put_lit, Grow.setAt, Grow.eval_lit, Grow.ev]; refine hK _ _ ?_; clear hK K) | (refine Grow.lex_assign rfl ?_ rfl ?_; (· first | exact Grow.wanted_none | (rw [Hopsq.out]; rfl)); intro K hK; simp only [Grow.put_lit, Grow.setAt, Grow.eval_lit, Grow.ev]; refine hK _ _ ?_; clear hK K) | (refine Grow.lex_plain rfl rfl ?_ rfl ?_; (· first | exact Grow.wanted_none | (rw [Hopsq.out]; rfl)); apply Exists.intro; refine ⟨fun wq hCq _ => ?_, ?_⟩; (· (go_wp2_with fail; refine ⟨rfl, Below.refl _ _, ?_⟩; simp only [Grow.getD_lit, Grow.nth]; rfl)); intro K hK; simp only [Grow.put_lit, Grow.setAt]; refine hK _ _ ?_; clear hK K) | (refine Grow.lex_nilCheck rfl rfl ?_ rfl ?_; (· first | exact Grow.wanted_none | (rw [Hopsq.out]; rfl)); intro K hK; simp only [Grow.put_lit, Grow.setAt]; refine hK _ _ ?_; clear hK K) | (refine Grow.lex_skip ?_ ?_; (· (rw [Hopsq.out]; rfl)); intro K hK; simp only [Grow.put_lit, Grow.setAt]; refine hK _ _ ?_; clear hK K))
          (refine Grow.lex_callR (r := (fun _ v w => recR [] v w)) ?_ rfl ?_; (· first | exact Grow.wanted_none | (rw [Hopsq.out]; rfl)); apply Exists.intro; apply Exists.intro; refine ⟨fun wq => ?_, ?_, ?_⟩; (· (go_simp; exact ⟨rfl, rfl⟩)); (· (intro wq hCq hKq; exact HS3.out _ (HB.out.trans ((Grow.Cl.base hCq).mono HB.out.size)))); intro vq hWq; obtain ⟨_, _, hTT⟩ := hWq; obtain ⟨q3, c3, hvq⟩ := recR_form (Grow.Holds.of_upd hTT).2; subst hvq; clear hTT; intro K hK; simp only [Grow.put_lit, Grow.setAt]; refine hK _ _ ?_; clear hK K)
          repeat (first | (refine Grow.lex_move rfl ?_ rfl ?_; (· first | exact Grow.wanted_none | (rw [Hopsq.out]; rfl)); intro K hK; simp only [Grow.put_lit, Grow.setAt, Grow.eval_lit, Grow.ev]; refine hK _ _ ?_; clear hK K) | (refine Grow.lex_assign rfl ?_ rfl ?_; (· first | exact Grow.wanted_none | (rw [Hopsq.out]; rfl)); intro K hK; simp only [Grow.put_lit, Grow.setAt, Grow.eval_lit, Grow.ev]; refine hK _ _ ?_; clear hK K) | (refine Grow.lex_plain rfl rfl ?_ rfl ?_; (· first | exact Grow.wanted_none | (rw [Hopsq.out]; rfl)); apply Exists.intro; refine ⟨fun wq hCq _ => ?_, ?_⟩; (· (go_wp2_with fail; refine ⟨rfl, Below.refl _ _, ?_⟩; simp only [Grow.getD_lit, Grow.nth]; rfl)); intro K hK; simp only [Grow.put_lit, Grow.setAt]; refine hK _ _ ?_; clear hK K) | (refine Grow.lex_nilCheck rfl rfl ?_ rfl ?_; (· first | exact Grow.wanted_none | (rw [Hopsq.out]; rfl)); intro K hK; simp only [Grow.put_lit, Grow.setAt]; refine hK _ _ ?_; clear hK K) | (refine Grow.lex_skip ?_ ?_; (· (rw [Hopsq.out]; rfl)); intro K hK; simp only [Grow.put_lit, Grow.setAt]; refine hK _ _ ?_; clear hK K))
          (refine Grow.lex_nil ?_; intro w6 hb6 _; replace hb6 := Grow.Cl.base hb6; clear Hopsq opsq)
          have HB6 := Lib.hid (HB.out.trans (hb6.mono HB.out.size))
          clear hb6 HB HS1 HS2 HS3 HF1 HF2' k0 k1 k2 k3 k4 k5 k6 k7 y0 y1 y2 y3
          go_upto_region 21 with fail
          have k0 := ((HD.out w6 HB6.out).1).reg 0 _ rfl
          have k1 := ((HD.out w6 HB6.out).1).reg 1 _ rfl
          have k2 := ((HD.out w6 HB6.out).1).reg 2 _ rfl
          have k3 := ((HD.out w6 HB6.out).1).reg 3 _ rfl
          have k4 := ((HD.out w6 HB6.out).1).reg 4 _ rfl
          have k5 := ((HD.out w6 HB6.out).1).reg 5 _ rfl
          have k6 := ((HD.out w6 HB6.out).1).reg 6 _ rfl
          have k7 := ((HD.out w6 HB6.out).1).reg 7 _ rfl
          have y0 := ((HD.out w6 HB6.out).2.2.1).reg 0 _ rfl
          have y1 := ((HD.out w6 HB6.out).2.2.1).reg 1 _ rfl
          have y2 := ((HD.out w6 HB6.out).2.2.1).reg 2 _ rfl
          have y3 := ((HD.out w6 HB6.out).2.2.1).reg 3 _ rfl
          refine Grow.wp_region (rPlan 5 (ordR ([], 1))) (rPlan_stable _ _ (ordR_stable _)) (by kernel_rfl) (by kernel_rfl) ?_
          intro opsq Hopsq
          repeat (first | (refine Grow.lex_move rfl ?_ rfl ?_; (· first | exact Grow.wanted_none | (rw [Hopsq.out]; rfl)); intro K hK; simp only [Grow.put_lit, Grow.setAt, Grow.eval_lit, Grow.ev]; refine hK _ _ ?_; clear hK K) | (refine Grow.lex_assign rfl ?_ rfl ?_; (· first | exact Grow.wanted_none | (rw [Hopsq.out]; rfl)); intro K hK; simp only [Grow.put_lit, Grow.setAt, Grow.eval_lit, Grow.ev]; refine hK _ _ ?_; clear hK K) | (refine Grow.lex_plain rfl rfl ?_ rfl ?_; (· first | exact Grow.wanted_none | (rw [Hopsq.out]; rfl)); apply Exists.intro; refine ⟨fun wq hCq _ => ?_, ?_⟩; (· (go_wp2_with fail; refine ⟨rfl, Below.refl _ _, ?_⟩; simp only [Grow.getD_lit, Grow.nth]; rfl)); intro K hK; simp only [Grow.put_lit, Grow.setAt]; refine hK _ _ ?_; clear hK K) | (refine Grow.lex_nilCheck rfl rfl ?_ rfl ?_; (· first | exact Grow.wanted_none | (rw [Hopsq.out]; rfl)); intro K hK; simp only [Grow.put_lit, Grow.setAt]; refine hK _ _ ?_; clear hK K) | (refine Grow.lex_skip ?_ ?_; (· (rw [Hopsq.out]; rfl)); intro K hK; simp only [Grow.put_lit, Grow.setAt]; refine hK _ _ ?_; clear hK K))
          (refine Grow.lex_callR (r := (fun _ v w => ordR ([], 1) v w)) ?_ rfl ?_; (· first | exact Grow.wanted_none | (rw [Hopsq.out]; rfl)); apply Exists.intro; apply Exists.intro; refine ⟨fun wq => ?_, ?_, ?_⟩; (· (go_simp; exact ⟨rfl, rfl⟩)); (· (intro wq hCq hKq; exact HS4.out _ (HB6.out.trans ((Grow.Cl.base hCq).mono HB6.out.size)))); intro vq hWq; obtain ⟨_, _, hTT⟩ := hWq; obtain ⟨q8, c8, hvq⟩ := ordR_form (Grow.Holds.of_upd hTT).2; subst hvq; clear hTT; intro K hK; simp only [Grow.put_lit, Grow.setAt]; refine hK _ _ ?_; clear hK K)
          repeat (first | (refine Grow.lex_move rfl ?_ rfl ?_; (· first | exact Grow.wanted_none | (rw [Hopsq.out]; rfl)); intro K hK; simp only [Grow.put_lit, Grow.setAt, Grow.eval_lit, Grow.ev]; refine hK _ _ ?_; clear hK K) | (refine Grow.lex_assign rfl ?_ rfl ?_; (· first | exact Grow.wanted_none | (rw [Hopsq.out]; rfl)); intro K hK; simp only [Grow.put_lit, Grow.setAt, Grow.eval_lit, Grow.ev]; refine hK _ _ ?_; clear hK K) | (refine Grow.lex_plain rfl rfl ?_ rfl ?_; (· first | exact Grow.wanted_none | (rw [Hopsq.out]; rfl)); apply Exists.intro; refine ⟨fun wq hCq _ => ?_, ?_⟩; (· (go_wp2_with fail; refine ⟨rfl, Below.refl _ _, ?_⟩; simp only [Grow.getD_lit, Grow.nth]; rfl)); intro K hK; simp only [Grow.put_lit, Grow.setAt]; refine hK _ _ ?_; clear hK K) | (refine Grow.lex_nilCheck rfl rfl ?_ rfl ?_; (· first | exact Grow.wanted_none | (rw [Hopsq.out]; rfl)); intro K hK; simp only [Grow.put_lit, Grow.setAt]; refine hK _ _ ?_; clear hK K) | (refine Grow.lex_skip ?_ ?_; (· (rw [Hopsq.out]; rfl)); intro K hK; simp only [Grow.put_lit, Grow.setAt]; refine hK _ _ ?_; clear hK K))
          (refine Grow.lex_nil ?_; intro w7 hb7 _; replace hb7 := Grow.Cl.base hb7; clear Hopsq opsq)
          have HB7 := Lib.hid (HB6.out.trans (hb7.mono HB6.out.size))
          have HB8 := Lib.hid (HD.out w7 HB7.out).2.2.2.2.2
          clear hb7 HB6 HS4 hsl k0 k1 k2 k3 k4 k5 k6 k7 y0 y1 y2 y3
          go_wp2_with fail
          exact ⟨⟨j + 1, by omega, by go_num, HB8.out⟩, by simp [intOf]; omega⟩
set_option maxHeartbeats 1000000 in
set_option maxRecDepth 100000 in
theorem phaseOrders_lifted (os : Os) (started : os.Started) (H : Type) (enc : TypeId × Value → H) :
    ReturnsInHanded {} Try.checked os 5 .any (Rows.phaseOrdersSpec.pre6 enc Try.prog Try.f5 Rows.phaseOrdersRow.domain false) (Rows.phaseOrdersSpec.post enc Try.prog Try.f5 false true false false) := by
  refine law_lifted (C := Try.checked) own laidOut started (by kernel_rfl) Try.func5 4 rfl Try.underlying4 (by kernel_rfl) rfl H enc
    (fun ds h => by match ds, h with | [d0, d1, d2], _ => rfl)
    (ChangeSpec.witness6 (enc := enc) (C := Try.checked) false ⟨#[], #[.agg #[.int .u8 0, .int .u8 0, .int .u8 0], .slice none 0 0, .agg #[.slice none 0 0, .slice none 0 0, .slice none 0 0, .slice none 0 0]], []⟩ 8 (by kernel_rfl) (by kernel_rfl) (by kernel_rfl) (by kernel_rfl)) ?_
  intro W base args ds ps hval hA hsz
  have hA' : DataW.TrodAll enc Try.prog W 0 (fun _ => true) true Try.f5.params.toList args.toList ds ps := hA
  have hval' : ∀ (j : Nat) t v, Try.f5.params[j]? = some t → args[j]? = some v → Value.okWide Try.prog W .any base t v := hval
  rw [Try.params5] at hA' hval'
  obtain ⟨v0, vs0, d0, ds0, p0, q0, hargs, rfl, rfl, h0, r0⟩ := trodAll_cons hA'
  obtain ⟨v1, vs1, d1, ds1, p1, q1, rfl, rfl, rfl, h1, r1⟩ := trodAll_cons r0
  obtain ⟨v2, vs2, d2, ds2, p2, q2, rfl, rfl, rfl, h2, r2⟩ := trodAll_cons r1
  obtain ⟨rfl, rfl, rfl⟩ := trodAll_nil r2
  obtain rfl : args = #[v0, v1, v2] := by cases args; simp_all
  obtain ⟨m0, t0, s0, rfl, hm0, ht0, hs0⟩ := open_b3 (hval' 0 55 v0 rfl rfl) h0
  obtain ⟨l1, q1x, cap1, rfl, hl1, hu1⟩ := open_u8s (hval' 1 25 v1 rfl rfl) h1
  obtain ⟨R2, ar2, rfl, hr2, hp2, hf2, hl2, he2⟩ := open_img (hval' 2 35 v2 rfl rfl) h2
  exact phaseOrders_walk m0 t0 s0 l1 q1x cap1 R2 ar2 W hm0 ht0 hs0 hl1 hu1 hr2 hp2 hf2 hl2 he2

theorem phaseOrders_over : Rows.phaseOrdersRow.holds Try.pinned (OpenSpec.ofChange Rows.phaseOrdersSpec) :=
  OpenClaim.holds_of_wide 5 Try.f5 rfl rfl rfl rfl rfl rfl rfl ⟨rfl, rfl, rfl, rfl, rfl⟩ rfl rfl rfl rfl rfl (by kernel_rfl) Try.func5 (by kernel_rfl)
    (of_decide_eq_true (by kernel_rfl)) (by unfold Func.isWrapper; first | (rw [if_pos (by decide +kernel)]; kernel_rfl) | (rw [if_neg (by decide +kernel)]; exact ⟨rfl, rfl⟩))
    (fun os started H enc _ => phaseOrders_lifted os started H enc)

/-- THE STATEMENT. -/
theorem phaseOrders_holds : Rows.PhaseOrdersSaid := phaseOrders_over
#print axioms phaseOrders_holds
end Go.Proofs.Ytgoojlfpngmdlaa
