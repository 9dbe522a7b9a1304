/- PhaseWalks: what holds for any row of commands. Conditions: none. -/
import Derived.Test.YtgoojlfpngmdlaaZWalkP16
import Derived.Test.YtgoojlfpngmdlaaZWalkP17
import Derived.Test.YtgoojlfpngmdlaaZObs
import Derived.Test.YtgoojlfpngmdlaaZSane25
import Derived.Test.YtgoojlfpngmdlaaZFrame
import Derived.Test.YtgoojlfpngmdlaaZArgs25
import Derived.Test.YtgoojlfpngmdlaaZCallsOf
namespace Go.Proofs.Ytgoojlfpngmdlaa
open Go.ChangeShapes Go.WideShapes Go.ChangeAt Go.RowKit
attribute [local go_sem] run_store_float
/-- The image behind i rounds of the first loop. -/
structure ZapM (mI m : ImgV) (i : Nat) : Prop where
  len : m.ph.length = mI.ph.length ∧ m.lv.length = mI.lv.length
  fg : m.fg = mI.fg
  en : m.en = mI.en
  ph : ∀ j, j < i → phAt m j = 0 ∨ phAt m j = 4
  lv : ∀ j, j < i → lvAt m j = false
  rest : ∀ j, i ≤ j → phAt m j = phAt mI j
theorem ZapM.zero (m : ImgV) : ZapM m m 0 := ⟨⟨rfl, rfl⟩, rfl, rfl, fun j hj => by omega, fun j hj => by omega, fun j _ => rfl⟩
theorem ZapM.step {mI m : ImgV} {i : Nat} {t : Int} (h : ZapM mI m i) (hp : i < m.ph.length) (hl : i < m.lv.length) (ht : t = 0 ∨ t = 4) : ZapM mI ⟨m.ph.set i t, m.fg, m.lv.set i false, m.en⟩ (i + 1) := by
  have e1 : ∀ j, phAt ⟨m.ph.set i t, m.fg, m.lv.set i false, m.en⟩ j = if j = i then t else phAt m j := fun j => phAt_set hp
  have e2 : ∀ j, lvAt ⟨m.ph.set i t, m.fg, m.lv.set i false, m.en⟩ j = if j = i then false else lvAt m j := fun j => lvAt_set hl
  refine ⟨by simp [h.len], h.fg, h.en, fun j hj => ?_, fun j hj => ?_, fun j hj => ?_⟩
  · rw [e1]
    by_cases e : j = i
    · rw [if_pos e]; exact ht
    · rw [if_neg e]; exact h.ph j (by omega)
  · rw [e2]
    by_cases e : j = i
    · rw [if_pos e]
    · rw [if_neg e]; exact h.lv j (by omega)
  · rw [e1, if_neg (by omega)]; exact h.rest j (by omega)
/-- A row of bools. -/
def clmR (k : Nat) (v : Value) (w : World) : Prop := ∃ q c C, v = .slice q k c ∧ C.length = k ∧ RdX w q (boolCells C)
theorem clmR_stable (k : Nat) (v : Value) : Grow.Stable (clmR k v) := fun _ _ ⟨q, c, C, h1, h2, h3⟩ hb => ⟨q, c, C, h1, h2, h3.next hb⟩
theorem clmR_form {k : Nat} {v : Value} {w : World} (h : clmR k v w) : ∃ q c, v = .slice q k c := by
  obtain ⟨q, c, _, h, _⟩ := h; exact ⟨q, c, h⟩
theorem rdM_exc {w w' : World} {m : ImgV} {a : ImgA} {g : Nat} (h : RdM w m a) (hn : NeM g a) (hk : ∀ k, k < w.heap.size → k ≠ g → w'.heap[k]? = w.heap[k]?) (hs : w.heap.size ≤ w'.heap.size) : RdM w' m a :=
  ⟨rdX_exc h.1 hn.1 hk hs, rdX_exc h.2.1 hn.2.1 hk hs, rdX_exc h.2.2.1 hn.2.2.1 hk hs, rdX_exc h.2.2.2 hn.2.2.2 hk hs⟩
theorem put4 {w w2 wb : World} {g8 : Nat} {m x : ImgV} {a ax : ImgA} (hI : Blk w g8 [.slice a.p m.ph.length a.pc, .slice a.f m.fg.length a.fc, .slice a.l m.lv.length a.lc, .slice a.e m.en.length a.ec]) (hx : RdM w x ax) (hn : NeM g8 ax) (hb : Below w2.heap.size w2 w) (hs : w2.heap.size ≤ g8) (hf : FarM wb ax) (hw : wb.heap.size ≤ w.heap.size) (w' : World) (hw' : w' = (((w.setCell ⟨g8, 0, none⟩ (.slice ax.p x.ph.length ax.pc)).setCell ⟨g8, 1, none⟩ (.slice ax.f x.fg.length ax.fc)).setCell ⟨g8, 2, none⟩ (.slice ax.l x.lv.length ax.lc)).setCell ⟨g8, 3, none⟩ (.slice ax.e x.en.length ax.ec)) :
    Blk w' g8 [.slice ax.p x.ph.length ax.pc, .slice ax.f x.fg.length ax.fc, .slice ax.l x.lv.length ax.lc, .slice ax.e x.en.length ax.ec] ∧ RdM w' x ax ∧ NeM g8 ax ∧ FarM w' ax ∧ Below w2.heap.size w2 w' := by
  subst hw'
  refine ⟨(((hI.set 0 _).set 1 _).set 2 _).set 3 _, rdM_exc hx hn (fun k _ hk => by repeat rw [Below.heap_setCell _ _ _ _ hk]) (by simp [World.setCell]), hn, fun g hg => hf g (by simp [World.setCell] at hg; omega), ?_⟩
  exact (((hb.setCell (p := ⟨g8, 0, none⟩) hs _).setCell (p := ⟨g8, 1, none⟩) hs _).setCell (p := ⟨g8, 2, none⟩) hs _).setCell (p := ⟨g8, 3, none⟩) hs _
theorem own_zap {w : World} {base gp gl i : Nat} {m : ImgV} {a : ImgA} {t : Int} (h : OwnM w base m a) (hap : a.p = some ⟨gp, 0, none⟩) (hal : a.l = some ⟨gl, 0, none⟩) : OwnM ((w.setCell ⟨gp, i, none⟩ (.int .i64 t)).setCell ⟨gl, i, none⟩ (.bool false)) base ⟨m.ph.set i t, m.fg, m.lv.set i false, m.en⟩ a := by
  obtain ⟨p, pc, f, fc, l, lc, e, ec⟩ := a
  simp only at hap hal
  subst hap hal
  exact (h.setPh i t).setLv i false
theorem zap_end {w w2 : World} {N i g8 gp gl : Nat} {mI m : ImgV} {a : ImgA} {t : Int} {xs : List Value} {ty : TypeId} (hi : i < N) (hml : m.ph.length = N) (hmv : m.lv.length = N) (ht : t = 0 ∨ t = 4) (hZ : ZapM mI m i) (hI : Blk w g8 [.slice a.p m.ph.length a.pc, .slice a.f m.fg.length a.fc, .slice a.l m.lv.length a.lc, .slice a.e m.en.length a.ec]) (hM : OwnM w w2.heap.size m a) (hB : Below w2.heap.size w2 w) (hap : a.p = some ⟨gp, 0, none⟩) (hal : a.l = some ⟨gl, 0, none⟩) (h1 : gp ≠ g8) (h2 : gl ≠ g8) (h3 : w2.heap.size ≤ gp) (h4 : w2.heap.size ≤ gl) :
    ∃ (i' : Nat) (m' : ImgV), i' ≤ N ∧ Value.int .i64 ((i : Int) + 1) = .int .i64 (i' : Int) ∧ ZapM mI m' i' ∧ Blk (((w.setCell ⟨gp, i, none⟩ (.int .i64 t)).setCell ⟨gl, i, none⟩ (.bool false)).alloc (.cells xs.toArray ty)).drew g8 [.slice a.p m'.ph.length a.pc, .slice a.f m'.fg.length a.fc, .slice a.l m'.lv.length a.lc, .slice a.e m'.en.length a.ec] ∧ OwnM (((w.setCell ⟨gp, i, none⟩ (.int .i64 t)).setCell ⟨gl, i, none⟩ (.bool false)).alloc (.cells xs.toArray ty)).drew w2.heap.size m' a ∧ Below w2.heap.size w2 (((w.setCell ⟨gp, i, none⟩ (.int .i64 t)).setCell ⟨gl, i, none⟩ (.bool false)).alloc (.cells xs.toArray ty)).drew := by
  have hb := (below1' ((w.setCell ⟨gp, i, none⟩ (.int .i64 t)).setCell ⟨gl, i, none⟩ (.bool false)) (.cells xs.toArray ty)).drew
  have hBB := (hB.setCell (p := ⟨gp, i, none⟩) h3 (.int .i64 t)).setCell (p := ⟨gl, i, none⟩) h4 (.bool false)
  refine ⟨i + 1, ⟨m.ph.set i t, m.fg, m.lv.set i false, m.en⟩, by omega, by simp, hZ.step (by omega) (by omega) ht, ?_, (own_zap hM hap hal).later hb, hBB.trans (hb.mono hBB.size)⟩
  have h := ((hI.other (g := gp) (i := i) (fun e => h1 e.symm) (.int .i64 t)).other (g := gl) (i := i) (fun e => h2 e.symm) (.bool false)).next hb
  simpa using h
theorem ZapM.inv {b : BldV} {mI m : ImgV} (h : ZapM mI m mI.ph.length) (hI : imgB b mI = true) : invM b m := by
  have hf := imgB_facts hI
  obtain ⟨h1, h2, h3, h4⟩ := (imgB_iff b mI).1 hI
  have hb : imgB b m = true := by
    rw [imgB_iff]
    refine ⟨?_, fun p hp => ?_, by rw [h.en]; exact h3, by rw [h.en]; exact h4⟩
    · simp only [headM, Bool.and_eq_true, decide_eq_true_eq] at h1 ⊢
      rw [h.len.1, h.len.2, h.fg]; exact h1
    · obtain ⟨j, hj, rfl⟩ := List.mem_iff_getElem.1 hp
      have h5 := h.ph j (by rw [← h.len.1]; exact hj)
      rw [phAt_of (List.getElem?_eq_getElem hj)] at h5
      rcases h5 with h5 | h5 <;> rw [h5] <;> rfl
  have hlv : ∀ j, lvAt m j = false := fun j => by
    by_cases hj : j < mI.ph.length
    · exact h.lv j hj
    · unfold lvAt
      rw [List.getElem?_eq_none (by rw [h.len.2]; omega)]; rfl
  refine ⟨hb, fun j hj => by rw [hlv] at hj; simp at hj, ?_⟩
  have h0 : ∀ n, n ≤ m.ph.length → transN m n = 0 := by
    intro n
    induction n with
    | zero => intro _; rfl
    | succ n ih =>
      intro hn
      have h5 := h.ph n (by rw [← h.len.1]; omega)
      have h6 : tB m n = false := by
        unfold tB
        rw [hlv]
        rcases h5 with h5 | h5 <;> rw [h5] <;> rfl
      rw [transN_succ, ih (by omega), h6]; rfl
  rw [h0 _ (Nat.le_refl _)]; omega
set_option maxHeartbeats 2000000 in
set_option maxRecDepth 100000 in
theorem phaseWalks_walk (n0 n1 : Nat) (l : List Nat) (ql : Option Addr) (capl : Nat) (kl : List Nat) (qk : Option Addr) (capk : Nat) (w : World) (hn0 : n0 < 256) (hn1 : n1 < 256) (hl : l.length ≤ maxLen) (hu : RdU w ql l) (hkl : kl.length ≤ maxLen) (huk : RdU w qk kl) :
    Calls Try.prog 4 #[.agg #[.int .u8 n0, .int .u8 n1], .slice ql l.length capl, .slice qk kl.length capk] w fun e w' => e = .returned (.bool true) ∧ Below w.heap.size w w' := by
  have X0 : Blk (w.alloc (.cells #[.int .u8 n0, .int .u8 n1] 24)) w.heap.size [.int .u8 n0, .int .u8 n1] := by
    have hx := Blk.new w [.int .u8 n0, .int .u8 n1] 24
    exact hx
  have XW : Below w.heap.size w (w.alloc (.cells #[.int .u8 n0, .int .u8 n1] 24)) := below1' w _
  have HWW := Lib.hid XW; have HX0 := Lib.hid X0
  clear XW X0
  have HL := Lib.hid hl; have HU := Lib.hid (hu.next HWW.out); have HKL := Lib.hid hkl; have HUK := Lib.hid (huk.next HWW.out)
  clear hl hu hkl huk
  go_enter Try.func4, Try.ntmps4
  go_upto_region 1 with fail
  generalize (w.alloc (.cells #[.int .u8 n0, .int .u8 n1] 24)) = w0 at *
  have HW := Lib.hid (Below.refl w0.heap.size w0)
  have hz0 := HX0.out.lt
  have x0 := (HX0.out).cell 0 _ rfl
  have x1 := (HX0.out).cell 1 _ rfl
  go_wp2_with fail
  refine (b10_any n0 n1 w0 hn0 hn1).mono ?_
  rintro e w1 ⟨g, cap, rfl, hg0, hg1, hr, hb⟩
  have hlc : (b10 n0 n1).cars.length = k10 n0 := cars10_len n0 n1
  have hkr := k10_range n0
  have HSL := Lib.hid (slack10 n0 n1)
  have HF2 : Hid (2 ≤ (b10 n0 n1).fl ∧ (b10 n0 n1).fl ≤ 8) := Lib.hid (fl10_range n0)
  obtain ⟨k, hk⟩ : ∃ k, k10 n0 = k := ⟨_, rfl⟩
  rw [hk] at hlc hkr
  have HK := Lib.hid hlc
  have HR1 := Lib.hid hr; have HB1 := Lib.hid (HWW.out.trans (hb.mono HWW.out.size))
  have HU1 := Lib.hid (HU.out.next hb); have HUK1 := Lib.hid (HUK.out.next hb)
  clear hr hb hlc hk HX0 HWW HW HU HUK x0 x1
  generalize b10 n0 n1 = b at *
  go_upto_region 2 with fail
  have B5 := Blk.new w1 [.int .i64 b.fl, .int .i64 b.deb, .int .i64 b.room, .int .i64 b.park, .float .f64 b.em, .float .f64 b.fu, .float .f64 b.ov, .slice (some ⟨g, 0, none⟩) b.cars.length cap] 29
  have hb5 := below1' w1 (.cells #[.int .i64 b.fl, .int .i64 b.deb, .int .i64 b.room, .int .i64 b.park, .float .f64 b.em, .float .f64 b.fu, .float .f64 b.ov, .slice (some ⟨g, 0, none⟩) b.cars.length cap] 29)
  change Blk (w1.alloc (.cells #[.int .i64 b.fl, .int .i64 b.deb, .int .i64 b.room, .int .i64 b.park, .float .f64 b.em, .float .f64 b.fu, .float .f64 b.ov, .slice (some ⟨g, 0, none⟩) b.cars.length cap] 29)) _ _ at B5
  have HW2 := Lib.hid (HB1.out.trans (hb5.mono HB1.out.size))
  have HR2 := Lib.hid (HR1.out.next hb5); have HU2 := Lib.hid (HU1.out.next hb5); have HUK2 := Lib.hid (HUK1.out.next hb5)
  have HX2 := Lib.hid B5
  clear B5 hb5 HB1 HR1 HU1 HUK1
  generalize w1.alloc (.cells #[.int .i64 b.fl, .int .i64 b.deb, .int .i64 b.room, .int .i64 b.park, .float .f64 b.em, .float .f64 b.fu, .float .f64 b.ov, .slice (some ⟨g, 0, none⟩) b.cars.length cap] 29) = w2 at *
  generalize w1.heap.size = g5 at *
  have k0 := (HX2.out).cell 0 _ rfl
  have k1 := (HX2.out).cell 1 _ rfl
  have k2 := (HX2.out).cell 2 _ rfl
  have k3 := (HX2.out).cell 3 _ rfl
  have k4 := (HX2.out).cell 4 _ rfl
  have k5 := (HX2.out).cell 5 _ rfl
  have k6 := (HX2.out).cell 6 _ rfl
  have k7 := (HX2.out).cell 7 _ rfl
  have HALL : Hid (∀ W, Below w2.heap.size w2 W → Blk W g5 [.int .i64 b.fl, .int .i64 b.deb, .int .i64 b.room, .int .i64 b.park, .float .f64 b.em, .float .f64 b.fu, .float .f64 b.ov, .slice (some ⟨g, 0, none⟩) b.cars.length cap] ∧ RdC W (some ⟨g, 0, none⟩) b.cars ∧ RdU W qk kl ∧ Below w.heap.size w W) := Lib.hid fun W h => ⟨HX2.out.next h, HR2.out.next h, HUK2.out.next h, HW2.out.trans (h.mono HW2.out.size)⟩
  go_wp2_with fail
  refine (image_any b (some ⟨g, 0, none⟩) cap l ql capl w2 (by rw [HK.out]; omega) (by rw [HK.out]; omega) HF2.out.1 (by have := HF2.out.2; omega) HSL.out HR2.out HL.out HU2.out).mono ?_
  rintro e w3 ⟨a, rfl, hM, hb3⟩
  obtain ⟨mI, hmI⟩ : ∃ mI, imageF b l = mI := ⟨_, rfl⟩
  have hIok : imgB b mI = true ∨ mI = img0 := by rw [← hmI]; exact imgK_ok b _
  rw [hmI] at hM ⊢
  have HIO := Lib.hid hIok
  have HIE : Hid (mI.en.length ≤ 1000) := Lib.hid (by
    rw [← hmI]
    have h1 := (imgK_len b (recL b l 60) (by rw [HK.out]; omega) (recL b l 60).length).2
    rw [List.take_length] at h1
    have h2 : (recL b l 60).length ≤ 60 := by unfold recL; rw [recT_len]; omega
    exact Nat.le_trans h1 (by omega))
  clear hmI hIok
  have HM3 := Lib.hid hM; have HX3 := Lib.hid (HX2.out.next hb3); have HR3 := Lib.hid (HR2.out.next hb3); have HUK3 := Lib.hid (HUK2.out.next hb3); have HW3 := Lib.hid (HW2.out.trans (hb3.mono HW2.out.size)); have hs23 := hb3.size
  have hgX : g5 < w2.heap.size := HX2.out.lt
  have HB3 := Lib.hid hb3
  clear hM hb3 HX2 HR2 HUK2 HU2 HW2 k0 k1 k2 k3 k4 k5 k6 k7
  have BI := Blk.new w3 [.slice a.p mI.ph.length a.pc, .slice a.f mI.fg.length a.fc, .slice a.l mI.lv.length a.lc, .slice a.e mI.en.length a.ec] 35
  have hbI := below1' w3 (.cells #[.slice a.p mI.ph.length a.pc, .slice a.f mI.fg.length a.fc, .slice a.l mI.lv.length a.lc, .slice a.e mI.en.length a.ec] 35)
  change Blk (w3.alloc (.cells #[.slice a.p mI.ph.length a.pc, .slice a.f mI.fg.length a.fc, .slice a.l mI.lv.length a.lc, .slice a.e mI.en.length a.ec] 35)) _ _ at BI
  have HI4 := Lib.hid BI; have HM4 := Lib.hid (HM3.out.later hbI); have HN4 := Lib.hid (HM3.out.le (Nat.le_refl _)); have HX4 := Lib.hid (HX3.out.next hbI); have HR4 := Lib.hid (HR3.out.next hbI); have HUK4 := Lib.hid (HUK3.out.next hbI); have HW4 := Lib.hid (HW3.out.trans (hbI.mono HW3.out.size)); have HB4 := Lib.hid (HB3.out.trans (hbI.mono HB3.out.size))
  clear BI hbI HM3 HX3 HR3 HUK3 HW3
  go_upto_region 3 with fail
  generalize w3.alloc (.cells #[.slice a.p mI.ph.length a.pc, .slice a.f mI.fg.length a.fc, .slice a.l mI.lv.length a.lc, .slice a.e mI.en.length a.ec] 35) = w4 at *
  generalize w3.heap.size = g8 at *
  obtain ⟨N, hN⟩ : ∃ N, mI.ph.length = N := ⟨_, rfl⟩
  have HN := Lib.hid hN
  clear hN
  have hNm : N ≤ 1000 := by
    rcases HIO.out with h | h
    · have h1 := (imgB_facts h).2.2.1; have h2 := HK.out; have := HN.out; omega
    · have h1 := HN.out; rw [h] at h1; simp [img0] at h1; omega
  have HLV : Hid (mI.lv.length = N) := Lib.hid (by
    rcases HIO.out with h | h
    · rw [(imgB_facts h).1, HN.out]
    · rw [← HN.out, h]; rfl)
  go_wp2_with fail
  go_loopw [9] (fun v wr => ∃ (i : Nat) (m : ImgV), i ≤ N ∧ v = .int .i64 i ∧ ZapM mI m i ∧ Blk wr g8 [.slice a.p m.ph.length a.pc, .slice a.f m.fg.length a.fc, .slice a.l m.lv.length a.lc, .slice a.e m.en.length a.ec] ∧ OwnM wr w2.heap.size m a ∧ Below w2.heap.size w2 wr) (fun v _ => N - (intOf v).toNat)
  case atStart => exact ⟨0, mI, by omega, rfl, ZapM.zero mI, HI4.out, HM4.out, HB4.out⟩
  case round =>
    clear HI4 HM4
    obtain ⟨i, m, hi, rfl, hz, hI, hM, hb⟩ := hrel
    have HZ := Lib.hid hz; have HI := Lib.hid hI; have HM := Lib.hid hM; have HB := Lib.hid hb
    clear hz hI hM hb
    have y0 := (HI.out).cell 0 _ rfl
    have y1 := (HI.out).cell 1 _ rfl
    have y2 := (HI.out).cell 2 _ rfl
    have y3 := (HI.out).cell 3 _ rfl
    have hml : m.ph.length = N := by rw [HZ.out.len.1, HN.out]
    have hmv : m.lv.length = N := by rw [HZ.out.len.2, HLV.out]
    by_cases hlt : i < N
    · have hd : decide ((i : Int) < (N : Int)) = true := by simp; omega
      have hi0 : (0 : Int) ≤ (i : Int) := by omega
      have hin : (i : Int) < (N : Int) := by omega
      rw [hml] at y0
      rw [hmv] at y2
      have hIB : imgB b mI = true := by
        rcases HIO.out with h | h
        · exact h
        · have h1 := HN.out; rw [h] at h1; simp [img0] at h1; omega
      obtain ⟨p, hp⟩ : ∃ p, m.ph[i]? = some p := ⟨_, List.getElem?_eq_getElem (by omega)⟩
      obtain ⟨q, hq⟩ : ∃ q, m.lv[i]? = some q := ⟨_, List.getElem?_eq_getElem (by omega)⟩
      have hp5 : inR 0 4 p = true := by
        have h1 := HZ.out.rest i (Nat.le_refl _)
        rw [phAt_of hp] at h1
        obtain ⟨v, hv⟩ : ∃ v, mI.ph[i]? = some v := ⟨_, List.getElem?_eq_getElem (by rw [HN.out]; exact hlt)⟩
        rw [phAt_of hv] at h1
        rw [h1]
        exact (imgB_facts hIB).2.2.2 v (List.mem_of_getElem? hv)
      obtain ⟨gp, cp, hqp, _, _⟩ := World.ownsRow.form HM.out.1 (by omega)
      obtain ⟨gl, cl, hql, _, _⟩ := World.ownsRow.form HM.out.2.2.1 (by omega)
      simp only [Value.slice.injEq, true_and] at hqp hql
      have hap := hqp.1; have hal := hql.1
      have hne : gp ≠ gl := by
        rcases rows_apart (by decide) HM.out.1 HM.out.2.2.1 with h | h
        · rw [hap] at h; simp [Value.ownBlock] at h
        · rw [hap, hal] at h; simpa [Value.ownBlock] using h
      have cP : wr.cell? ⟨gp, i, none⟩ = some (.int .i64 p) := by
        have h1 := HM.out.1
        rw [hap] at h1
        rw [h1.cellAt i (by omega)]
        simp [intCells, hp]
      have cL : wr.cell? ⟨gl, i, none⟩ = some (.bool q) := by
        have h1 := HM.out.2.2.1
        rw [hal] at h1
        rw [h1.cellAt i (by omega)]
        simp [boolCells, hq]
      have fP : wr.frozen? ⟨gp, i, none⟩ = false := by
        have h1 := HM.out.1
        rw [hap] at h1
        exact row_fr h1 i
      have fL : wr.frozen? ⟨gl, i, none⟩ = false := by
        have h1 := HM.out.2.2.1
        rw [hal] at h1
        exact row_fr h1 i
      have hgp8 : gp ≠ g8 := HN4.out.1 _ hap
      have hgl8 : gl ≠ g8 := HN4.out.2.2.1 _ hal
      have hgpr : gp < wr.heap.size := by have h1 := HM.out.1.lt gp (by rw [hap]; rfl); exact h1.2
      have hglr : gl < wr.heap.size := by have h1 := HM.out.2.2.1.lt gl (by rw [hal]; rfl); exact h1.2
      have hg8r : g8 < wr.heap.size := HI.out.lt
      rw [hap] at y0
      rw [hal] at y2
      have HP := Lib.hid hp; have HQ := Lib.hid hq; have HAP := Lib.hid hap; have HAL := Lib.hid hal
      clear hap hal hqp hql hIB hp hq
      go_upto_region 6 with fail
      clear hd
      have h3 : w2.heap.size ≤ gp := by have h1 := HM.out.1.lt gp (by rw [HAP.out]; rfl); exact h1.1
      have h4 : w2.heap.size ≤ gl := by have h1 := HM.out.2.2.1.lt gl (by rw [HAL.out]; rfl); exact h1.1
      rcases ph_five hp5 with rfl | rfl | rfl | rfl | rfl
      all_goals
        clear hp5
        go_region
        have hend := fun (t : Int) (ht : t = 0 ∨ t = 4) (xs : List Value) (ty : TypeId) => zap_end (t := t) (xs := xs) (ty := ty) hlt hml hmv ht HZ.out HI.out HM.out HB.out HAP.out HAL.out hgp8 hgl8 h3 h4
        have HEND := Lib.hid hend
        clear hend cP cL fP fL y0 y1 y2 y3
        go_wp2_with fail
        refine ⟨?_, by simp [intOf]; omega⟩
        first
          | exact HEND.out 0 (.inl rfl) [.int .i64 0, .int .i64 4] _
          | exact HEND.out 4 (.inr rfl) [.int .i64 0, .int .i64 4] _
          | (trace_state; sorry)
    · have hd : decide ((i : Int) < (N : Int)) = false := by simp; omega
      rw [hml] at y0
      obtain rfl : i = N := by omega
      have hW : WInv b m := by
        rcases HIO.out with h | h
        · left
          have hz := HZ.out
          rw [← HN.out] at hz
          exact hz.inv h
        · right
          have h1 := HZ.out
          have h2 := HN.out
          rw [h] at h1 h2
          obtain ⟨p, f, l, e⟩ := m
          have e1 : p = [] := List.eq_nil_of_length_eq_zero (by have := h1.len.1; simpa [img0] using this)
          have e2 : l = [] := List.eq_nil_of_length_eq_zero (by have := h1.len.2; simpa [img0] using this)
          have e3 : f = [] := h1.fg
          have e4 : e = [] := h1.en
          rw [e1, e2, e3, e4]; rfl
      have HWI := Lib.hid hW; have HRM := Lib.hid HM.out.rd; have HFA : Hid (FarM wr a) := Lib.hid (fun g hg => HM.out.le hg); have HEL : Hid (m.en.length ≤ 1000) := Lib.hid (by rw [HZ.out.en]; exact HIE.out)
      clear hW HZ HM hml hmv
      obtain ⟨n2, hn2⟩ : ∃ n2, kl.length = n2 := ⟨_, rfl⟩
      have HN2 := Lib.hid hn2
      have hn2m : n2 ≤ 9223372036854775807 := by have := HKL.out; unfold maxLen at this; omega
      clear hn2
      go_upto_region 7 with fail
      clear y0 y1 y2 y3 hd
      rw [HN2.out]
      go_wp2_with fail
      go_loopw [10] (fun v wr => ∃ (i : Nat) (m : ImgV) (a : ImgA), i ≤ n2 ∧ i ≤ 120 ∧ v = .int .i64 i ∧ WInv b m ∧ m.en.length ≤ 1000 ∧ Blk wr g8 [.slice a.p m.ph.length a.pc, .slice a.f m.fg.length a.fc, .slice a.l m.lv.length a.lc, .slice a.e m.en.length a.ec] ∧ RdM wr m a ∧ NeM g8 a ∧ FarM wr a ∧ Below w2.heap.size w2 wr) (fun v _ => 120 - (intOf v).toNat)
      case atStart => exact ⟨0, m, a, by omega, by omega, rfl, HWI.out, HEL.out, HI.out, HRM.out, HN4.out, HFA.out, HB.out⟩
      case round =>
        clear HWI HI HRM HN4 HB HIO HN HLV HEL HIE HFA
        obtain ⟨i, m, a, hi1, hi2, rfl, hw, hel, hI, hM, hN, hfa, hb⟩ := hrel
        have HEL := Lib.hid hel; have HFA := Lib.hid hfa
        clear hel hfa
        have HWI := Lib.hid hw; have HI := Lib.hid hI; have HM := Lib.hid hM; have HNE := Lib.hid hN; have HB := Lib.hid hb
        clear hw hI hM hN hb
        by_cases hlt : i < n2 ∧ i < 120
        · obtain ⟨h1, h2⟩ := hlt
          have d1 : decide ((i : Int) < (n2 : Int)) = true := by simp; omega
          have d2 : decide ((i : Int) < 120) = true := by simp; omega
          obtain ⟨x, hx⟩ : ∃ x, kl[i]? = some x := ⟨_, List.getElem?_eq_getElem (by rw [HN2.out]; exact h1)⟩
          obtain ⟨hx256, D, hqD, _, cD⟩ := (HALL.out wr HB.out).2.2.1 i x hx
          subst hqD
          have hi0 : (0 : Int) ≤ (i : Int) := by omega
          have hin2 : (i : Int) < (n2 : Int) := by omega
          have hx0 : (0 : Int) ≤ (x : Int) := by omega
          have hx1 : (x : Int) < 256 := by omega
          clear hx
          go_upto_region 10 with fail
          clear d1 d2
          have cD' := cD
          replace cD : ∀ W, Grow.Cl wr.drew W → _ := fun W h => cell_later (Grow.Cl.base h) cD'
          have k0 := ((HALL.out wr HB.out).1).reg 0 _ rfl
          have k1 := ((HALL.out wr HB.out).1).reg 1 _ rfl
          have k2 := ((HALL.out wr HB.out).1).reg 2 _ rfl
          have k3 := ((HALL.out wr HB.out).1).reg 3 _ rfl
          have k4 := ((HALL.out wr HB.out).1).reg 4 _ rfl
          have k5 := ((HALL.out wr HB.out).1).reg 5 _ rfl
          have k6 := ((HALL.out wr HB.out).1).reg 6 _ rfl
          have k7 := ((HALL.out wr HB.out).1).reg 7 _ rfl
          have hcal : ∀ W, Grow.Cl wr.drew W → Calls Try.prog 12 #[cvB b (some ⟨g, 0, none⟩) cap, .int .u8 ((x : Int) / 32)] W fun r w' => ∃ v, r = .returned v ∧ Below W.heap.size W w' ∧ clmR b.cars.length v w' := by
            intro W hW
            have h := calms_any b (some ⟨g, 0, none⟩) cap (x / 32) W (by omega) (by have := HK.out; omega)
            rw [show ((x / 32 : Nat) : Int) = (x : Int) / 32 from by omega] at h
            exact h.mono fun r w' ⟨v, C, h1, h2, h3, h4⟩ => by
              obtain ⟨q, c, rfl⟩ := row_form h3
              exact ⟨_, h1, h4, q, c, C, rfl, h2, rdX_of_owns h3⟩
          have HCAL := Lib.hid hcal
          clear hcal
          refine Grow.wp_region (rPlan 6 (clmR b.cars.length)) (rPlan_stable _ _ (clmR_stable _)) (by kernel_rfl) (by kernel_rfl) ?_
          intro opsq Hopsq
          repeat (first | (refine Grow.lex_move rfl ?_ rfl ?_; (· first | exact Grow.wanted_none | (rw [Hopsq.out]; rfl)); intro K hK; simp only [Grow.put_lit, Grow.setAt, Grow.eval_lit, Grow.ev]; refine hK _ _ ?_; clear hK K) | (refine Grow.lex_assign rfl ?_ rfl ?_; (· first | exact Grow.wanted_none | (rw [Hopsq.out]; rfl)); intro K hK; simp only [Grow.put_lit, Grow.setAt, Grow.eval_lit, Grow.ev]; refine hK _ _ ?_; clear hK K) | (refine Grow.lex_plain rfl rfl ?_ rfl ?_; (· first | exact Grow.wanted_none | (rw [Hopsq.out]; rfl)); apply Exists.intro; refine ⟨fun wq hCq _ => ?_, ?_⟩; (· (go_wp2_with fail; refine ⟨rfl, Below.refl _ _, ?_⟩; simp only [Grow.getD_lit, Grow.nth]; rfl)); intro K hK; simp only [Grow.put_lit, Grow.setAt]; refine hK _ _ ?_; clear hK K) | (refine Grow.lex_nilCheck rfl rfl ?_ rfl ?_; (· first | exact Grow.wanted_none | (rw [Hopsq.out]; rfl)); intro K hK; simp only [Grow.put_lit, Grow.setAt]; refine hK _ _ ?_; clear hK K) | (refine Grow.lex_skip ?_ ?_; (· (rw [Hopsq.out]; rfl)); intro K hK; simp only [Grow.put_lit, Grow.setAt]; refine hK _ _ ?_; clear hK K))
          (refine Grow.lex_callR (r := (fun _ v w => clmR b.cars.length v w)) ?_ rfl ?_; (· first | exact Grow.wanted_none | (rw [Hopsq.out]; rfl)); apply Exists.intro; apply Exists.intro; refine ⟨fun wq => ?_, ?_, ?_⟩; (· (go_simp; exact ⟨rfl, rfl⟩)); (· (intro wq hCq hKq; exact HCAL.out _ hCq)); intro vq hWq; obtain ⟨_, _, hTT⟩ := hWq; obtain ⟨qc, cc, hvq⟩ := clmR_form (Grow.Holds.of_upd hTT).2; subst hvq; clear hTT; intro K hK; simp only [Grow.put_lit, Grow.setAt]; refine hK _ _ ?_; clear hK K)
          repeat (first | (refine Grow.lex_move rfl ?_ rfl ?_; (· first | exact Grow.wanted_none | (rw [Hopsq.out]; rfl)); intro K hK; simp only [Grow.put_lit, Grow.setAt, Grow.eval_lit, Grow.ev]; refine hK _ _ ?_; clear hK K) | (refine Grow.lex_assign rfl ?_ rfl ?_; (· first | exact Grow.wanted_none | (rw [Hopsq.out]; rfl)); intro K hK; simp only [Grow.put_lit, Grow.setAt, Grow.eval_lit, Grow.ev]; refine hK _ _ ?_; clear hK K) | (refine Grow.lex_plain rfl rfl ?_ rfl ?_; (· first | exact Grow.wanted_none | (rw [Hopsq.out]; rfl)); apply Exists.intro; refine ⟨fun wq hCq _ => ?_, ?_⟩; (· (go_wp2_with fail; refine ⟨rfl, Below.refl _ _, ?_⟩; simp only [Grow.getD_lit, Grow.nth]; rfl)); intro K hK; simp only [Grow.put_lit, Grow.setAt]; refine hK _ _ ?_; clear hK K) | (refine Grow.lex_nilCheck rfl rfl ?_ rfl ?_; (· first | exact Grow.wanted_none | (rw [Hopsq.out]; rfl)); intro K hK; simp only [Grow.put_lit, Grow.setAt]; refine hK _ _ ?_; clear hK K) | (refine Grow.lex_skip ?_ ?_; (· (rw [Hopsq.out]; rfl)); intro K hK; simp only [Grow.put_lit, Grow.setAt]; refine hK _ _ ?_; clear hK K))
          refine Grow.lex_nil ?_
          intro w10 hb10 hTT
          obtain ⟨q9, c9, C, hqe, hCl, hRC⟩ := (Grow.Holds.of_upd hTT).2
          simp only [Value.slice.injEq, true_and] at hqe
          obtain ⟨rfl, rfl⟩ := hqe
          have HRC := Lib.hid hRC; have HCL := Lib.hid hCl
          replace hb10 := Grow.Cl.base hb10
          have cD10 := cell_later hb10 cD'
          have HI0 := Lib.hid (HI.out.next hb10); have HM0 := Lib.hid (HM.out.next hb10); have HB0 := Lib.hid (HB.out.trans (hb10.mono HB.out.size)); have HS10 := Lib.hid hb10.size
          clear hTT hCl hRC hb10 Hopsq opsq k0 k1 k2 k3 k4 k5 k6 k7 cD cD' HI HM HCAL
          have HSS : Hid (∀ W, Below w10.heap.size w10 W → W.cell? (D.add i) = some (.int .u8 x) ∧ W.cell? ⟨g5, 7, none⟩ = some (.slice (some ⟨g, 0, none⟩) b.cars.length cap)) := Lib.hid fun W h => ⟨cell_later h cD10, ((HALL.out w10 HB0.out).1.next h).cell 7 _ rfl⟩
          have HLO10 : w2.heap.size ≤ w10.heap.size := HB0.out.size
          have cX : ∀ W, Grow.Cl w10.drew W → W.cell? (D.add i) = some (.int .u8 x) := fun W h => (HSS.out W (Grow.Cl.base h)).1
          have kX : ∀ W, Grow.Cl w10.drew W → W.cell? ⟨g5, 7, none⟩ = some (.slice (some ⟨g, 0, none⟩) k cap) := fun W h => by rw [← HK.out]; exact (HSS.out W (Grow.Cl.base h)).2
          have hlo : w10.heap.size ≤ w10.drew.heap.size := Nat.le_refl _
          have hkz : ((k : Int) == 0) = false := by simp; omega
          have hkz' : ¬ (k : Int) = 0 := by omega
          obtain ⟨cr, hcr⟩ : ∃ cr, (x : Int) / 9 % (k : Int) = cr := ⟨_, rfl⟩
          have hcr0 : 0 ≤ (x : Int) / 9 % (k : Int) := Int.emod_nonneg _ (by omega)
          have hcr1 : (x : Int) / 9 % (k : Int) < 4 := by have := Int.emod_lt_of_pos ((x : Int) / 9) (show (0 : Int) < k by omega); omega
          go_upto_region 11 with fail
          refine Grow.wp_region_tail 18 (mkPlan 17 ptrS w10.heap.size [.int .i64 0, .int .i64 0]) (mkPlan_stable _ _ _ _) (by kernel_rfl) (by kernel_rfl) ?_
          intro opsq Hopsq
          simp only [List.take_succ_cons, List.take_zero, List.drop_succ_cons, List.drop_zero]
          repeat (first | (refine Grow.lex_move rfl ?_ rfl ?_; (· first | exact Grow.wanted_none | (rw [Hopsq.out]; rfl)); intro K hK; simp only [Grow.put_lit, Grow.setAt, Grow.eval_lit, Grow.ev]; refine hK _ _ ?_; clear hK K) | (refine Grow.lex_assign rfl ?_ rfl ?_; (· first | exact Grow.wanted_none | (rw [Hopsq.out]; rfl)); intro K hK; simp only [Grow.put_lit, Grow.setAt, Grow.eval_lit, Grow.ev]; refine hK _ _ ?_; clear hK K) | (refine Grow.lex_plain rfl rfl ?_ rfl ?_; (· first | exact Grow.wanted_none | (rw [Hopsq.out]; rfl)); apply Exists.intro; refine ⟨fun wq hCq _ => ?_, ?_⟩; (· (go_wp2_with fail; refine ⟨rfl, Below.refl _ _, ?_⟩; simp only [Grow.getD_lit, Grow.nth]; rfl)); intro K hK; simp only [Grow.put_lit, Grow.setAt]; refine hK _ _ ?_; clear hK K) | (refine Grow.lex_nilCheck rfl rfl ?_ rfl ?_; (· first | exact Grow.wanted_none | (rw [Hopsq.out]; rfl)); intro K hK; simp only [Grow.put_lit, Grow.setAt]; refine hK _ _ ?_; clear hK K) | (refine Grow.lex_skip ?_ ?_; (· (rw [Hopsq.out]; rfl)); intro K hK; simp only [Grow.put_lit, Grow.setAt]; refine hK _ _ ?_; clear hK K))
          refine lex_mk 17 ptrS w10.heap.size [.int .i64 0, .int .i64 0] 40 ?_ (fun wq => ?_) hlo ?_
          · first | exact Grow.wanted_none | (rw [Hopsq.out]; rfl)
          · go_simp
            first | rfl | exact ⟨rfl, rfl⟩
          intro g12 hg12
          simp only [Grow.put_lit, Grow.setAt]
          refine Grow.lex_nil ?_
          intro w11 hb11 hTq
          have BG := mk_blk ptrS_inj hTq
          clear hTq
          replace hb11 := Grow.Cl.base hb11
          clear Hopsq opsq cX kX hlo
          have z0 := (BG).cell 0 _ rfl
          have z1 := (BG).cell 1 _ rfl
          have f0 := BG.fr 0; have f1 := BG.fr 1
          unfold ptrS
          go_upto_region 12 with fail
          clear z0 z1 f0 f1 hcr hcr0 hcr1 hkz hkz'
          have hBG := (BG.set 0 (.int .i64 ((x : Int) % 9))).set 1 (.int .i64 cr)
          have hb12 := below_set2 hb11 hg12 (.int .i64 ((x : Int) % 9)) (.int .i64 cr)
          clear BG hb11
          generalize (w11.setCell ⟨g12, 0, none⟩ (.int .i64 ((x : Int) % 9))).setCell ⟨g12, 1, none⟩ (.int .i64 cr) = w12 at *
          generalize (x : Int) % 9 = kd at *
          replace hBG : Blk w12 g12 [.int .i64 kd, .int .i64 cr] := hBG
          have HX12 := Lib.hid hBG; have HB12 := Lib.hid (HB0.out.trans (hb12.mono HB0.out.size))
          have HI12 := Lib.hid (HI0.out.next hb12); have HM12 := Lib.hid (HM0.out.next hb12); have HC12 := Lib.hid (HRC.out.next hb12)
          have HALW : Hid (∀ W, Below w12.heap.size w12 W → Blk W g5 [.int .i64 b.fl, .int .i64 b.deb, .int .i64 b.room, .int .i64 b.park, .float .f64 b.em, .float .f64 b.fu, .float .f64 b.ov, .slice (some ⟨g, 0, none⟩) b.cars.length cap] ∧ RdC W (some ⟨g, 0, none⟩) b.cars ∧ Blk W g8 [.slice a.p m.ph.length a.pc, .slice a.f m.fg.length a.fc, .slice a.l m.lv.length a.lc, .slice a.e m.en.length a.ec] ∧ RdM W m a ∧ RdX W qc (boolCells C) ∧ Below w2.heap.size w2 W) := Lib.hid fun W h => by
            have h0 := HB12.out.trans (h.mono HB12.out.size)
            exact ⟨(HALL.out W h0).1, (HALL.out W h0).2.1, HI12.out.next h, HM12.out.next h, HC12.out.next h, h0⟩
          have HW12 := Lib.hid (Below.refl w12.heap.size w12)
          have HSZ : Hid (wr.heap.size ≤ w12.heap.size) := Lib.hid (by have h1 := HS10.out; have h2 := hb12.size; omega)
          have hk1 : 1 ≤ b.cars.length := by rw [HK.out]; omega
          have HOR := Lib.hid (order_res (C := C) (kind := kd) (car := cr) hk1 HWI.out)
          have HOL := Lib.hid (order_len (C := C) (kind := kd) (car := cr) hk1 HWI.out)
          have HAR := Lib.hid (auto_res (C := C) hk1 HWI.out)
          have HPL : Hid (m.ph.length ≤ 1000) := Lib.hid (by
            rcases HWI.out with h | h
            · have h1 := (imgB_facts h.1).2.2.1; have h2 := HK.out; omega
            · rw [h]; simp [img0])
          clear hBG hb12 hk1 HI12 HM12 HC12 HI0 HM0 HB0 HRC HSS
          have k0 := (HALW.out w12 HW12.out).1.cell 0 _ rfl; have k1 := (HALW.out w12 HW12.out).1.cell 1 _ rfl; have k2 := (HALW.out w12 HW12.out).1.cell 2 _ rfl; have k3 := (HALW.out w12 HW12.out).1.cell 3 _ rfl; have k4 := (HALW.out w12 HW12.out).1.cell 4 _ rfl; have k5 := (HALW.out w12 HW12.out).1.cell 5 _ rfl; have k6 := (HALW.out w12 HW12.out).1.cell 6 _ rfl; have k7 := (HALW.out w12 HW12.out).1.cell 7 _ rfl
          have y0 := (HALW.out w12 HW12.out).2.2.1.cell 0 _ rfl; have y1 := (HALW.out w12 HW12.out).2.2.1.cell 1 _ rfl; have y2 := (HALW.out w12 HW12.out).2.2.1.cell 2 _ rfl; have y3 := (HALW.out w12 HW12.out).2.2.1.cell 3 _ rfl
          have z0 := (HX12.out).cell 0 _ rfl
          have z1 := (HX12.out).cell 1 _ rfl
          go_wp2_with fail
          have hh := order_any b (some ⟨g, 0, none⟩) cap m a kd cr C qc cc w12 (by rw [HK.out]; omega) HSL.out HPL.out HEL.out (HALW.out w12 HW12.out).2.1 (HALW.out w12 HW12.out).2.2.2.1 (HALW.out w12 HW12.out).2.2.2.2.1
          rw [HCL.out] at hh
          refine hh.mono ?_
          clear hh
          rintro e w13 ⟨v, rfl, hb13, q13, c13, rfl, hr13⟩
          generalize orderF b m kd cr C = F at *
          obtain ⟨L0, e0⟩ := F
          simp only at hr13 HOR HOL
          have HR13 := Lib.hid hr13; have HW13 := Lib.hid (HW12.out.trans (hb13.mono HW12.out.size))
          clear hr13 hb13 k0 k1 k2 k3 k4 k5 k6 k7 y0 y1 y2 y3 z0 z1 HW12 HX12
          go_upto_if 97 with fail
          have hw13s := HW13.out.size
          go_cut [13, 14] from 95 to 101 (fun v13 v14 wx => ∃ (L : List R5) (e : Int), v14 = .int .i64 e ∧ recR L v13 wx ∧ Below w12.heap.size w12 wx ∧ resW b m C L e ∧ L.length ≤ 3000)
          case first =>
            by_cases hi3 : (i : Int) % 3 = 2
            · have hd3 : ((i : Int) % 3 == 2) = true := by simpa using hi3
              have k0 := (HALW.out w13 HW13.out).1.cell 0 _ rfl; have k1 := (HALW.out w13 HW13.out).1.cell 1 _ rfl; have k2 := (HALW.out w13 HW13.out).1.cell 2 _ rfl; have k3 := (HALW.out w13 HW13.out).1.cell 3 _ rfl; have k4 := (HALW.out w13 HW13.out).1.cell 4 _ rfl; have k5 := (HALW.out w13 HW13.out).1.cell 5 _ rfl; have k6 := (HALW.out w13 HW13.out).1.cell 6 _ rfl; have k7 := (HALW.out w13 HW13.out).1.cell 7 _ rfl
              have y0 := (HALW.out w13 HW13.out).2.2.1.cell 0 _ rfl; have y1 := (HALW.out w13 HW13.out).2.2.1.cell 1 _ rfl; have y2 := (HALW.out w13 HW13.out).2.2.1.cell 2 _ rfl; have y3 := (HALW.out w13 HW13.out).2.2.1.cell 3 _ rfl
              go_wp2_with fail
              have hh := auto_any b (some ⟨g, 0, none⟩) cap m a C qc cc w13 (by rw [HK.out]; omega) HSL.out HPL.out HEL.out (HALW.out w13 HW13.out).2.1 (HALW.out w13 HW13.out).2.2.2.1 (HALW.out w13 HW13.out).2.2.2.2.1
              rw [HCL.out] at hh
              refine hh.mono ?_
              clear hh
              rintro e w14 ⟨v, rfl, hb14, hr14⟩
              obtain ⟨q14, c14, rfl⟩ := recR_form hr14
              have HR14 := Lib.hid hr14; have HW14 := Lib.hid (HW13.out.trans (hb14.mono HW13.out.size))
              clear hr14 hb14 k0 k1 k2 k3 k4 k5 k6 k7 y0 y1 y2 y3
              go_wp2_with fail
              go_meet
              exact ⟨autoF b m C, 0, rfl, HR14.out, HW14.out, HAR.out, auto_len HPL.out⟩
            · have hd3 : ((i : Int) % 3 == 2) = false := by simpa using hi3
              clear hi3
              go_wp2_with fail
              go_meet
              exact ⟨L0, e0, rfl, ⟨_, _, rfl, HR13.out⟩, HW13.out, HOR.out, HOL.out⟩
          case rest =>
          obtain ⟨L, e, rfl, hrec, hbc, hres, hL3⟩ := hcut
          obtain ⟨q14, c14, rfl⟩ := recR_form hrec
          generalize wc = w14 at *
          have HR14 := Lib.hid hrec; have HW14 := Lib.hid hbc; have HRS := Lib.hid hres
          clear hrec hbc hres HR13 HW13 HOR HAR HOL hw13s
          by_cases he : e = 0
          rotate_left 1
          · have hd0 : (e == 0) = false := by simpa using he
            obtain rfl : L = [] := by
              rcases HRS.out with h | h
              · exact h.2
              · exact absurd h.1 he
            clear he
            go_wp2_with fail
            have HB14 := (HALW.out w14 HW14.out).2.2.2.2.2
            exact ⟨⟨i + 1, m, a, by omega, by omega, by go_num, HWI.out, HEL.out, (HALW.out w14 HW14.out).2.2.1, (HALW.out w14 HW14.out).2.2.2.1, HNE.out, fun g hg => HFA.out g (by have := HSZ.out; have := HW14.out.size; omega), HB14⟩, by simp [intOf]; omega⟩
          subst he
          have hgood : (m = img0 ∧ L = []) ∨ (invM b m ∧ GoodL b m L C) := by
            rcases HRS.out with h | h
            · exact absurd rfl h.1
            · exact h.2
          have HRW := Lib.hid (recsW_of hgood); have HCW := Lib.hid (carsW_of hgood)
          clear hgood HRS
          have y0 := (HALW.out w14 HW14.out).2.2.1.cell 0 _ rfl; have y1 := (HALW.out w14 HW14.out).2.2.1.cell 1 _ rfl; have y2 := (HALW.out w14 HW14.out).2.2.1.cell 2 _ rfl; have y3 := (HALW.out w14 HW14.out).2.2.1.cell 3 _ rfl
          obtain ⟨n, hn⟩ : ∃ n, L.length = n := ⟨_, rfl⟩
          rw [hn] at hL3 ⊢
          have HNL := Lib.hid hn
          clear hn
          go_upto_region 19 with fail
          clear y0 y1 y2 y3
          have BX := Blk.new w14 [.slice a.p m.ph.length a.pc, .slice a.f m.fg.length a.fc, .slice a.l m.lv.length a.lc, .slice a.e m.en.length a.ec] 35
          have hbx := below1' w14 (.cells #[.slice a.p m.ph.length a.pc, .slice a.f m.fg.length a.fc, .slice a.l m.lv.length a.lc, .slice a.e m.en.length a.ec] 35)
          change Blk (w14.alloc (.cells #[.slice a.p m.ph.length a.pc, .slice a.f m.fg.length a.fc, .slice a.l m.lv.length a.lc, .slice a.e m.en.length a.ec] 35)) _ _ at BX
          have HBX := Lib.hid BX; have HWX := Lib.hid hbx
          have HALX : Hid (∀ W, Below w14.heap.size w14 W → Blk W g5 [.int .i64 b.fl, .int .i64 b.deb, .int .i64 b.room, .int .i64 b.park, .float .f64 b.em, .float .f64 b.fu, .float .f64 b.ov, .slice (some ⟨g, 0, none⟩) b.cars.length cap] ∧ RdC W (some ⟨g, 0, none⟩) b.cars ∧ Blk W g8 [.slice a.p m.ph.length a.pc, .slice a.f m.fg.length a.fc, .slice a.l m.lv.length a.lc, .slice a.e m.en.length a.ec] ∧ RdM W m a ∧ RdX W qc (boolCells C) ∧ RdX W q14 (recCells L) ∧ Below w2.heap.size w2 W) := Lib.hid fun W h => by
            obtain ⟨h1, h2, h3, h4, h5, h6⟩ := HALW.out W (HW14.out.trans (h.mono HW14.out.size))
            exact ⟨h1, h2, h3, h4, h5, recR_out (HR14.out.next h), h6⟩
          have HFX : Hid (FarM w14 a) := Lib.hid fun g hg => HFA.out g (by have := HSZ.out; have := HW14.out.size; omega)
          have hg8x : g8 < w14.heap.size := (HALX.out w14 (Below.refl _ _)).2.2.1.lt
          have HMX := Lib.hid ((HALX.out w14 (Below.refl _ _)).2.2.2.1.next hbx)
          have hwx1 : w14.heap.size < (w14.alloc (.cells #[.slice a.p m.ph.length a.pc, .slice a.f m.fg.length a.fc, .slice a.l m.lv.length a.lc, .slice a.e m.en.length a.ec] 35)).heap.size := by simp
          clear BX hbx HALW HW14 HFA HSZ HR14
          generalize w14.alloc (.cells #[.slice a.p m.ph.length a.pc, .slice a.f m.fg.length a.fc, .slice a.l m.lv.length a.lc, .slice a.e m.en.length a.ec] 35) = w15 at *
          generalize hgx : w14.heap.size = gx at *
          have HFX2 : Hid (∀ g, gx ≤ g → NeM g a) := Lib.hid fun g hg => HFX.out g (by rw [hgx]; exact hg)
          clear HFX hgx
          have HALR : Hid (∀ W, Below gx w14 W → Blk W g5 [.int .i64 b.fl, .int .i64 b.deb, .int .i64 b.room, .int .i64 b.park, .float .f64 b.em, .float .f64 b.fu, .float .f64 b.ov, .slice (some ⟨g, 0, none⟩) b.cars.length cap] ∧ RdC W (some ⟨g, 0, none⟩) b.cars ∧ RdX W q14 (recCells L)) := Lib.hid fun W h => ⟨(HALX.out W h).1, (HALX.out W h).2.1, (HALX.out W h).2.2.2.2.2.1⟩
          go_upto_block 4 with fail
          refine walk_p16 b g cap k m a C L n q14 c14 g5 g8 gx w14 w15 _ _ _ _ _ _ _ _ _ _ _ _ _ _ _ _ _ _ _ _ _ _ _ _ _ _ _ _ _ _ _ _ _ _ _ _ _ _ _ _ _ _ _ _ _ _ _ _ _ _ _ _ _ _ _ _ _ _ _ _ _ _ _ _ _ _ _ _ _ _ _ _ _ _ _ _ _ _ _ _ _ _ _ _ _ _ _ _ _ _ _ _ _ _ _ _ _ _ _ _ _ _ _ _ _ _ _ _ _ _ _ _ _ _ _ _ _ _ _ _ _ _ _ _ _ _ _ _ _ _ _ _ _ _ _ _ _ _ _ _ _ _ _ _ _ _ _ _ _ _ _ _ _ _ _ _ _ _ _ _ _ _ _ _ _ _ _ _ _ _ _ _ _ _ _ _ _ _ _ _ _ _ _ _ _ _ _ _ _ _ _ _ _ _ _ _ _ _ _ _ _ _ _ _ _ _ _ _ _ _ _ _ _ _ _ _ _ _ _ _ _ _ _ _ _ _ HK hkr HSL HRW HPL HEL HNL hL3 HALR hg8x HBX HMX HFX2 HNE HWX ?_
          intro u6 u16 u108 u109 u110 u111 u112 u113 u114 u115 u116 u117 u118 u119 u120 u121 u122 u123 u124 u125 u126 u127 u128 u129 u130 u131 u132 u133 u134 u135 u136 u137 u138 u139 u140 u141 u142 u143 u144 u145 u146 u147 u148 u149 u150 u151 u152 u153 u154 w16 a16 hx16 hrd16 hnx16 hn816 hfar16 hbb16
          have hxe : L.foldl applyV m = midW m L n := by rw [← HNL.out, midW_all]
          rw [hxe] at HCW
          clear hxe HALR HMX HBX HWX HFX2 HRW
          generalize midW m L n = X at *
          have HX16 := Lib.hid hx16; have HM16 := Lib.hid hrd16; have HN16 := Lib.hid hn816; have HF16 := Lib.hid hfar16; have HB16 := Lib.hid hbb16
          have hgx16 : gx < w16.heap.size := hx16.lt
          clear hx16 hrd16 hn816 hfar16 hbb16 hnx16
          have HALY : Hid (∀ W, Below w16.heap.size w16 W → Blk W g8 [.slice a.p m.ph.length a.pc, .slice a.f m.fg.length a.fc, .slice a.l m.lv.length a.lc, .slice a.e m.en.length a.ec] ∧ RdM W m a ∧ Blk W gx [.slice a16.p X.ph.length a16.pc, .slice a16.f X.fg.length a16.fc, .slice a16.l X.lv.length a16.lc, .slice a16.e X.en.length a16.ec] ∧ RdM W X a16 ∧ RdX W qc (boolCells C)) := Lib.hid fun W h => by
            obtain ⟨_, _, h3, h4, h5, _, _⟩ := HALX.out W (HB16.out.trans (h.mono (Nat.le_of_lt hgx16)))
            exact ⟨h3, h4, HX16.out.next h, HM16.out.next h, h5⟩
          go_upto_block 6 with fail
          refine walk_p17 b m X a a16 C b.cars.length qc cc g8 gx w16 _ _ _ _ _ _ _ _ _ _ _ _ _ _ _ _ _ _ _ _ _ _ _ _ _ _ _ _ _ _ _ _ _ _ _ _ _ _ _ _ _ _ _ _ _ _ _ _ _ _ _ _ _ _ _ _ _ _ _ _ _ _ _ _ _ _ _ _ _ _ _ _ _ _ _ _ _ _ _ _ _ _ _ _ _ _ _ _ _ _ _ _ _ _ _ _ _ _ _ _ _ _ _ _ _ _ _ _ _ _ _ _ _ _ _ _ _ _ _ _ _ _ _ _ _ _ _ _ _ _ _ _ _ _ _ _ _ _ _ _ _ _ _ _ _ _ _ _ _ _ _ _ _ _ _ _ _ _ _ _ _ _ _ _ _ _ _ _ _ _ _ _ _ _ _ _ _ _ _ _ _ _ _ _ _ _ _ _ _ _ _ _ _ _ _ _ _ _ _ _ _ _ _ _ _ _ _ _ _ _ _ _ _ _ _ _ _ _ _ _ _ _ _ _ _ _ HCW HPL HEL HCL HALY ?_
          intro u6 u17 u18 u19 u20 u155 u156 u157 u158 u159 u160 u161 u162 u163 u164 u165 u166 u167 u168 u169 u170 u171 u172 u173 u174 u175 u176 u177 u178 u179 u180 u181 u182 u183 u184 u185 u186 u187 u188 u189 u190 u191 u192 u193 u194 u195 u196 u197 u198 u199 u200 u201 u202 u203 u204 u205 u206 u207 u208 u209 u210 u211 u212 u213 u214 u215 u216 u217 u218 u219 u220 u221 u222 w17 hb17
          have HB17 := Lib.hid (HB16.out.trans (hb17.mono (Nat.le_of_lt hgx16)))
          have HX17 := Lib.hid (HX16.out.next hb17); have HM17 := Lib.hid (HM16.out.next hb17); have HF17 : Hid (FarM w17 a16) := Lib.hid fun g hg => HF16.out g (Nat.le_trans hb17.size hg)
          have hgx17 : gx < w17.heap.size := Nat.lt_of_lt_of_le hgx16 hb17.size
          clear hb17 HALY HB16 HX16 HM16 HF16
          have z0 := (HX17.out).cell 0 _ rfl
          have z1 := (HX17.out).cell 1 _ rfl
          have z2 := (HX17.out).cell 2 _ rfl
          have z3 := (HX17.out).cell 3 _ rfl
          have hlX : X.ph.length ≤ 1000 := by rw [HCW.out.len]; exact HPL.out
          obtain ⟨tn, htn⟩ : ∃ tn, transN X X.ph.length = tn := ⟨_, rfl⟩
          have htn1 : tn ≤ 1 := by rw [← htn]; exact HCW.out.tr
          go_wp2_with fail
          have hh := transit_any X a16 w17 hlX HCW.out.lv HM17.out
          rw [htn] at hh
          refine hh.mono ?_
          clear hh htn
          rintro e w18 ⟨rfl, hb18⟩
          have HB18 := Lib.hid (HB17.out.trans (hb18.mono (Nat.le_of_lt hgx17)))
          have HX18 := Lib.hid (HX17.out.next hb18); have HM18 := Lib.hid (HM17.out.next hb18); have HS18 := Lib.hid hb18.size
          clear hb18 HB17 HX17 HM17 z0 z1 z2 z3
          have htd : decide ((1 : Int) < (tn : Int)) = false := by simp; omega
          have z0 := (HX18.out).cell 0 _ rfl
          have z1 := (HX18.out).cell 1 _ rfl
          have z2 := (HX18.out).cell 2 _ rfl
          have z3 := (HX18.out).cell 3 _ rfl
          have y0 := (HALX.out w18 HB18.out).2.2.1.cell 0 _ rfl; have y1 := (HALX.out w18 HB18.out).2.2.1.cell 1 _ rfl; have y2 := (HALX.out w18 HB18.out).2.2.1.cell 2 _ rfl; have y3 := (HALX.out w18 HB18.out).2.2.1.cell 3 _ rfl
          have f0 := (HALX.out w18 HB18.out).2.2.1.fr 0; have f1 := (HALX.out w18 HB18.out).2.2.1.fr 1; have f2 := (HALX.out w18 HB18.out).2.2.1.fr 2; have f3 := (HALX.out w18 HB18.out).2.2.1.fr 3
          have hgx18 : gx < w18.heap.size := Nat.lt_of_lt_of_le hgx17 HS18.out
          have HEND := Lib.hid (put4 (HALX.out w18 HB18.out).2.2.1 HM18.out HN16.out (HALX.out w18 HB18.out).2.2.2.2.2.2 hs23 HF17.out HS18.out)
          go_wp2_with fail
          clear z0 z1 z2 z3 y0 y1 y2 y3 f0 f1 f2 f3
          refine ⟨⟨i + 1, X, a16, by omega, by omega, by go_num, HCW.out.inv, by rw [HCW.out.en]; exact HEL.out, HEND.out _ rfl⟩, by simp [intOf]; omega⟩
        · have HBE := Lib.hid (HALL.out wr HB.out).2.2.2
          clear HALL HI HM HNE HFA HWI HEL HB
          by_cases h1 : i < n2
          · have d1 : decide ((i : Int) < (n2 : Int)) = true := by simp; omega
            have d2 : decide ((i : Int) < 120) = false := by simp; omega
            clear hlt
            go_wp2_with fail
            refine (sane25_any wr).mono ?_
            rintro e w9 ⟨rfl, hb9⟩
            have HW9 := Lib.hid (HBE.out.trans (hb9.mono HBE.out.size))
            clear hb9
            go_wp2_with fail
            go_ret
            exact ⟨rfl, HW9.out⟩
          · have d1 : decide ((i : Int) < (n2 : Int)) = false := by simp; omega
            clear hlt
            go_wp2_with fail
            refine (sane25_any wr).mono ?_
            rintro e w9 ⟨rfl, hb9⟩
            have HW9 := Lib.hid (HBE.out.trans (hb9.mono HBE.out.size))
            clear hb9
            go_wp2_with fail
            go_ret
            exact ⟨rfl, HW9.out⟩
set_option maxHeartbeats 1000000 in
set_option maxRecDepth 100000 in
theorem phaseWalks_lifted (os : Os) (started : os.Started) (H : Type) (enc : TypeId × Value → H) :
    ReturnsInHanded {} Try.checked os 4 .any (Rows.phaseWalksSpec.pre6 enc Try.prog Try.f4 Rows.phaseWalksRow.domain false) (Rows.phaseWalksSpec.post enc Try.prog Try.f4 false true false false) := by
  refine law_lifted (C := Try.checked) own laidOut started (by kernel_rfl) Try.func4 4 rfl Try.underlying4 (by kernel_rfl) rfl H enc
    (fun ds h => by match ds, h with | [d0, d1, d2], _ => rfl)
    (ChangeSpec.witness6 (enc := enc) (C := Try.checked) false ⟨#[], #[.agg #[.int .u8 0, .int .u8 0], .slice none 0 0, .slice none 0 0], []⟩ 8 (by kernel_rfl) (by kernel_rfl) (by kernel_rfl) (by kernel_rfl)) ?_
  intro W base args ds ps hval hA hsz
  have hA' : DataW.TrodAll enc Try.prog W 0 (fun _ => true) true Try.f4.params.toList args.toList ds ps := hA
  have hval' : ∀ (j : Nat) t v, Try.f4.params[j]? = some t → args[j]? = some v → Value.okWide Try.prog W .any base t v := hval
  rw [Try.params4] at hA' hval'
  obtain ⟨v0, vs0, d0, ds0, p0, q0, hargs, rfl, rfl, h0, r0⟩ := trodAll_cons hA'
  obtain ⟨v1, vs1, d1, ds1, p1, q1, rfl, rfl, rfl, h1, r1⟩ := trodAll_cons r0
  obtain ⟨v2, vs2, d2, ds2, p2, q2, rfl, rfl, rfl, h2, r2⟩ := trodAll_cons r1
  obtain ⟨rfl, rfl, rfl⟩ := trodAll_nil r2
  obtain rfl : args = #[v0, v1, v2] := by cases args; simp_all
  obtain ⟨m0, t0, rfl, hm0, ht0⟩ := open_b2 (hval' 0 24 v0 rfl rfl) h0
  obtain ⟨l1, q1x, cap1, rfl, hl1, hu1⟩ := open_u8s (hval' 1 25 v1 rfl rfl) h1
  obtain ⟨l2, q2x, cap2, rfl, hl2, hu2⟩ := open_u8s (hval' 2 25 v2 rfl rfl) h2
  exact phaseWalks_walk m0 t0 l1 q1x cap1 l2 q2x cap2 W hm0 ht0 hl1 hu1 hl2 hu2

theorem phaseWalks_over : Rows.phaseWalksRow.holds Try.pinned (OpenSpec.ofChange Rows.phaseWalksSpec) :=
  OpenClaim.holds_of_wide 4 Try.f4 rfl rfl rfl rfl rfl rfl rfl ⟨rfl, rfl, rfl, rfl, rfl⟩ rfl rfl rfl rfl rfl (by kernel_rfl) Try.func4 (by kernel_rfl)
    (of_decide_eq_true (by kernel_rfl)) (by unfold Func.isWrapper; first | (rw [if_pos (by decide +kernel)]; kernel_rfl) | (rw [if_neg (by decide +kernel)]; exact ⟨rfl, rfl⟩))
    (fun os started H enc _ => phaseWalks_lifted os started H enc)

/-- THE STATEMENT. -/
theorem phaseWalks_holds : Rows.PhaseWalksSaid := phaseWalks_over
#print axioms phaseWalks_holds
end Go.Proofs.Ytgoojlfpngmdlaa
