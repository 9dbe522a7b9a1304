/- LanternClears: exactly those registered calls are served for which a lantern is lit; the lamps of the others stay lit. Conditions: none. -/
import Derived.Test.YtpgcpalemnnbaaaZClearLaw
import Derived.Test.YtpgcpalemnnbaaaZSane23
import Derived.Test.YtpgcpalemnnbaaaZSame9
import Derived.Test.YtpgcpalemnnbaaaZViews23
import Derived.Test.YtpgcpalemnnbaaaZArgsU
namespace Go.Proofs.Ytpgcpalemnnbaaa
open Go.ChangeShapes Go.WideShapes Go.ChangeAt Go.RowKit
attribute [local go_sem ↓] run_neq_cs run_eql_cs
attribute [local go_sem] run_store_float
/-- A block of a known type. -/
def Typ (w : World) (g : Nat) (t : TypeId) (xs : List Value) : Prop := w.heap[g]? = some (.cells xs.toArray t (0, 0))
theorem Typ.blk {w : World} {g : Nat} {t : TypeId} {xs : List Value} (h : Typ w g t xs) : Blk w g xs := ⟨t, h⟩
theorem Typ.new (w : World) (xs : List Value) (t : TypeId) : Typ (w.alloc (.cells xs.toArray t)) w.heap.size t xs := by simp [Typ, World.alloc, -World.alloc_eq]
theorem Typ.lt {w : World} {g : Nat} {t : TypeId} {xs : List Value} (h : Typ w g t xs) : g < w.heap.size := h.blk.lt
theorem Typ.next {w w' : World} {g : Nat} {t : TypeId} {xs : List Value} (h : Typ w g t xs) (hb : Below w.heap.size w w') : Typ w' g t xs := (hb.block g h.lt).trans h
theorem Typ.set {w : World} {g : Nat} {t : TypeId} {xs : List Value} (h : Typ w g t xs) (i : Nat) (u : Value) : Typ (w.setCell ⟨g, i, none⟩ u) g t (xs.set i u) := by
  obtain ⟨hlt, hk⟩ := Array.getElem?_eq_some_iff.1 h
  show (w.heap.modify g _)[g]? = _
  rw [Array.getElem?_eq_getElem (by rw [Array.size_modify]; exact hlt), Array.getElem_modify_self, hk]
  simp
theorem OwnM.setT {w : World} {base g i : Nat} {m : ImgV} {a : ImgA} {u : Value} {xs : List Value} (h : OwnM w base m a) (hg : Typ w g 56 xs) : OwnM (w.setCell ⟨g, i, none⟩ u) base m a :=
  ⟨row_set h.1 (block_not_rowL hg (by decide) h.1), row_set h.2.1 (block_not_rowL hg (by decide) h.2.1), row_set h.2.2.1 (block_not_rowL hg (by decide) h.2.2.1), row_set h.2.2.2.1 (block_not_rowL hg (by decide) h.2.2.2.1), h.2.2.2.2⟩
def nil4 : List Value := [.slice none 0 0, .slice none 0 0, .slice none 0 0, .slice none 0 0]
/-- What the region of the image and the views tells. -/
def ownR (m : ImgV) (v : Value) (w : World) : Prop := ∃ a, v = cvM m a ∧ OwnM w 0 m a
def vwsR (k : Nat) (v : Value) (w : World) : Prop := ∃ q c V, v = .slice q k c ∧ V.length = k ∧ w.ownsRow 0 50 12 v k (viewCells V)
def newR (lo : Nat) (v : Value) (w : World) : Prop := ∃ g, v = .pointer (some ⟨g, 0, none⟩) ∧ lo ≤ g ∧ Typ w g 56 nil4
def cPlan (m : ImgV) (k lo : Nat) : Grow.Plan := fun i => if i = 2 then some (fun _ v w => ownR m v w) else if i = 5 then some (fun _ v w => vwsR k v w) else if i = 6 then some (fun _ v w => newR lo v w) else none
theorem cPlan_stable (m : ImgV) (k lo : Nat) : (cPlan m k lo).stable := by
  intro i r0 h _ v w w' hw hb
  unfold cPlan at h
  split at h
  · cases h; obtain ⟨a, hv, hr⟩ := hw; exact ⟨a, hv, hr.later hb⟩
  · split at h
    · cases h; obtain ⟨q, c, V, hv, hl, hr⟩ := hw; exact ⟨q, c, V, hv, hl, rowLater hr hb⟩
    · split at h
      · cases h; obtain ⟨g, hv, hl, hr⟩ := hw; exact ⟨g, hv, hl, hr.next hb⟩
      · cases h
theorem ownR_form {m : ImgV} {v : Value} {w : World} (h : ownR m v w) : ∃ a, v = cvM m a := h.imp fun _ h => h.1
theorem vwsR_form {k : Nat} {v : Value} {w : World} (h : vwsR k v w) : ∃ q c, v = .slice q k c := by
  obtain ⟨q, c, _, h, _⟩ := h; exact ⟨q, c, h⟩
theorem lex_new {P : Program} {ops : Array Oper} {md : Region.Mode} {w0 : World} {pl : Grow.Plan} {Q : Act → Grow.Facts → Prop} {rest : List Oper} {a : Act} {T : Grow.Facts} {o : Oper} {j lo : Nat} (hpl : pl j = some (fun _ v w => newR lo v w)) (hw : Region.wanted o (yielded ops a.tmps) = true)
    (hz : ∀ w, (execOp a.eval o).run P w = .ok (.value (.pointer (some ⟨w.heap.size, 0, none⟩))) (w.alloc (.cells nil4.toArray 56))) (hlo : lo ≤ w0.heap.size)
    (h : ∀ g, lo ≤ g → Grow.lexR P ops md w0 pl Q (j + 1) rest (a.put o.dst (.pointer (some ⟨g, 0, none⟩))) (Grow.upd T j (newR lo (.pointer (some ⟨g, 0, none⟩))))) : Grow.lexR P ops md w0 pl Q j (o :: rest) a T := by
  refine Grow.lex_rel hw hpl (fun w hC hK => ?_) fun v hW => ?_
  · unfold Grow.yields
    rw [hz w]
    exact ⟨below1' _ _, w.heap.size, rfl, Nat.le_trans hlo hC.size, Typ.new _ _ _⟩
  · obtain ⟨w, _, hT⟩ := hW
    obtain ⟨_, g, rfl, hg, _⟩ := Grow.Holds.of_upd hT
    exact h g hg
set_option maxHeartbeats 8000000 in
set_option maxRecDepth 100000 in
theorem lanternClears_walk (n : Nat) (l : List Nat) (ql : Option Addr) (capl : Nat) (kl : List Nat) (qk : Option Addr) (capk : Nat) (w : World) (hn : n < 256) (hl : l.length ≤ maxLen) (hu : RdU w ql l) (hkl : kl.length ≤ maxLen) (huk : RdU w qk kl) :
    Calls Try.prog 7 #[.int .u8 n, .slice ql l.length capl, .slice qk kl.length capk] w fun e w' => e = .returned (.bool true) ∧ Below w.heap.size w w' := by
  have HL := Lib.hid hl; have HU := Lib.hid hu; have HKL := Lib.hid hkl; have HUK := Lib.hid huk
  clear hl hu hkl huk
  go_enter Try.func7, Try.ntmps7
  go_wp2_with fail
  have hB := b10_any n 200 w hn (by omega)
  change Calls _ _ #[.int .u8 n, .int .u8 200] _ _ at hB
  refine hB.mono ?_
  clear hB
  rintro e w1 ⟨g, cap, rfl, hg0, hg1, hr, hb⟩
  have hlc : (b10 n 200).cars.length = k10 n := cars10_len n 200
  have hkr := k10_range n
  have HSL := Lib.hid (slack10 n 200)
  have HF2 : Hid (2 ≤ (b10 n 200).fl ∧ (b10 n 200).fl ≤ 8) := Lib.hid (fl10_range n)
  have HVA := Lib.hid (valid10 n 200 (by omega))
  obtain ⟨k, hk⟩ : ∃ k, k10 n = k := ⟨_, rfl⟩
  rw [hk] at hlc hkr
  have HK := Lib.hid hlc
  have HR1 := Lib.hid hr; have HB1 := Lib.hid hb
  have HU1 := Lib.hid (HU.out.next hb); have HUK1 := Lib.hid (HUK.out.next hb)
  clear hr hb hlc hk HU HUK
  generalize b10 n 200 = b at *
  go_upto_region 2 with fail
  have B5 := Blk.new w1 [.int .i64 b.fl, .int .i64 b.deb, .int .i64 b.room, .int .i64 b.park, .float .f64 b.em, .float .f64 b.fu, .float .f64 b.ov, .slice (some ⟨g, 0, none⟩) b.cars.length cap] 28
  have hb5 := below1' w1 (.cells #[.int .i64 b.fl, .int .i64 b.deb, .int .i64 b.room, .int .i64 b.park, .float .f64 b.em, .float .f64 b.fu, .float .f64 b.ov, .slice (some ⟨g, 0, none⟩) b.cars.length cap] 28)
  change Blk (w1.alloc (.cells #[.int .i64 b.fl, .int .i64 b.deb, .int .i64 b.room, .int .i64 b.park, .float .f64 b.em, .float .f64 b.fu, .float .f64 b.ov, .slice (some ⟨g, 0, none⟩) b.cars.length cap] 28)) _ _ at B5
  have HW2 := Lib.hid (HB1.out.trans (hb5.mono HB1.out.size))
  have HR2 := Lib.hid (HR1.out.next hb5)
  have HU2 := Lib.hid (HU1.out.next hb5); have HUK2 := Lib.hid (HUK1.out.next hb5)
  have HX2 := Lib.hid B5
  clear B5 hb5 HB1 HR1 HU1 HUK1
  generalize w1.alloc (.cells #[.int .i64 b.fl, .int .i64 b.deb, .int .i64 b.room, .int .i64 b.park, .float .f64 b.em, .float .f64 b.fu, .float .f64 b.ov, .slice (some ⟨g, 0, none⟩) b.cars.length cap] 28) = w2 at *
  generalize w1.heap.size = g5 at *
  obtain ⟨mI, hmI⟩ : ∃ mI, mI = imageF b kl := ⟨_, rfl⟩
  have HMI := Lib.hid hmI
  clear hmI
  have HVW : Hid (∀ W, Below w2.heap.size w2 W → Calls Try.prog 11 #[cvB b (some ⟨g, 0, none⟩) cap, .slice ql l.length capl] W fun e w' => ∃ v, e = .returned v ∧ Below W.heap.size W w' ∧ vwsR k v w') := Lib.hid fun W h => by
    refine (views23_any b (some ⟨g, 0, none⟩) cap l ql capl W (by rw [HK.out]; omega) HL.out HF2.out.1 (by have := HF2.out.2; omega) (HU2.out.next h)).mono ?_
    rintro e w' ⟨v, V, rfl, h1, _, h3, h4⟩
    obtain ⟨q, c, rfl⟩ := row_form h3
    rw [HK.out] at h1
    rw [h1] at h3
    exact ⟨_, rfl, h4, q, c, V, by rw [h1], h1, by rw [h1]; exact row_base h3 (Nat.zero_le _)⟩
  have k0 := (HX2.out).reg 0 _ rfl
  have k1 := (HX2.out).reg 1 _ rfl
  have k2 := (HX2.out).reg 2 _ rfl
  have k3 := (HX2.out).reg 3 _ rfl
  have k4 := (HX2.out).reg 4 _ rfl
  have k5 := (HX2.out).reg 5 _ rfl
  have k6 := (HX2.out).reg 6 _ rfl
  have k7 := (HX2.out).reg 7 _ rfl
  refine Grow.wp_region_tail 7 (cPlan mI k w2.heap.size) (cPlan_stable _ _ _) (by kernel_rfl) (by kernel_rfl) ?_
  intro opsq Hopsq
  simp only [List.take_succ_cons, List.take_zero, List.drop_succ_cons, List.drop_zero]
  repeat (first | (refine Grow.lex_move rfl ?_ rfl ?_; (· first | exact Grow.wanted_none | (rw [Hopsq.out]; rfl)); intro K hK; simp only [Grow.put_lit, Grow.setAt, Grow.eval_lit, Grow.ev]; refine hK _ _ ?_; clear hK K) | (refine Grow.lex_assign rfl ?_ rfl ?_; (· first | exact Grow.wanted_none | (rw [Hopsq.out]; rfl)); intro K hK; simp only [Grow.put_lit, Grow.setAt, Grow.eval_lit, Grow.ev]; refine hK _ _ ?_; clear hK K) | (refine Grow.lex_plain rfl rfl ?_ rfl ?_; (· first | exact Grow.wanted_none | (rw [Hopsq.out]; rfl)); apply Exists.intro; refine ⟨fun wq hCq _ => ?_, ?_⟩; (· (go_wp2_with fail; refine ⟨rfl, Below.refl _ _, ?_⟩; simp only [Grow.getD_lit, Grow.nth]; rfl)); intro K hK; simp only [Grow.put_lit, Grow.setAt]; refine hK _ _ ?_; clear hK K) | (refine Grow.lex_nilCheck rfl rfl ?_ rfl ?_; (· first | exact Grow.wanted_none | (rw [Hopsq.out]; rfl)); intro K hK; simp only [Grow.put_lit, Grow.setAt]; refine hK _ _ ?_; clear hK K) | (refine Grow.lex_skip ?_ ?_; (· (rw [Hopsq.out]; rfl)); intro K hK; simp only [Grow.put_lit, Grow.setAt]; refine hK _ _ ?_; clear hK K))
  (refine Grow.lex_callR (r := (fun _ v w => ownR mI v w)) ?_ rfl ?_; (· first | exact Grow.wanted_none | (rw [Hopsq.out]; rfl)); apply Exists.intro; apply Exists.intro; refine ⟨fun wq => ?_, ?_, ?_⟩; (· (go_simp; exact ⟨rfl, rfl⟩)); (· (intro wq hCq hKq; exact (image_any b _ _ kl qk capk _ (by rw [HK.out]; omega) (by rw [HK.out]; omega) HF2.out.1 (by have := HF2.out.2; omega) HSL.out (HR2.out.next (Grow.Cl.base hCq)) HKL.out (HUK2.out.next (Grow.Cl.base hCq))).mono fun e w' ⟨a, he, ho, hb⟩ => ⟨_, he, hb, a, by rw [HMI.out], by rw [HMI.out]; exact ho.base (Nat.zero_le _)⟩)); intro vq hWq; obtain ⟨_, _, hTT⟩ := hWq; obtain ⟨a, hvq⟩ := ownR_form (Grow.Holds.of_upd hTT).2; subst hvq; clear hTT; intro K hK; simp only [Grow.put_lit, Grow.setAt]; refine hK _ _ ?_; clear hK K)
  repeat (first | (refine Grow.lex_move rfl ?_ rfl ?_; (· first | exact Grow.wanted_none | (rw [Hopsq.out]; rfl)); intro K hK; simp only [Grow.put_lit, Grow.setAt, Grow.eval_lit, Grow.ev]; refine hK _ _ ?_; clear hK K) | (refine Grow.lex_assign rfl ?_ rfl ?_; (· first | exact Grow.wanted_none | (rw [Hopsq.out]; rfl)); intro K hK; simp only [Grow.put_lit, Grow.setAt, Grow.eval_lit, Grow.ev]; refine hK _ _ ?_; clear hK K) | (refine Grow.lex_plain rfl rfl ?_ rfl ?_; (· first | exact Grow.wanted_none | (rw [Hopsq.out]; rfl)); apply Exists.intro; refine ⟨fun wq hCq _ => ?_, ?_⟩; (· (go_wp2_with fail; refine ⟨rfl, Below.refl _ _, ?_⟩; simp only [Grow.getD_lit, Grow.nth]; rfl)); intro K hK; simp only [Grow.put_lit, Grow.setAt]; refine hK _ _ ?_; clear hK K) | (refine Grow.lex_nilCheck rfl rfl ?_ rfl ?_; (· first | exact Grow.wanted_none | (rw [Hopsq.out]; rfl)); intro K hK; simp only [Grow.put_lit, Grow.setAt]; refine hK _ _ ?_; clear hK K) | (refine Grow.lex_skip ?_ ?_; (· (rw [Hopsq.out]; rfl)); intro K hK; simp only [Grow.put_lit, Grow.setAt]; refine hK _ _ ?_; clear hK K))
  (refine Grow.lex_callR (r := (fun _ v w => vwsR k v w)) ?_ rfl ?_; (· first | exact Grow.wanted_none | (rw [Hopsq.out]; rfl)); apply Exists.intro; apply Exists.intro; refine ⟨fun wq => ?_, ?_, ?_⟩; (· (go_simp; exact ⟨rfl, rfl⟩)); (· (intro wq hCq hKq; exact HVW.out _ (Grow.Cl.base hCq))); intro vq hWq; obtain ⟨_, _, hTT⟩ := hWq; obtain ⟨qv, capv, hvq⟩ := vwsR_form (Grow.Holds.of_upd hTT).2; subst hvq; clear hTT; intro K hK; simp only [Grow.put_lit, Grow.setAt]; refine hK _ _ ?_; clear hK K)
  repeat (first | (refine Grow.lex_move rfl ?_ rfl ?_; (· first | exact Grow.wanted_none | (rw [Hopsq.out]; rfl)); intro K hK; simp only [Grow.put_lit, Grow.setAt, Grow.eval_lit, Grow.ev]; refine hK _ _ ?_; clear hK K) | (refine Grow.lex_assign rfl ?_ rfl ?_; (· first | exact Grow.wanted_none | (rw [Hopsq.out]; rfl)); intro K hK; simp only [Grow.put_lit, Grow.setAt, Grow.eval_lit, Grow.ev]; refine hK _ _ ?_; clear hK K) | (refine Grow.lex_plain rfl rfl ?_ rfl ?_; (· first | exact Grow.wanted_none | (rw [Hopsq.out]; rfl)); apply Exists.intro; refine ⟨fun wq hCq _ => ?_, ?_⟩; (· (go_wp2_with fail; refine ⟨rfl, Below.refl _ _, ?_⟩; simp only [Grow.getD_lit, Grow.nth]; rfl)); intro K hK; simp only [Grow.put_lit, Grow.setAt]; refine hK _ _ ?_; clear hK K) | (refine Grow.lex_nilCheck rfl rfl ?_ rfl ?_; (· first | exact Grow.wanted_none | (rw [Hopsq.out]; rfl)); intro K hK; simp only [Grow.put_lit, Grow.setAt]; refine hK _ _ ?_; clear hK K) | (refine Grow.lex_skip ?_ ?_; (· (rw [Hopsq.out]; rfl)); intro K hK; simp only [Grow.put_lit, Grow.setAt]; refine hK _ _ ?_; clear hK K))
  refine lex_new rfl ?_ (fun wq => ?_) (Nat.le_refl _) ?_
  · first | exact Grow.wanted_none | (rw [Hopsq.out]; rfl)
  · go_simp
    exact rfl
  intro g8 hg8
  simp only [Grow.put_lit, Grow.setAt]
  refine Grow.lex_nil ?_
  intro w3 hb3 hTT
  obtain ⟨hT6, g8', hgq, _, hY3⟩ := Grow.Holds.of_upd hTT
  obtain rfl : g8 = g8' := by simpa using hgq
  obtain ⟨hT5, q5, c5, V, hvq, hVK, hV3⟩ := Grow.Holds.of_upd hT6
  obtain ⟨_, a', haq, hM3⟩ := Grow.Holds.of_upd hT5
  obtain rfl : a = a' := by
    obtain ⟨p, pc, f, fc, l, lc, e, ec⟩ := a
    obtain ⟨p', pc', f', fc', l', lc', e', ec'⟩ := a'
    simp at haq
    obtain ⟨⟨rfl, rfl⟩, ⟨rfl, rfl⟩, ⟨rfl, rfl⟩, rfl, rfl⟩ := haq
    rfl
  replace hb3 := Grow.Cl.base hb3
  have HB3 := Lib.hid hb3; have HY3 := Lib.hid hY3; have HM3 := Lib.hid hM3; have HV3 := Lib.hid hV3; have HVK := Lib.hid hVK
  clear hTT hT6 hT5 hgq hvq haq hb3 hY3 hM3 hV3 hVK Hopsq opsq k0 k1 k2 k3 k4 k5 k6 k7
  have y0 := HY3.out.blk.cell 0 _ rfl; have y1 := HY3.out.blk.cell 1 _ rfl; have y2 := HY3.out.blk.cell 2 _ rfl; have y3 := HY3.out.blk.cell 3 _ rfl
  have f0 := HY3.out.blk.fr 0; have f1 := HY3.out.blk.fr 1; have f2 := HY3.out.blk.fr 2; have f3 := HY3.out.blk.fr 3
  have hg2 : w2.heap.size ≤ g8 := hg8
  have hb4 := (((HB3.out.setCell (p := ⟨g8, 0, none⟩) hg2 (.slice a.p mI.ph.length a.pc)).setCell (p := ⟨g8, 1, none⟩) hg2 (.slice a.f mI.fg.length a.fc)).setCell (p := ⟨g8, 2, none⟩) hg2 (.slice a.l mI.lv.length a.lc)).setCell (p := ⟨g8, 3, none⟩) hg2 (.slice a.e mI.en.length a.ec)
  have T1 := HY3.out.set 0 (.slice a.p mI.ph.length a.pc)
  have T2 := T1.set 1 (.slice a.f mI.fg.length a.fc)
  have T3 := T2.set 2 (.slice a.l mI.lv.length a.lc)
  have T4 := T3.set 3 (.slice a.e mI.en.length a.ec)
  have hM4 := (((HM3.out.setT (i := 0) (u := .slice a.p mI.ph.length a.pc) HY3.out).setT (i := 1) (u := .slice a.f mI.fg.length a.fc) T1).setT (i := 2) (u := .slice a.l mI.lv.length a.lc) T2).setT (i := 3) (u := .slice a.e mI.en.length a.ec) T3
  have hV4 := row_set (i := 3) (u := .slice a.e mI.en.length a.ec) (row_set (i := 2) (u := .slice a.l mI.lv.length a.lc) (row_set (i := 1) (u := .slice a.f mI.fg.length a.fc) (row_set (i := 0) (u := .slice a.p mI.ph.length a.pc) HV3.out (block_not_rowL HY3.out (by decide) HV3.out)) (block_not_rowL T1 (by decide) (row_set HV3.out (block_not_rowL HY3.out (by decide) HV3.out)))) (block_not_rowL T2 (by decide) (row_set (row_set HV3.out (block_not_rowL HY3.out (by decide) HV3.out)) (block_not_rowL T1 (by decide) (row_set HV3.out (block_not_rowL HY3.out (by decide) HV3.out)))))) (block_not_rowL T3 (by decide) (row_set (row_set (row_set HV3.out (block_not_rowL HY3.out (by decide) HV3.out)) (block_not_rowL T1 (by decide) (row_set HV3.out (block_not_rowL HY3.out (by decide) HV3.out)))) (block_not_rowL T2 (by decide) (row_set (row_set HV3.out (block_not_rowL HY3.out (by decide) HV3.out)) (block_not_rowL T1 (by decide) (row_set HV3.out (block_not_rowL HY3.out (by decide) HV3.out)))))))
  have HX4 := Lib.hid (HX2.out.next hb4); have HR4 := Lib.hid (HR2.out.next hb4); have HW4 := Lib.hid (HW2.out.trans (hb4.mono HW2.out.size)); have HI4 := Lib.hid T4.blk; have HM4 := Lib.hid hM4.rd; have HV4 := Lib.hid (rdV_of_owns hV4)
  clear T1 T2 T3 T4 hM4 hV4 hb4 hg2 hg8
  go_upto_region 3 with fail
  clear y0 y1 y2 y3 f0 f1 f2 f3 HY3 HM3 HV3 HB3 HX2 HR2 HW2 HU2 HUK2 HVW
  change Hid (Blk _ g8 [.slice a.p mI.ph.length a.pc, .slice a.f mI.fg.length a.fc, .slice a.l mI.lv.length a.lc, .slice a.e mI.en.length a.ec]) at HI4
  generalize (((w3.setCell ⟨g8, 0, none⟩ (.slice a.p mI.ph.length a.pc)).setCell ⟨g8, 1, none⟩ (.slice a.f mI.fg.length a.fc)).setCell ⟨g8, 2, none⟩ (.slice a.l mI.lv.length a.lc)).setCell ⟨g8, 3, none⟩ (.slice a.e mI.en.length a.ec) = w4 at *
  have k0 := (HX4.out).cell 0 _ rfl
  have k1 := (HX4.out).cell 1 _ rfl
  have k2 := (HX4.out).cell 2 _ rfl
  have k3 := (HX4.out).cell 3 _ rfl
  have k4 := (HX4.out).cell 4 _ rfl
  have k5 := (HX4.out).cell 5 _ rfl
  have k6 := (HX4.out).cell 6 _ rfl
  have k7 := (HX4.out).cell 7 _ rfl
  rw [HK.out] at k7
  have hmk := run_mkC k (by omega)
  have HL1 : Hid (b.cars.length ≤ 1000) := Lib.hid (by rw [HK.out]; omega)
  have HOKL : Hid (lightOk b V (csZ k)) := Lib.hid ⟨HVA.out, by rw [HVK.out, HK.out], by rw [HK.out]; simp [csZ]⟩
  have HFF : Hid (lightF b V (csZ k) = lightK b V (csZ k) k ∧ lightE b V (csZ k) = 0) := Lib.hid (by rw [lightF, lightE, if_pos HOKL.out, if_pos HOKL.out, HVK.out]; exact ⟨rfl, rfl⟩)
  obtain ⟨F, hF⟩ : ∃ F, lightK b V (csZ k) k = F := ⟨_, rfl⟩
  rw [hF] at HFF
  have HFE := Lib.hid hF
  clear hF HOKL
  have HSS : Hid (∀ W, Below w4.heap.size w4 W → W.cell? ⟨g5, 0, none⟩ = some (.int .i64 b.fl) ∧ W.cell? ⟨g5, 1, none⟩ = some (.int .i64 b.deb) ∧ W.cell? ⟨g5, 2, none⟩ = some (.int .i64 b.room) ∧ W.cell? ⟨g5, 3, none⟩ = some (.int .i64 b.park) ∧ W.cell? ⟨g5, 4, none⟩ = some (.float .f64 b.em) ∧ W.cell? ⟨g5, 5, none⟩ = some (.float .f64 b.fu) ∧ W.cell? ⟨g5, 6, none⟩ = some (.float .f64 b.ov) ∧ W.cell? ⟨g5, 7, none⟩ = some (.slice (some ⟨g, 0, none⟩) k cap)) := Lib.hid fun W h => by
    have X := HX4.out.next h
    have x7 := X.cell 7 _ rfl
    rw [HK.out] at x7
    exact ⟨X.cell 0 _ rfl, X.cell 1 _ rfl, X.cell 2 _ rfl, X.cell 3 _ rfl, X.cell 4 _ rfl, X.cell 5 _ rfl, X.cell 6 _ rfl, x7⟩
  have HOC : Hid (∀ W B, Below w4.heap.size w4 W → W.ownsRow w4.heap.size 33 2 (.slice (some ⟨B, 0, none⟩) k k) k (csCells (csZ k)) → Calls Try.prog 12 #[.agg #[.int .i64 b.fl, .int .i64 b.deb, .int .i64 b.room, .int .i64 b.park, .float .f64 b.em, .float .f64 b.fu, .float .f64 b.ov, .slice (some ⟨g, 0, none⟩) k cap], .slice qv k capv, .slice (some ⟨B, 0, none⟩) k k] W fun e w' => ∃ q1 c1 q2 c2, e = .returned (.tuple #[cvL F q1 c1 q2 c2, .int .i64 0]) ∧ w'.ownsRow W.heap.size 33 2 (.slice q1 F.lit.length c1) F.lit.length (csCells F.lit) ∧ w'.ownsRow W.heap.size 4 1 (.slice q2 F.gong.length c2) F.gong.length (boolCells F.gong) ∧ Below W.heap.size W w') := Lib.hid fun W B h ho => by
    have hh := light_any b (some ⟨g, 0, none⟩) cap V qv capv (csZ k) (some ⟨B, 0, none⟩) k W HL1.out HSL.out (HR4.out.next h) (HV4.out.next h) (rdX_of_owns ho)
    rw [HFF.out.1, HFF.out.2, HVK.out, show (csZ k).length = k by simp [csZ]] at hh
    rw [← HK.out]
    rw [← HK.out] at hh
    exact hh
  go_cut [10, 11] from 24 to 32 (fun v4 v5 wx => lanP w4 F 0 v4 v5 wx)
  case first =>
    go_region_held3 (fun W : World => W.cell? ⟨g5, 0, none⟩ = some (.int .i64 b.fl) ∧ W.cell? ⟨g5, 1, none⟩ = some (.int .i64 b.deb) ∧ W.cell? ⟨g5, 2, none⟩ = some (.int .i64 b.room) ∧ W.cell? ⟨g5, 3, none⟩ = some (.int .i64 b.park) ∧ W.cell? ⟨g5, 4, none⟩ = some (.float .f64 b.em) ∧ W.cell? ⟨g5, 5, none⟩ = some (.float .f64 b.fu) ∧ W.cell? ⟨g5, 6, none⟩ = some (.float .f64 b.ov) ∧ W.cell? ⟨g5, 7, none⟩ = some (.slice (some ⟨g, 0, none⟩) k cap))
      ((refine HSS.out _ ?_
        repeat (with_reducible refine setB2 ?_ ?_; rotate_left; (first | exact Nat.le_refl _ | exact Nat.le_succ _ | exact T6.out.size))
        first
          | with_reducible exact drewB2 w4
          | with_reducible exact drewA2 w4 _
          | with_reducible exact drewAA2 w4 _ _
          | with_reducible exact T6.out
          | with_reducible exact below_al2 T6.out (Nat.le_refl _) _
          | with_reducible exact below_al2 (drewB2 w4) (Nat.le_refl _) _
          | with_reducible exact below_al2 (below_al2 (drewB2 w4) (Nat.le_refl _) _) (Nat.le_refl _) _))
      (first
        | (go_at_call 12
           refine (HOC.out _ _ ?_ ?_).mono ?_
           · first
               | with_reducible exact drewA2 w4 _
               | with_reducible exact drewAA2 w4 _ _
           · first
               | with_reducible exact ownsC_0 w4 k (by omega)
               | with_reducible exact ownsC_1 w4 k _ (by omega)
               | with_reducible exact ownsC_2 w4 k _ (by omega)
           rintro e w6 ⟨q1, c1, q2, c2, rfl, ho1, ho2, hb6⟩
           have T6 : Hid (Below w4.heap.size w4 w6) := Lib.hid (by first | with_reducible exact (drewA2 w4 _).trans (hb6.mono (drewA2 w4 _).size) | with_reducible exact (drewAA2 w4 _ _).trans (hb6.mono (drewAA2 w4 _ _).size))
           have c6 := base_cell hb6
           have z6 := base_frozen2 hb6))
    all_goals go_wp2_with fail
    all_goals go_meet
    all_goals
      first
        | exact lanP_A T6.out (by simp) ho1 ho2
        | exact lanP_B (xs := zL) rfl T6.out (Nat.le_succ _) (by simp) (blkL_1 hb6) ho1 ho2
        | exact lanP_B (xs := zL) rfl T6.out (Nat.le_refl _) (by simp; omega) (blkL_0 hb6) ho1 ho2
  case rest =>
    obtain ⟨g9, q1, c1, q2, c2, rfl, rfl, hg9, hB9, ho1, ho2, hb8⟩ := hcut
    obtain ⟨l1, l2⟩ := lightK_len b V (csZ k) k (by rw [HVK.out]; exact Nat.le_refl _) (by simp [csZ])
    rw [HFE.out] at l1 l2
    rw [l1] at ho1; rw [l2] at ho2
    unfold lanC at hB9
    rw [l1, l2] at hB9
    have HG8 := Lib.hid hB9
    have HW8 := Lib.hid (HW4.out.trans (hb8.mono HW4.out.size))
    have HX8 := Lib.hid (HX4.out.next hb8); have HR8 := Lib.hid (HR4.out.next hb8); have HI8 := Lib.hid (HI4.out.next hb8); have HM8 := Lib.hid (HM4.out.next hb8)
    have HQ1 := Lib.hid (rdX_of_owns ho1); have HQ2 := Lib.hid (rdX_of_owns ho2); have HV8 := Lib.hid (HV4.out.next hb8)
    generalize hwc : wc = w8 at *
    clear hwc ho1 ho2 hB9 hb8 HSS HOC hmk k0 k1 k2 k3 k4 k5 k6 k7 HX4 HV4 HR4 HW4 HQ1 HQ2 l1 l2
    have hlI : mI.ph.length ≤ 1000 ∧ mI.en.length ≤ 60 := by
      have h := imgK_len b (recL b kl 60) (by rw [HK.out]; omega) 60
      rw [List.take_of_length_le (by simp only [recL, recT_len]; omega)] at h
      rw [HMI.out]
      exact h
    have HIL := Lib.hid hlI
    clear hlI
    have k0 := (HX8.out).cell 0 _ rfl
    have k1 := (HX8.out).cell 1 _ rfl
    have k2 := (HX8.out).cell 2 _ rfl
    have k3 := (HX8.out).cell 3 _ rfl
    have k4 := (HX8.out).cell 4 _ rfl
    have k5 := (HX8.out).cell 5 _ rfl
    have k6 := (HX8.out).cell 6 _ rfl
    have k7 := (HX8.out).cell 7 _ rfl
    have y0 := (HI8.out).cell 0 _ rfl
    have y1 := (HI8.out).cell 1 _ rfl
    have y2 := (HI8.out).cell 2 _ rfl
    have y3 := (HI8.out).cell 3 _ rfl
    go_wp2_with fail
    have hh := serve_any b (some ⟨g, 0, none⟩) cap mI a V qv capv w8 HL1.out HSL.out HIL.out.1 (by have := HIL.out.2; omega) HR8.out HM8.out HV8.out
    rw [HVK.out] at hh
    have hS := served_law b mI V (csZ k) (by have := HF2.out.2; omega) HVA.out (by rw [HMI.out]; exact imgK_ok b _) (by rw [HVK.out, HK.out]) (by rw [HK.out]; simp [csZ])
    rw [HFF.out.1] at hS
    have HKI : Hid (∀ r ∈ servF b mI V, r.1 = 2) := Lib.hid (by
      intro r hr
      unfold servF at hr
      split at hr
      · obtain ⟨e, _, rfl⟩ := List.mem_map.1 hr; rfl
      · simp at hr)
    have HLL : Hid ((servF b mI V).length ≤ 60) := Lib.hid (by
      have h1 := HIL.out.2
      unfold servF
      split
      · have := servL_len (setV b V) mI.en; omega
      · simp)
    generalize servF b mI V = L at *
    refine hh.mono ?_
    clear hh
    rintro e w9 ⟨v, rfl, ho, hb9⟩
    obtain ⟨qs, cs, rfl⟩ := row_form ho
    obtain ⟨N, hN⟩ : ∃ N, N = L.length := ⟨_, rfl⟩
    rw [← hN]
    have HNL := Lib.hid hN; have HSV := Lib.hid hS; have HQ9 := Lib.hid (rdX_of_owns ho)
    have hNm : N ≤ 60 := by rw [hN]; exact HLL.out
    have HALL : Hid (∀ W, Below w9.heap.size w9 W → RdX W qs (recCells L) ∧ Blk W g8 [.slice a.p mI.ph.length a.pc, .slice a.f mI.fg.length a.fc, .slice a.l mI.lv.length a.lc, .slice a.e mI.en.length a.ec] ∧ RdM W mI a ∧ Blk W g9 [.slice q1 k c1, .slice q2 k c2, .int .u32 (F.clr.1.toNat : Int), .int .u32 (F.clr.2.toNat : Int)] ∧ Below w.heap.size w W) := Lib.hid fun W h => by
      have h8 := hb9.trans (h.mono hb9.size)
      exact ⟨HQ9.out.next h, HI8.out.next h8, HM8.out.next h8, HG8.out.next h8, HW8.out.trans (h8.mono HW8.out.size)⟩
    clear hN hS ho hb9 HQ9 HI8 HM8 HG8 HW8 HX8 HR8 HV8 k0 k1 k2 k3 k4 k5 k6 k7 y0 y1 y2 y3
    go_upto_region 6 with fail
    have B13 := Blk.new w9 [.int .u32 0, .int .u32 0] 33
    have hb13 := below1' w9 (.cells #[.int .u32 0, .int .u32 0] 33)
    change Blk (w9.alloc (.cells #[.int .u32 0, .int .u32 0] 33)) _ _ at B13
    have HC0 := Lib.hid B13; have HB13 := Lib.hid hb13
    clear B13 hb13
    generalize w9.alloc (.cells #[.int .u32 0, .int .u32 0] 33) = w10 at *
    have HLT : Hid (∀ W, Below w9.heap.size w10 W → Below w9.heap.size w9 W) := Lib.hid fun W h => HB13.out.trans h
    generalize w9.heap.size = g13 at *
    go_wp2_with fail
    go_loopw [14] (fun v wr => ∃ j : Nat, j ≤ N ∧ v = .int .i64 j ∧ Blk wr g13 [.int .u32 ((ofL ((L.take j).map keyR)).1.toNat : Int), .int .u32 ((ofL ((L.take j).map keyR)).2.toNat : Int)] ∧ Below g13 w10 wr) (fun v _ => N - (intOf v).toNat)
    case atStart => exact ⟨0, by omega, rfl, HC0.out, Below.refl _ _⟩
    case round =>
      clear HC0
      obtain ⟨j, hj, rfl, hc, hb⟩ := hrel
      have HB := Lib.hid hb; have HC := Lib.hid hc
      clear hb hc
      by_cases hlt : j < N
      · have d1 : decide ((j : Int) < (N : Int)) = true := by simp; omega
        obtain ⟨r, hr⟩ : ∃ r, L[j]? = some r := ⟨_, List.getElem?_eq_getElem (by rw [← HNL.out]; exact hlt)⟩
        obtain ⟨hq, _⟩ := HALL.out wr (HLT.out wr HB.out)
        obtain ⟨A, hqA, _, x0, x1, x2, _, _⟩ := hq.rc hr
        subst hqA
        rw [HKI.out r (List.mem_of_getElem? hr)] at x0
        have HST : Hid (ofL ((L.take (j + 1)).map keyR) = union (ofL ((L.take j).map keyR)) (one r.2.1 r.2.2.1)) := Lib.hid (by
          rw [List.take_add_one, hr]
          simp only [Option.toList_some, List.map_append, List.map_cons, List.map_nil, ofL_snoc]
          rfl)
        have hj0 : (0 : Int) ≤ (j : Int) := by omega
        have hjn : (j : Int) < (N : Int) := by omega
        clear hq hr
        go_upto_region 11 with fail
        clear d1 x0
        obtain ⟨cj, hcj⟩ : ∃ cj, ofL ((L.take j).map keyR) = cj := ⟨_, rfl⟩
        rw [hcj] at HST HC
        clear hcj
        replace x1 : ∀ W, Grow.Cl wr.drew W → _ := fun W h => cell_later (Grow.Cl.base h) x1
        replace x2 : ∀ W, Grow.Cl wr.drew W → _ := fun W h => cell_later (Grow.Cl.base h) x2
        have z0 := (HC.out).reg 0 _ rfl
        have z1 := (HC.out).reg 1 _ rfl
        (refine Grow.wp_region_tail 13 Grow.noPlan Grow.noPlan_stable (by kernel_rfl) (by kernel_rfl) ?_; intro opsq Hopsq; simp only [List.take_succ_cons, List.take_zero, List.drop_succ_cons, List.drop_zero])
        repeat (first | (refine Grow.lex_move rfl ?_ rfl ?_; (· first | exact Grow.wanted_none | (rw [Hopsq.out]; rfl)); intro K hK; simp only [Grow.put_lit, Grow.setAt, Grow.eval_lit, Grow.ev]; refine hK _ _ ?_; clear hK K) | (refine Grow.lex_assign rfl ?_ rfl ?_; (· first | exact Grow.wanted_none | (rw [Hopsq.out]; rfl)); intro K hK; simp only [Grow.put_lit, Grow.setAt, Grow.eval_lit, Grow.ev]; refine hK _ _ ?_; clear hK K) | (refine Grow.lex_plain rfl rfl ?_ rfl ?_; (· first | exact Grow.wanted_none | (rw [Hopsq.out]; rfl)); apply Exists.intro; refine ⟨fun wq hCq _ => ?_, ?_⟩; (· (go_wp2_with fail; refine ⟨rfl, Below.refl _ _, ?_⟩; simp only [Grow.getD_lit, Grow.nth]; rfl)); intro K hK; simp only [Grow.put_lit, Grow.setAt]; refine hK _ _ ?_; clear hK K) | (refine Grow.lex_nilCheck rfl rfl ?_ rfl ?_; (· first | exact Grow.wanted_none | (rw [Hopsq.out]; rfl)); intro K hK; simp only [Grow.put_lit, Grow.setAt]; refine hK _ _ ?_; clear hK K) | (refine Grow.lex_skip ?_ ?_; (· (rw [Hopsq.out]; rfl)); intro K hK; simp only [Grow.put_lit, Grow.setAt]; refine hK _ _ ?_; clear hK K))
        (refine Grow.lex_call ?_ rfl ?_; (· first | exact Grow.wanted_none | (rw [Hopsq.out]; rfl)); apply Exists.intro; apply Exists.intro; refine ⟨fun wq => ?_, ?_⟩; (· (go_simp; exact ⟨rfl, rfl⟩)); apply Exists.intro; refine ⟨fun wq hCq hKq => ?_, ?_⟩; (· exact refOne_any r.2.1 r.2.2.1 _); intro K hK; simp only [Grow.put_lit, Grow.setAt]; refine hK _ _ ?_; clear hK K)
        repeat (first | (refine Grow.lex_move rfl ?_ rfl ?_; (· first | exact Grow.wanted_none | (rw [Hopsq.out]; rfl)); intro K hK; simp only [Grow.put_lit, Grow.setAt, Grow.eval_lit, Grow.ev]; refine hK _ _ ?_; clear hK K) | (refine Grow.lex_assign rfl ?_ rfl ?_; (· first | exact Grow.wanted_none | (rw [Hopsq.out]; rfl)); intro K hK; simp only [Grow.put_lit, Grow.setAt, Grow.eval_lit, Grow.ev]; refine hK _ _ ?_; clear hK K) | (refine Grow.lex_plain rfl rfl ?_ rfl ?_; (· first | exact Grow.wanted_none | (rw [Hopsq.out]; rfl)); apply Exists.intro; refine ⟨fun wq hCq _ => ?_, ?_⟩; (· (go_wp2_with fail; refine ⟨rfl, Below.refl _ _, ?_⟩; simp only [Grow.getD_lit, Grow.nth]; rfl)); intro K hK; simp only [Grow.put_lit, Grow.setAt]; refine hK _ _ ?_; clear hK K) | (refine Grow.lex_nilCheck rfl rfl ?_ rfl ?_; (· first | exact Grow.wanted_none | (rw [Hopsq.out]; rfl)); intro K hK; simp only [Grow.put_lit, Grow.setAt]; refine hK _ _ ?_; clear hK K) | (refine Grow.lex_skip ?_ ?_; (· (rw [Hopsq.out]; rfl)); intro K hK; simp only [Grow.put_lit, Grow.setAt]; refine hK _ _ ?_; clear hK K))
        (refine Grow.lex_call ?_ rfl ?_; (· first | exact Grow.wanted_none | (rw [Hopsq.out]; rfl)); apply Exists.intro; apply Exists.intro; refine ⟨fun wq => ?_, ?_⟩; (· (go_simp; exact ⟨rfl, rfl⟩)); apply Exists.intro; refine ⟨fun wq hCq hKq => ?_, ?_⟩; (· exact refUnion_any cj (one r.2.1 r.2.2.1) _); intro K hK; simp only [Grow.put_lit, Grow.setAt]; refine hK _ _ ?_; clear hK K)
        repeat (first | (refine Grow.lex_move rfl ?_ rfl ?_; (· first | exact Grow.wanted_none | (rw [Hopsq.out]; rfl)); intro K hK; simp only [Grow.put_lit, Grow.setAt, Grow.eval_lit, Grow.ev]; refine hK _ _ ?_; clear hK K) | (refine Grow.lex_assign rfl ?_ rfl ?_; (· first | exact Grow.wanted_none | (rw [Hopsq.out]; rfl)); intro K hK; simp only [Grow.put_lit, Grow.setAt, Grow.eval_lit, Grow.ev]; refine hK _ _ ?_; clear hK K) | (refine Grow.lex_plain rfl rfl ?_ rfl ?_; (· first | exact Grow.wanted_none | (rw [Hopsq.out]; rfl)); apply Exists.intro; refine ⟨fun wq hCq _ => ?_, ?_⟩; (· (go_wp2_with fail; refine ⟨rfl, Below.refl _ _, ?_⟩; simp only [Grow.getD_lit, Grow.nth]; rfl)); intro K hK; simp only [Grow.put_lit, Grow.setAt]; refine hK _ _ ?_; clear hK K) | (refine Grow.lex_nilCheck rfl rfl ?_ rfl ?_; (· first | exact Grow.wanted_none | (rw [Hopsq.out]; rfl)); intro K hK; simp only [Grow.put_lit, Grow.setAt]; refine hK _ _ ?_; clear hK K) | (refine Grow.lex_skip ?_ ?_; (· (rw [Hopsq.out]; rfl)); intro K hK; simp only [Grow.put_lit, Grow.setAt]; refine hK _ _ ?_; clear hK K))
        (refine Grow.lex_nil ?_; intro w6 hb6 _; replace hb6 := Grow.Cl.base hb6; clear Hopsq opsq)
        have HC6 := Lib.hid (HC.out.next hb6); have HB6 := Lib.hid (HB.out.trans (hb6.mono (by have h1 := HC.out.lt; omega)))
        rw [← HST.out]
        clear hb6 HC HB x1 x2 z0 z1 HST
        obtain ⟨c1, hc1⟩ : ∃ c1, ofL ((L.take (j + 1)).map keyR) = c1 := ⟨_, rfl⟩
        rw [hc1]
        have HC1 := Lib.hid hc1
        clear hc1
        have z0 := HC6.out.cell 0 _ rfl; have z1 := HC6.out.cell 1 _ rfl
        have f0 := HC6.out.fr 0; have f1 := HC6.out.fr 1
        go_wp2_with fail
        exact ⟨⟨j + 1, by omega, by go_num, by rw [HC1.out]; exact (HC6.out.set 0 _).set 1 _, (HB6.out.setCell (p := ⟨g13, 0, none⟩) (Nat.le_refl _) _).setCell (p := ⟨g13, 1, none⟩) (Nat.le_refl _) _⟩, by simp [intOf]; omega⟩
      · have d1 : decide ((j : Int) < (N : Int)) = false := by simp; omega
        obtain rfl : j = N := by omega
        rw [show L.take j = L by rw [HNL.out, List.take_length]] at HC
        obtain ⟨_, hi8, hm8, hg9, hw9⟩ := HALL.out wr (HLT.out wr HB.out)
        have HI := Lib.hid hi8; have HM := Lib.hid hm8; have HG := Lib.hid hg9; have HW9 := Lib.hid hw9
        obtain ⟨cS, hcS⟩ : ∃ c, ofL (L.map keyR) = c := ⟨_, rfl⟩
        rw [hcS] at HC HSV
        obtain ⟨cL, hcL⟩ : ∃ c, ofL (mI.en.map E5.key) = c := ⟨_, rfl⟩
        rw [hcL] at HSV
        have HLA : Hid (∀ W, Below wr.heap.size wr W → Calls Try.prog 22 #[cvM mI a] W fun e w' => e = .returned (cv cL) ∧ Below W.heap.size W w') := Lib.hid fun W h => by
          have hh := lamps_any mI a W (by have := HIL.out.2; omega) (HM.out.next h).2.2.2
          rw [hcL] at hh
          exact hh
        have HBO : Hid (∀ W, Calls Try.prog 25 #[cv cL, cv F.clr] W fun e w' => e = .returned (cv cS) ∧ Below W.heap.size W w') := Lib.hid fun W => by
          have hh := refBoth_any cL F.clr W
          rw [← HSV.out.1] at hh
          exact hh
        have HCO : Hid (∀ W, Calls Try.prog 26 #[cv cS] W fun e w' => e = .returned (.int .i64 (j : Int)) ∧ Below W.heap.size W w') := Lib.hid fun W => by
          have hh := refCount_any cS W
          rw [HSV.out.2, ← HNL.out] at hh
          exact hh
        clear hi8 hm8 hg9 hw9 hcS hcL
        go_upto_region 12 with fail
        clear d1
        have z0 := (HC.out).reg 0 _ rfl
        have z1 := (HC.out).reg 1 _ rfl
        have y0 := (HI.out).reg 0 _ rfl
        have y1 := (HI.out).reg 1 _ rfl
        have y2 := (HI.out).reg 2 _ rfl
        have y3 := (HI.out).reg 3 _ rfl
        have s2 := (HG.out).reg 2 _ rfl
        have s3 := (HG.out).reg 3 _ rfl
        (refine Grow.wp_region Grow.noPlan Grow.noPlan_stable (by kernel_rfl) (by kernel_rfl) ?_; intro opsq Hopsq)
        repeat (first | (refine Grow.lex_move rfl ?_ rfl ?_; (· first | exact Grow.wanted_none | (rw [Hopsq.out]; rfl)); intro K hK; simp only [Grow.put_lit, Grow.setAt, Grow.eval_lit, Grow.ev]; refine hK _ _ ?_; clear hK K) | (refine Grow.lex_assign rfl ?_ rfl ?_; (· first | exact Grow.wanted_none | (rw [Hopsq.out]; rfl)); intro K hK; simp only [Grow.put_lit, Grow.setAt, Grow.eval_lit, Grow.ev]; refine hK _ _ ?_; clear hK K) | (refine Grow.lex_plain rfl rfl ?_ rfl ?_; (· first | exact Grow.wanted_none | (rw [Hopsq.out]; rfl)); apply Exists.intro; refine ⟨fun wq hCq _ => ?_, ?_⟩; (· (go_wp2_with fail; refine ⟨rfl, Below.refl _ _, ?_⟩; simp only [Grow.getD_lit, Grow.nth]; rfl)); intro K hK; simp only [Grow.put_lit, Grow.setAt]; refine hK _ _ ?_; clear hK K) | (refine Grow.lex_nilCheck rfl rfl ?_ rfl ?_; (· first | exact Grow.wanted_none | (rw [Hopsq.out]; rfl)); intro K hK; simp only [Grow.put_lit, Grow.setAt]; refine hK _ _ ?_; clear hK K) | (refine Grow.lex_skip ?_ ?_; (· (rw [Hopsq.out]; rfl)); intro K hK; simp only [Grow.put_lit, Grow.setAt]; refine hK _ _ ?_; clear hK K))
        (refine Grow.lex_call ?_ rfl ?_; (· first | exact Grow.wanted_none | (rw [Hopsq.out]; rfl)); apply Exists.intro; apply Exists.intro; refine ⟨fun wq => ?_, ?_⟩; (· (go_simp; exact ⟨rfl, rfl⟩)); apply Exists.intro; refine ⟨fun wq hCq hKq => ?_, ?_⟩; (· exact HLA.out _ (Grow.Cl.base hCq)); intro K hK; simp only [Grow.put_lit, Grow.setAt]; refine hK _ _ ?_; clear hK K)
        repeat (first | (refine Grow.lex_move rfl ?_ rfl ?_; (· first | exact Grow.wanted_none | (rw [Hopsq.out]; rfl)); intro K hK; simp only [Grow.put_lit, Grow.setAt, Grow.eval_lit, Grow.ev]; refine hK _ _ ?_; clear hK K) | (refine Grow.lex_assign rfl ?_ rfl ?_; (· first | exact Grow.wanted_none | (rw [Hopsq.out]; rfl)); intro K hK; simp only [Grow.put_lit, Grow.setAt, Grow.eval_lit, Grow.ev]; refine hK _ _ ?_; clear hK K) | (refine Grow.lex_plain rfl rfl ?_ rfl ?_; (· first | exact Grow.wanted_none | (rw [Hopsq.out]; rfl)); apply Exists.intro; refine ⟨fun wq hCq _ => ?_, ?_⟩; (· (go_wp2_with fail; refine ⟨rfl, Below.refl _ _, ?_⟩; simp only [Grow.getD_lit, Grow.nth]; rfl)); intro K hK; simp only [Grow.put_lit, Grow.setAt]; refine hK _ _ ?_; clear hK K) | (refine Grow.lex_nilCheck rfl rfl ?_ rfl ?_; (· first | exact Grow.wanted_none | (rw [Hopsq.out]; rfl)); intro K hK; simp only [Grow.put_lit, Grow.setAt]; refine hK _ _ ?_; clear hK K) | (refine Grow.lex_skip ?_ ?_; (· (rw [Hopsq.out]; rfl)); intro K hK; simp only [Grow.put_lit, Grow.setAt]; refine hK _ _ ?_; clear hK K))
        (refine Grow.lex_call ?_ rfl ?_; (· first | exact Grow.wanted_none | (rw [Hopsq.out]; rfl)); apply Exists.intro; apply Exists.intro; refine ⟨fun wq => ?_, ?_⟩; (· (go_simp; exact ⟨rfl, rfl⟩)); apply Exists.intro; refine ⟨fun wq hCq hKq => ?_, ?_⟩; (· exact HBO.out _); intro K hK; simp only [Grow.put_lit, Grow.setAt]; refine hK _ _ ?_; clear hK K)
        repeat (first | (refine Grow.lex_move rfl ?_ rfl ?_; (· first | exact Grow.wanted_none | (rw [Hopsq.out]; rfl)); intro K hK; simp only [Grow.put_lit, Grow.setAt, Grow.eval_lit, Grow.ev]; refine hK _ _ ?_; clear hK K) | (refine Grow.lex_assign rfl ?_ rfl ?_; (· first | exact Grow.wanted_none | (rw [Hopsq.out]; rfl)); intro K hK; simp only [Grow.put_lit, Grow.setAt, Grow.eval_lit, Grow.ev]; refine hK _ _ ?_; clear hK K) | (refine Grow.lex_plain rfl rfl ?_ rfl ?_; (· first | exact Grow.wanted_none | (rw [Hopsq.out]; rfl)); apply Exists.intro; refine ⟨fun wq hCq _ => ?_, ?_⟩; (· (go_wp2_with fail; refine ⟨rfl, Below.refl _ _, ?_⟩; simp only [Grow.getD_lit, Grow.nth]; rfl)); intro K hK; simp only [Grow.put_lit, Grow.setAt]; refine hK _ _ ?_; clear hK K) | (refine Grow.lex_nilCheck rfl rfl ?_ rfl ?_; (· first | exact Grow.wanted_none | (rw [Hopsq.out]; rfl)); intro K hK; simp only [Grow.put_lit, Grow.setAt]; refine hK _ _ ?_; clear hK K) | (refine Grow.lex_skip ?_ ?_; (· (rw [Hopsq.out]; rfl)); intro K hK; simp only [Grow.put_lit, Grow.setAt]; refine hK _ _ ?_; clear hK K))
        (refine Grow.lex_call ?_ rfl ?_; (· first | exact Grow.wanted_none | (rw [Hopsq.out]; rfl)); apply Exists.intro; apply Exists.intro; refine ⟨fun wq => ?_, ?_⟩; (· (go_simp; exact ⟨rfl, rfl⟩)); apply Exists.intro; refine ⟨fun wq hCq hKq => ?_, ?_⟩; (· exact HCO.out _); intro K hK; simp only [Grow.put_lit, Grow.setAt]; refine hK _ _ ?_; clear hK K)
        repeat (first | (refine Grow.lex_move rfl ?_ rfl ?_; (· first | exact Grow.wanted_none | (rw [Hopsq.out]; rfl)); intro K hK; simp only [Grow.put_lit, Grow.setAt, Grow.eval_lit, Grow.ev]; refine hK _ _ ?_; clear hK K) | (refine Grow.lex_assign rfl ?_ rfl ?_; (· first | exact Grow.wanted_none | (rw [Hopsq.out]; rfl)); intro K hK; simp only [Grow.put_lit, Grow.setAt, Grow.eval_lit, Grow.ev]; refine hK _ _ ?_; clear hK K) | (refine Grow.lex_plain rfl rfl ?_ rfl ?_; (· first | exact Grow.wanted_none | (rw [Hopsq.out]; rfl)); apply Exists.intro; refine ⟨fun wq hCq _ => ?_, ?_⟩; (· (go_wp2_with fail; refine ⟨rfl, Below.refl _ _, ?_⟩; simp only [Grow.getD_lit, Grow.nth]; rfl)); intro K hK; simp only [Grow.put_lit, Grow.setAt]; refine hK _ _ ?_; clear hK K) | (refine Grow.lex_nilCheck rfl rfl ?_ rfl ?_; (· first | exact Grow.wanted_none | (rw [Hopsq.out]; rfl)); intro K hK; simp only [Grow.put_lit, Grow.setAt]; refine hK _ _ ?_; clear hK K) | (refine Grow.lex_skip ?_ ?_; (· (rw [Hopsq.out]; rfl)); intro K hK; simp only [Grow.put_lit, Grow.setAt]; refine hK _ _ ?_; clear hK K))
        (refine Grow.lex_call ?_ rfl ?_; (· first | exact Grow.wanted_none | (rw [Hopsq.out]; rfl)); apply Exists.intro; apply Exists.intro; refine ⟨fun wq => ?_, ?_⟩; (· (go_simp; exact ⟨rfl, rfl⟩)); apply Exists.intro; refine ⟨fun wq hCq hKq => ?_, ?_⟩; (· exact sane23_any _); intro K hK; simp only [Grow.put_lit, Grow.setAt]; refine hK _ _ ?_; clear hK K)
        repeat (first | (refine Grow.lex_move rfl ?_ rfl ?_; (· first | exact Grow.wanted_none | (rw [Hopsq.out]; rfl)); intro K hK; simp only [Grow.put_lit, Grow.setAt, Grow.eval_lit, Grow.ev]; refine hK _ _ ?_; clear hK K) | (refine Grow.lex_assign rfl ?_ rfl ?_; (· first | exact Grow.wanted_none | (rw [Hopsq.out]; rfl)); intro K hK; simp only [Grow.put_lit, Grow.setAt, Grow.eval_lit, Grow.ev]; refine hK _ _ ?_; clear hK K) | (refine Grow.lex_plain rfl rfl ?_ rfl ?_; (· first | exact Grow.wanted_none | (rw [Hopsq.out]; rfl)); apply Exists.intro; refine ⟨fun wq hCq _ => ?_, ?_⟩; (· (go_wp2_with fail; refine ⟨rfl, Below.refl _ _, ?_⟩; simp only [Grow.getD_lit, Grow.nth]; rfl)); intro K hK; simp only [Grow.put_lit, Grow.setAt]; refine hK _ _ ?_; clear hK K) | (refine Grow.lex_nilCheck rfl rfl ?_ rfl ?_; (· first | exact Grow.wanted_none | (rw [Hopsq.out]; rfl)); intro K hK; simp only [Grow.put_lit, Grow.setAt]; refine hK _ _ ?_; clear hK K) | (refine Grow.lex_skip ?_ ?_; (· (rw [Hopsq.out]; rfl)); intro K hK; simp only [Grow.put_lit, Grow.setAt]; refine hK _ _ ?_; clear hK K))
        (refine Grow.lex_nil ?_; intro w11 hb11 _; replace hb11 := Grow.Cl.base hb11; clear Hopsq opsq)
        go_wp2_with fail
        go_ret
        exact ⟨rfl, HW9.out.trans (hb11.mono HW9.out.size)⟩
set_option maxHeartbeats 1000000 in
set_option maxRecDepth 100000 in
theorem lanternClears_lifted (os : Os) (started : os.Started) (H : Type) (enc : TypeId × Value → H) :
    ReturnsInHanded {} Try.checked os 7 .any (Rows.lanternClearsSpec.pre6 enc Try.prog Try.f7 Rows.lanternClearsRow.domain false) (Rows.lanternClearsSpec.post enc Try.prog Try.f7 false true false false) := by
  refine law_lifted (C := Try.checked) own laidOut started (by kernel_rfl) Try.func7 4 rfl Try.underlying4 (by kernel_rfl) rfl H enc
    (fun ds h => by match ds, h with | [d0, d1, d2], _ => rfl)
    (ChangeSpec.witness6 (enc := enc) (C := Try.checked) false ⟨#[], #[.int .u8 0, .slice none 0 0, .slice none 0 0], []⟩ 8 (by kernel_rfl) (by kernel_rfl) (by kernel_rfl) (by kernel_rfl)) ?_
  intro W base args ds ps hval hA hsz
  have hA' : DataW.TrodAll enc Try.prog W 0 (fun _ => true) true Try.f7.params.toList args.toList ds ps := hA
  have hval' : ∀ (j : Nat) t v, Try.f7.params[j]? = some t → args[j]? = some v → Value.okWide Try.prog W .any base t v := hval
  rw [Try.params7] at hA' hval'
  obtain ⟨v0, vs0, d0, ds0, p0, q0, hargs, rfl, rfl, h0, r0⟩ := trodAll_cons hA'
  obtain ⟨v1, vs1, d1, ds1, p1, q1, rfl, rfl, rfl, h1, r1⟩ := trodAll_cons r0
  obtain ⟨v2, vs2, d2, ds2, p2, q2, rfl, rfl, rfl, h2, r2⟩ := trodAll_cons r1
  obtain ⟨rfl, rfl, rfl⟩ := trodAll_nil r2
  obtain rfl : args = #[v0, v1, v2] := by cases args; simp_all
  obtain ⟨x0, rfl, rfl, rfl, wx0⟩ := open_int Try.underlying5 (hval' 0 5 v0 rfl rfl) h0
  obtain ⟨l1, q1x, cap1, rfl, hl1, hu1⟩ := open_u8s (hval' 1 22 v1 rfl rfl) h1
  obtain ⟨l2, q2x, cap2, rfl, hl2, hu2⟩ := open_u8s (hval' 2 22 v2 rfl rfl) h2
  (obtain ⟨m0, rfl, hm0⟩ := u8_wf wx0; exact lanternClears_walk m0 l1 q1x cap1 l2 q2x cap2 W hm0 hl1 hu1 hl2 hu2)

theorem lanternClears_over : Rows.lanternClearsRow.holds Try.pinned (OpenSpec.ofChange Rows.lanternClearsSpec) :=
  OpenClaim.holds_of_wide 7 Try.f7 rfl rfl rfl rfl rfl rfl rfl ⟨rfl, rfl, rfl, rfl, rfl⟩ rfl rfl rfl rfl rfl (by kernel_rfl) Try.func7 (by kernel_rfl)
    (of_decide_eq_true (by kernel_rfl)) (by unfold Func.isWrapper; first | (rw [if_pos (by decide +kernel)]; kernel_rfl) | (rw [if_neg (by decide +kernel)]; exact ⟨rfl, rfl⟩))
    (fun os started H enc _ => lanternClears_lifted os started H enc)

/-- THE STATEMENT. -/
theorem lanternClears_holds : Rows.LanternClearsSaid := lanternClears_over
#print axioms lanternClears_holds
end Go.Proofs.Ytpgcpalemnnbaaa
