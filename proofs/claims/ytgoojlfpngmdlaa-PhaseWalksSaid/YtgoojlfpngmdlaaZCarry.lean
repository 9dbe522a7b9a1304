/- The walk over (phase.order).carry. Conditions: an image that can be read, a car of it. -/
import Derived.Test.YtgoojlfpngmdlaaZPhRec
import Derived.Test.YtgoojlfpngmdlaaZObs
import Derived.Test.YtgoojlfpngmdlaaZLight
import Derived.Test.YtgoojlfpngmdlaaZLanP
import Derived.Deep.RegionHeld3
namespace Go.Proofs.Ytgoojlfpngmdlaa
open Go.RowKit
/-- What a command does. -/
def carryF (m : ImgV) (c : Nat) (calm : Bool) (kind : Int) : List R5 × Int :=
  if kind = 1 ∧ phAt m c = 0 then (if freeB m then ([recP c 1], 0) else ([], 261))
  else if (kind = 2 ∧ phAt m c = 1) ∨ (kind = 3 ∧ phAt m c = 2) then ([recP c 0], 0)
  else if kind = 2 ∧ phAt m c = 4 ∧ lvAt m c = true then ([recLv c 0], 0)
  else if kind = 4 ∧ phAt m c = 2 then ([recP c 3], 0)
  else if kind = 5 ∧ phAt m c = 3 then (if calm then ([recP c 2], 0) else ([], 262))
  else if kind = 6 ∧ phAt m c = 3 then (if fgAt m c then ([], 262) else ([recP c 4], 0))
  else if kind = 7 ∧ phAt m c = 4 ∧ lvAt m c = false then (if freeB m then ([recLv c 1], 0) else ([], 261))
  else if kind = 8 ∧ fgAt m c = true then ([recFl c], 0)
  else ([], 260)
/-- Records and an error that can be read. -/
def ordR (F : List R5 × Int) (v : Value) (w : World) : Prop := ∃ q c, v = .tuple #[.slice q F.1.length c, .int .i64 F.2] ∧ RdX w q (recCells F.1)
theorem ordR.next {F : List R5 × Int} {v : Value} {w w' : World} (h : ordR F v w) (hb : Below w.heap.size w w') : ordR F v w' := by
  obtain ⟨q, c, hv, hr⟩ := h
  exact ⟨q, c, hv, hr.next hb⟩
theorem ord_nil {F : List R5 × Int} {e : Int} (w : World) (h : F = ([], e)) : ordR F (.tuple #[.slice none 0 0, .int .i64 e]) w := by
  subst h
  exact ⟨none, 0, rfl, fun i u hu => by simp [recCells] at hu⟩
theorem ord_one {F : List R5 × Int} {r : R5} {q : Option Addr} {c : Nat} {w : World} (h : F = ([r], 0)) (hr : recR [r] (.slice q 1 c) w) : ordR F (.tuple #[.slice q 1 c, .int .i64 0]) w := by
  subst h
  exact ⟨q, c, rfl, recR_out hr⟩
theorem recR_stable (L : List R5) (v : Value) : Grow.Stable (recR L v) := fun _ _ h hb => h.next hb
def ptrI : Nat → Value := fun b => .pointer (some ⟨b, 0, none⟩)
theorem ptrI_inj (x y : Nat) (h : ptrI x = ptrI y) : x = y := by simpa [ptrI] using h
def slI : Nat → Value := fun b => .slice (some ⟨b, 0, none⟩) 1 1
theorem slI_inj (x y : Nat) (h : slI x = slI y) : x = y := by simpa [slI] using h
def nilM : List Value := [.slice none 0 0, .slice none 0 0, .slice none 0 0, .slice none 0 0]
theorem when_ok (er : Int) (q : Option Addr) (n c : Nat) (w : World) :
    Calls Try.prog 50 #[.bool true, .int .i64 er, .slice q n c] w fun r w' => r = .returned (.tuple #[.slice q n c, .int .i64 0]) ∧ Below w.heap.size w w' := when_any true er q n c w
theorem when_no (er : Int) (q : Option Addr) (n c : Nat) (w : World) :
    Calls Try.prog 50 #[.bool false, .int .i64 er, .slice q n c] w fun r w' => r = .returned (.tuple #[.slice none 0 0, .int .i64 er]) ∧ Below w.heap.size w w' := when_any false er q n c w
set_option maxHeartbeats 8000000 in
set_option maxRecDepth 100000 in
theorem carry_any (m : ImgV) (a : ImgA) (c : Nat) (calm : Bool) (kind : Int) (w : World) (hp : m.ph.length ≤ 1000) (hl : m.lv.length = m.ph.length) (hf : m.fg.length = m.ph.length) (h5 : ∀ p ∈ m.ph, inR 0 4 p = true) (hc : c < m.ph.length) (h1 : 1 ≤ kind) (h8 : kind ≤ 8) (hm : RdM w m a) :
    Calls Try.prog 32 #[cvO m a c calm, .int .i64 kind] w fun r w' => ∃ v, r = .returned v ∧ Below w.heap.size w w' ∧ ordR (carryF m c calm kind) v w' := by
  have X0 : Blk (w.alloc (.cells #[.slice a.p m.ph.length a.pc, .slice a.f m.fg.length a.fc, .slice a.l m.lv.length a.lc, .slice a.e m.en.length a.ec, .int .i64 (c : Int), .bool calm] 70)) w.heap.size [.slice a.p m.ph.length a.pc, .slice a.f m.fg.length a.fc, .slice a.l m.lv.length a.lc, .slice a.e m.en.length a.ec, .int .i64 (c : Int), .bool calm] := by
    have hx := Blk.new w [.slice a.p m.ph.length a.pc, .slice a.f m.fg.length a.fc, .slice a.l m.lv.length a.lc, .slice a.e m.en.length a.ec, .int .i64 (c : Int), .bool calm] 70
    exact hx
  have XW : Below w.heap.size w (w.alloc (.cells #[.slice a.p m.ph.length a.pc, .slice a.f m.fg.length a.fc, .slice a.l m.lv.length a.lc, .slice a.e m.en.length a.ec, .int .i64 (c : Int), .bool calm] 70)) := below1' w _
  have HWW := Lib.hid XW; have HX0 := Lib.hid X0
  clear XW X0
  have HM := Lib.hid (hm.next HWW.out); have HP := Lib.hid hp; have HLV := Lib.hid hl; have H5 := Lib.hid h5
  obtain ⟨p, hp'⟩ : ∃ p, m.ph[c]? = some p := ⟨_, List.getElem?_eq_getElem hc⟩
  obtain ⟨f, hf'⟩ : ∃ f, m.fg[c]? = some f := ⟨_, List.getElem?_eq_getElem (by omega)⟩
  obtain ⟨l, hl'⟩ : ∃ l, m.lv[c]? = some l := ⟨_, List.getElem?_eq_getElem (by omega)⟩
  have HPC := Lib.hid hp'; have HFC := Lib.hid hf'; have HLC := Lib.hid hl'
  have hc0 : (0 : Int) ≤ (c : Int) := by omega
  have hcl : (c : Int) < (m.lv.length : Int) := by omega
  have hcf : (c : Int) < (m.fg.length : Int) := by omega
  obtain ⟨F, hF⟩ : ∃ F, carryF m c calm kind = F := ⟨_, rfl⟩
  rw [hF]
  unfold carryF at hF
  rw [phAt_of hp', fgAt_of hf', lvAt_of hl'] at hF
  have HF := Lib.hid hF
  clear hm hp hl hf h5 hp' hf' hl' hc hF
  go_enter Try.func32, Try.ntmps32
  go_upto_region 1 with fail
  generalize (w.alloc (.cells #[.slice a.p m.ph.length a.pc, .slice a.f m.fg.length a.fc, .slice a.l m.lv.length a.lc, .slice a.e m.en.length a.ec, .int .i64 (c : Int), .bool calm] 70)) = w0 at *
  have HW := Lib.hid (Below.refl w0.heap.size w0)
  have hz0 := HX0.out.lt
  obtain ⟨B, hqB, _, cB⟩ := HM.out.2.2.1.bl HLC.out
  have HQB := Lib.hid hqB
  have HSS : Hid (∀ W, Below w0.heap.size w0 W → W.cell? ⟨w.heap.size, 0, none⟩ = some (.slice a.p m.ph.length a.pc) ∧ W.cell? ⟨w.heap.size, 1, none⟩ = some (.slice a.f m.fg.length a.fc) ∧ W.cell? ⟨w.heap.size, 2, none⟩ = some (.slice (some B) m.lv.length a.lc) ∧ W.cell? ⟨w.heap.size, 3, none⟩ = some (.slice a.e m.en.length a.ec) ∧ W.cell? ⟨w.heap.size, 4, none⟩ = some (.int .i64 (c : Int)) ∧ W.cell? ⟨w.heap.size, 5, none⟩ = some (.bool calm) ∧ W.cell? (B.add c) = some (.bool l)) := Lib.hid fun W h => by
    have X := HX0.out.next h
    exact ⟨X.cell 0 _ rfl, X.cell 1 _ rfl, by rw [← hqB]; exact X.cell 2 _ rfl, X.cell 3 _ rfl, X.cell 4 _ rfl, X.cell 5 _ rfl, cell_later h cB⟩
  obtain ⟨t0, t1, t2, t3, t4, t5, t6⟩ := HSS.out w0 HW.out
  clear hqB cB
  go_cut [6, 7] from 8 to 16 (fun v6 v7 wx => v6 = .pointer (some ⟨w0.heap.size, 0, none⟩) ∧ v7 = .bool l ∧ Blk wx w0.heap.size [.slice a.p m.ph.length a.pc, .slice a.f m.fg.length a.fc, .slice (some B) m.lv.length a.lc, .slice a.e m.en.length a.ec] ∧ Below w0.heap.size w0 wx)
  case first =>
    go_region_held3 (fun W : World => W.cell? ⟨w.heap.size, 0, none⟩ = some (.slice a.p m.ph.length a.pc) ∧ W.cell? ⟨w.heap.size, 1, none⟩ = some (.slice a.f m.fg.length a.fc) ∧ W.cell? ⟨w.heap.size, 2, none⟩ = some (.slice (some B) m.lv.length a.lc) ∧ W.cell? ⟨w.heap.size, 3, none⟩ = some (.slice a.e m.en.length a.ec) ∧ W.cell? ⟨w.heap.size, 4, none⟩ = some (.int .i64 (c : Int)) ∧ W.cell? ⟨w.heap.size, 5, none⟩ = some (.bool calm) ∧ W.cell? (B.add c) = some (.bool l))
      ((refine HSS.out _ ?_
        repeat (with_reducible refine setB2 ?_ ?_; rotate_left; exact Nat.le_refl _)
        first
          | with_reducible exact drewB2 w0
          | with_reducible exact drewA2 w0 _
          | with_reducible exact below_al2 (drewB2 w0) (Nat.le_refl _) _))
      (fail)
    go_wp2_with fail
    go_meet
    exact ⟨rfl, rfl, (Blk.new w0 [.slice a.p m.ph.length a.pc, .slice a.f m.fg.length a.fc, .slice (some B) m.lv.length a.lc, .slice a.e m.en.length a.ec] 35).next (drewB2 _), drewA2 w0 _⟩
  case rest =>
  obtain ⟨rfl, rfl, hI4, hb4⟩ := hcut
  generalize hwc : wc = w4 at *
  clear hwc
  rw [← HQB.out] at hI4
  have hg8 : w0.heap.size ≤ w0.heap.size := Nat.le_refl _
  have HI4 := Lib.hid hI4; have HB4 := Lib.hid hb4
  obtain ⟨g8, hg⟩ : ∃ g8, w0.heap.size = g8 := ⟨_, rfl⟩
  clear hI4 hb4 t0 t1 t2 t3 t4 t5 t6 HSS
  have HALL : Hid (∀ W, Below w4.heap.size w4 W → Blk W w.heap.size [.slice a.p m.ph.length a.pc, .slice a.f m.fg.length a.fc, .slice a.l m.lv.length a.lc, .slice a.e m.en.length a.ec, .int .i64 (c : Int), .bool calm] ∧ Blk W w0.heap.size [.slice a.p m.ph.length a.pc, .slice a.f m.fg.length a.fc, .slice a.l m.lv.length a.lc, .slice a.e m.en.length a.ec] ∧ RdM W m a ∧ Below w.heap.size w W) := Lib.hid fun W h => by
    have h0 := HB4.out.trans (h.mono HB4.out.size)
    exact ⟨HX0.out.next h0, HI4.out.next h, HM.out.next h0, HWW.out.trans (h0.mono HWW.out.size)⟩
  have HW4 := Lib.hid (Below.refl w4.heap.size w4)
  clear HX0 HM HWW HB4 HI4 HW hg8 hg HQB
  have t0 := (HALL.out w4 HW4.out).1.cell 0 _ rfl; have t1 := (HALL.out w4 HW4.out).1.cell 1 _ rfl; have t2 := (HALL.out w4 HW4.out).1.cell 2 _ rfl; have t3 := (HALL.out w4 HW4.out).1.cell 3 _ rfl; have t4 := (HALL.out w4 HW4.out).1.cell 4 _ rfl; have t5 := (HALL.out w4 HW4.out).1.cell 5 _ rfl
  have hk : kind = 1 ∨ kind = 2 ∨ kind = 3 ∨ kind = 4 ∨ kind = 5 ∨ kind = 6 ∨ kind = 7 ∨ kind = 8 := by omega
  clear h1 h8
  rcases hk with rfl | rfl | rfl | rfl | rfl | rfl | rfl | rfl
  · go_wp2_with fail
    refine (in_any m a c calm p 0 _ HPC.out (HALL.out _ HW4.out).2.2.1).mono ?_
    rintro e w5 ⟨rfl, hb5⟩
    have HW5 := Lib.hid (HW4.out.trans (hb5.mono HW4.out.size))
    clear hb5 HW4 t0 t1 t2 t3 t4 t5
    have t0 := (HALL.out w5 HW5.out).1.cell 0 _ rfl
    have t1 := (HALL.out w5 HW5.out).1.cell 1 _ rfl
    have t2 := (HALL.out w5 HW5.out).1.cell 2 _ rfl
    have t3 := (HALL.out w5 HW5.out).1.cell 3 _ rfl
    have t4 := (HALL.out w5 HW5.out).1.cell 4 _ rfl
    have t5 := (HALL.out w5 HW5.out).1.cell 5 _ rfl
    by_cases e0 : p = 0
    · subst e0
      go_upto_region 3 with fail
      cases hfb : freeB m
      · have HFB := Lib.hid hfb
        have HFF : Hid (F = ([], 261)) := Lib.hid (by rw [← HF.out]; simp [hfb])
        clear HF
        clear hfb
        clear t0 t1 t2 t3 t4 t5
        have t0 := ((HALL.out w5 HW5.out).1).reg 0 _ rfl
        have t1 := ((HALL.out w5 HW5.out).1).reg 1 _ rfl
        have t2 := ((HALL.out w5 HW5.out).1).reg 2 _ rfl
        have t3 := ((HALL.out w5 HW5.out).1).reg 3 _ rfl
        have t4 := ((HALL.out w5 HW5.out).1).reg 4 _ rfl
        have t5 := ((HALL.out w5 HW5.out).1).reg 5 _ rfl
        have y0 := ((HALL.out w5 HW5.out).2.1).reg 0 _ rfl
        have y1 := ((HALL.out w5 HW5.out).2.1).reg 1 _ rfl
        have y2 := ((HALL.out w5 HW5.out).2.1).reg 2 _ rfl
        have y3 := ((HALL.out w5 HW5.out).2.1).reg 3 _ rfl
        refine Grow.wp_region (rPlan 3 (recR [recP c 1])) (rPlan_stable _ _ (recR_stable _)) (by kernel_rfl) (by kernel_rfl) ?_
        intro opsq Hopsq
        repeat (first | (refine Grow.lex_move rfl ?_ rfl ?_; (· first | exact Grow.wanted_none | (rw [Hopsq.out]; rfl)); intro K hK; simp only [Grow.put_lit, Grow.setAt, Grow.eval_lit, Grow.ev]; refine hK _ _ ?_; clear hK K) | (refine Grow.lex_assign rfl ?_ rfl ?_; (· first | exact Grow.wanted_none | (rw [Hopsq.out]; rfl)); intro K hK; simp only [Grow.put_lit, Grow.setAt, Grow.eval_lit, Grow.ev]; refine hK _ _ ?_; clear hK K) | (refine Grow.lex_plain rfl rfl ?_ rfl ?_; (· first | exact Grow.wanted_none | (rw [Hopsq.out]; rfl)); apply Exists.intro; refine ⟨fun wq hCq _ => ?_, ?_⟩; (· (go_wp2_with fail; refine ⟨rfl, Below.refl _ _, ?_⟩; simp only [Grow.getD_lit, Grow.nth]; rfl)); intro K hK; simp only [Grow.put_lit, Grow.setAt]; refine hK _ _ ?_; clear hK K) | (refine Grow.lex_nilCheck rfl rfl ?_ rfl ?_; (· first | exact Grow.wanted_none | (rw [Hopsq.out]; rfl)); intro K hK; simp only [Grow.put_lit, Grow.setAt]; refine hK _ _ ?_; clear hK K) | (refine Grow.lex_skip ?_ ?_; (· (rw [Hopsq.out]; rfl)); intro K hK; simp only [Grow.put_lit, Grow.setAt]; refine hK _ _ ?_; clear hK K))
        (refine Grow.lex_call ?_ rfl ?_; (· first | exact Grow.wanted_none | (rw [Hopsq.out]; rfl)); apply Exists.intro; apply Exists.intro; refine ⟨fun wq => ?_, ?_⟩; (· (go_simp; exact ⟨rfl, rfl⟩)); apply Exists.intro; refine ⟨fun wq hCq hKq => ?_, ?_⟩; (· exact calls_bool (free_any m a _ HP.out HLV.out H5.out ((HALL.out _ (HW5.out.trans ((Grow.Cl.base hCq).mono HW5.out.size))).2.2.1)) HFB.out); intro K hK; simp only [Grow.put_lit, Grow.setAt]; refine hK _ _ ?_; clear hK K)
        repeat (first | (refine Grow.lex_move rfl ?_ rfl ?_; (· first | exact Grow.wanted_none | (rw [Hopsq.out]; rfl)); intro K hK; simp only [Grow.put_lit, Grow.setAt, Grow.eval_lit, Grow.ev]; refine hK _ _ ?_; clear hK K) | (refine Grow.lex_assign rfl ?_ rfl ?_; (· first | exact Grow.wanted_none | (rw [Hopsq.out]; rfl)); intro K hK; simp only [Grow.put_lit, Grow.setAt, Grow.eval_lit, Grow.ev]; refine hK _ _ ?_; clear hK K) | (refine Grow.lex_plain rfl rfl ?_ rfl ?_; (· first | exact Grow.wanted_none | (rw [Hopsq.out]; rfl)); apply Exists.intro; refine ⟨fun wq hCq _ => ?_, ?_⟩; (· (go_wp2_with fail; refine ⟨rfl, Below.refl _ _, ?_⟩; simp only [Grow.getD_lit, Grow.nth]; rfl)); intro K hK; simp only [Grow.put_lit, Grow.setAt]; refine hK _ _ ?_; clear hK K) | (refine Grow.lex_nilCheck rfl rfl ?_ rfl ?_; (· first | exact Grow.wanted_none | (rw [Hopsq.out]; rfl)); intro K hK; simp only [Grow.put_lit, Grow.setAt]; refine hK _ _ ?_; clear hK K) | (refine Grow.lex_skip ?_ ?_; (· (rw [Hopsq.out]; rfl)); intro K hK; simp only [Grow.put_lit, Grow.setAt]; refine hK _ _ ?_; clear hK K))
        (refine Grow.lex_callR (r := (fun _ v w => recR [recP c 1] v w)) ?_ rfl ?_; (· first | exact Grow.wanted_none | (rw [Hopsq.out]; rfl)); apply Exists.intro; apply Exists.intro; refine ⟨fun wq => ?_, ?_, ?_⟩; (· (go_simp; exact ⟨rfl, rfl⟩)); (· (intro wq hCq hKq; exact move_any m a c calm 1 _)); intro vq hWq; obtain ⟨_, _, hTT⟩ := hWq; obtain ⟨q, cc, hvq⟩ := recR_form (Grow.Holds.of_upd hTT).2; subst hvq; clear hTT; intro K hK; simp only [Grow.put_lit, Grow.setAt]; refine hK _ _ ?_; clear hK K)
        repeat (first | (refine Grow.lex_move rfl ?_ rfl ?_; (· first | exact Grow.wanted_none | (rw [Hopsq.out]; rfl)); intro K hK; simp only [Grow.put_lit, Grow.setAt, Grow.eval_lit, Grow.ev]; refine hK _ _ ?_; clear hK K) | (refine Grow.lex_assign rfl ?_ rfl ?_; (· first | exact Grow.wanted_none | (rw [Hopsq.out]; rfl)); intro K hK; simp only [Grow.put_lit, Grow.setAt, Grow.eval_lit, Grow.ev]; refine hK _ _ ?_; clear hK K) | (refine Grow.lex_plain rfl rfl ?_ rfl ?_; (· first | exact Grow.wanted_none | (rw [Hopsq.out]; rfl)); apply Exists.intro; refine ⟨fun wq hCq _ => ?_, ?_⟩; (· (go_wp2_with fail; refine ⟨rfl, Below.refl _ _, ?_⟩; simp only [Grow.getD_lit, Grow.nth]; rfl)); intro K hK; simp only [Grow.put_lit, Grow.setAt]; refine hK _ _ ?_; clear hK K) | (refine Grow.lex_nilCheck rfl rfl ?_ rfl ?_; (· first | exact Grow.wanted_none | (rw [Hopsq.out]; rfl)); intro K hK; simp only [Grow.put_lit, Grow.setAt]; refine hK _ _ ?_; clear hK K) | (refine Grow.lex_skip ?_ ?_; (· (rw [Hopsq.out]; rfl)); intro K hK; simp only [Grow.put_lit, Grow.setAt]; refine hK _ _ ?_; clear hK K))
        (refine Grow.lex_call ?_ rfl ?_; (· first | exact Grow.wanted_none | (rw [Hopsq.out]; rfl)); apply Exists.intro; apply Exists.intro; refine ⟨fun wq => ?_, ?_⟩; (· (go_simp; exact ⟨rfl, rfl⟩)); apply Exists.intro; refine ⟨fun wq hCq hKq => ?_, ?_⟩; (· exact when_no 261 q 1 cc _); intro K hK; simp only [Grow.put_lit, Grow.setAt]; refine hK _ _ ?_; clear hK K)
        repeat (first | (refine Grow.lex_move rfl ?_ rfl ?_; (· first | exact Grow.wanted_none | (rw [Hopsq.out]; rfl)); intro K hK; simp only [Grow.put_lit, Grow.setAt, Grow.eval_lit, Grow.ev]; refine hK _ _ ?_; clear hK K) | (refine Grow.lex_assign rfl ?_ rfl ?_; (· first | exact Grow.wanted_none | (rw [Hopsq.out]; rfl)); intro K hK; simp only [Grow.put_lit, Grow.setAt, Grow.eval_lit, Grow.ev]; refine hK _ _ ?_; clear hK K) | (refine Grow.lex_plain rfl rfl ?_ rfl ?_; (· first | exact Grow.wanted_none | (rw [Hopsq.out]; rfl)); apply Exists.intro; refine ⟨fun wq hCq _ => ?_, ?_⟩; (· (go_wp2_with fail; refine ⟨rfl, Below.refl _ _, ?_⟩; simp only [Grow.getD_lit, Grow.nth]; rfl)); intro K hK; simp only [Grow.put_lit, Grow.setAt]; refine hK _ _ ?_; clear hK K) | (refine Grow.lex_nilCheck rfl rfl ?_ rfl ?_; (· first | exact Grow.wanted_none | (rw [Hopsq.out]; rfl)); intro K hK; simp only [Grow.put_lit, Grow.setAt]; refine hK _ _ ?_; clear hK K) | (refine Grow.lex_skip ?_ ?_; (· (rw [Hopsq.out]; rfl)); intro K hK; simp only [Grow.put_lit, Grow.setAt]; refine hK _ _ ?_; clear hK K))
        refine Grow.lex_nil ?_
        intro w6 hb6 hTT
        have HR6 : Hid (recR [recP c 1] (.slice q 1 cc) w6) := Lib.hid (Grow.Holds.of_upd hTT).2
        replace hb6 := Grow.Cl.base hb6
        have HW6 := Lib.hid (HW5.out.trans (hb6.mono HW5.out.size))
        clear hb6 hTT Hopsq opsq t0 t1 t2 t3 t4 t5 y0 y1 y2 y3
        go_wp2_with fail
        exact bodyPost_ret (v := .tuple #[.slice none 0 0, .int .i64 261]) (by simp [results, Try.results32, go_sem]) rfl ⟨_, rfl, (HALL.out _ HW6.out).2.2.2, ord_nil _ HFF.out⟩
      · have HFB := Lib.hid hfb
        have HFF : Hid (F = ([recP c 1], 0)) := Lib.hid (by rw [← HF.out]; simp [hfb])
        clear HF
        clear hfb
        clear t0 t1 t2 t3 t4 t5
        have t0 := ((HALL.out w5 HW5.out).1).reg 0 _ rfl
        have t1 := ((HALL.out w5 HW5.out).1).reg 1 _ rfl
        have t2 := ((HALL.out w5 HW5.out).1).reg 2 _ rfl
        have t3 := ((HALL.out w5 HW5.out).1).reg 3 _ rfl
        have t4 := ((HALL.out w5 HW5.out).1).reg 4 _ rfl
        have t5 := ((HALL.out w5 HW5.out).1).reg 5 _ rfl
        have y0 := ((HALL.out w5 HW5.out).2.1).reg 0 _ rfl
        have y1 := ((HALL.out w5 HW5.out).2.1).reg 1 _ rfl
        have y2 := ((HALL.out w5 HW5.out).2.1).reg 2 _ rfl
        have y3 := ((HALL.out w5 HW5.out).2.1).reg 3 _ rfl
        refine Grow.wp_region (rPlan 3 (recR [recP c 1])) (rPlan_stable _ _ (recR_stable _)) (by kernel_rfl) (by kernel_rfl) ?_
        intro opsq Hopsq
        repeat (first | (refine Grow.lex_move rfl ?_ rfl ?_; (· first | exact Grow.wanted_none | (rw [Hopsq.out]; rfl)); intro K hK; simp only [Grow.put_lit, Grow.setAt, Grow.eval_lit, Grow.ev]; refine hK _ _ ?_; clear hK K) | (refine Grow.lex_assign rfl ?_ rfl ?_; (· first | exact Grow.wanted_none | (rw [Hopsq.out]; rfl)); intro K hK; simp only [Grow.put_lit, Grow.setAt, Grow.eval_lit, Grow.ev]; refine hK _ _ ?_; clear hK K) | (refine Grow.lex_plain rfl rfl ?_ rfl ?_; (· first | exact Grow.wanted_none | (rw [Hopsq.out]; rfl)); apply Exists.intro; refine ⟨fun wq hCq _ => ?_, ?_⟩; (· (go_wp2_with fail; refine ⟨rfl, Below.refl _ _, ?_⟩; simp only [Grow.getD_lit, Grow.nth]; rfl)); intro K hK; simp only [Grow.put_lit, Grow.setAt]; refine hK _ _ ?_; clear hK K) | (refine Grow.lex_nilCheck rfl rfl ?_ rfl ?_; (· first | exact Grow.wanted_none | (rw [Hopsq.out]; rfl)); intro K hK; simp only [Grow.put_lit, Grow.setAt]; refine hK _ _ ?_; clear hK K) | (refine Grow.lex_skip ?_ ?_; (· (rw [Hopsq.out]; rfl)); intro K hK; simp only [Grow.put_lit, Grow.setAt]; refine hK _ _ ?_; clear hK K))
        (refine Grow.lex_call ?_ rfl ?_; (· first | exact Grow.wanted_none | (rw [Hopsq.out]; rfl)); apply Exists.intro; apply Exists.intro; refine ⟨fun wq => ?_, ?_⟩; (· (go_simp; exact ⟨rfl, rfl⟩)); apply Exists.intro; refine ⟨fun wq hCq hKq => ?_, ?_⟩; (· exact calls_bool (free_any m a _ HP.out HLV.out H5.out ((HALL.out _ (HW5.out.trans ((Grow.Cl.base hCq).mono HW5.out.size))).2.2.1)) HFB.out); intro K hK; simp only [Grow.put_lit, Grow.setAt]; refine hK _ _ ?_; clear hK K)
        repeat (first | (refine Grow.lex_move rfl ?_ rfl ?_; (· first | exact Grow.wanted_none | (rw [Hopsq.out]; rfl)); intro K hK; simp only [Grow.put_lit, Grow.setAt, Grow.eval_lit, Grow.ev]; refine hK _ _ ?_; clear hK K) | (refine Grow.lex_assign rfl ?_ rfl ?_; (· first | exact Grow.wanted_none | (rw [Hopsq.out]; rfl)); intro K hK; simp only [Grow.put_lit, Grow.setAt, Grow.eval_lit, Grow.ev]; refine hK _ _ ?_; clear hK K) | (refine Grow.lex_plain rfl rfl ?_ rfl ?_; (· first | exact Grow.wanted_none | (rw [Hopsq.out]; rfl)); apply Exists.intro; refine ⟨fun wq hCq _ => ?_, ?_⟩; (· (go_wp2_with fail; refine ⟨rfl, Below.refl _ _, ?_⟩; simp only [Grow.getD_lit, Grow.nth]; rfl)); intro K hK; simp only [Grow.put_lit, Grow.setAt]; refine hK _ _ ?_; clear hK K) | (refine Grow.lex_nilCheck rfl rfl ?_ rfl ?_; (· first | exact Grow.wanted_none | (rw [Hopsq.out]; rfl)); intro K hK; simp only [Grow.put_lit, Grow.setAt]; refine hK _ _ ?_; clear hK K) | (refine Grow.lex_skip ?_ ?_; (· (rw [Hopsq.out]; rfl)); intro K hK; simp only [Grow.put_lit, Grow.setAt]; refine hK _ _ ?_; clear hK K))
        (refine Grow.lex_callR (r := (fun _ v w => recR [recP c 1] v w)) ?_ rfl ?_; (· first | exact Grow.wanted_none | (rw [Hopsq.out]; rfl)); apply Exists.intro; apply Exists.intro; refine ⟨fun wq => ?_, ?_, ?_⟩; (· (go_simp; exact ⟨rfl, rfl⟩)); (· (intro wq hCq hKq; exact move_any m a c calm 1 _)); intro vq hWq; obtain ⟨_, _, hTT⟩ := hWq; obtain ⟨q, cc, hvq⟩ := recR_form (Grow.Holds.of_upd hTT).2; subst hvq; clear hTT; intro K hK; simp only [Grow.put_lit, Grow.setAt]; refine hK _ _ ?_; clear hK K)
        repeat (first | (refine Grow.lex_move rfl ?_ rfl ?_; (· first | exact Grow.wanted_none | (rw [Hopsq.out]; rfl)); intro K hK; simp only [Grow.put_lit, Grow.setAt, Grow.eval_lit, Grow.ev]; refine hK _ _ ?_; clear hK K) | (refine Grow.lex_assign rfl ?_ rfl ?_; (· first | exact Grow.wanted_none | (rw [Hopsq.out]; rfl)); intro K hK; simp only [Grow.put_lit, Grow.setAt, Grow.eval_lit, Grow.ev]; refine hK _ _ ?_; clear hK K) | (refine Grow.lex_plain rfl rfl ?_ rfl ?_; (· first | exact Grow.wanted_none | (rw [Hopsq.out]; rfl)); apply Exists.intro; refine ⟨fun wq hCq _ => ?_, ?_⟩; (· (go_wp2_with fail; refine ⟨rfl, Below.refl _ _, ?_⟩; simp only [Grow.getD_lit, Grow.nth]; rfl)); intro K hK; simp only [Grow.put_lit, Grow.setAt]; refine hK _ _ ?_; clear hK K) | (refine Grow.lex_nilCheck rfl rfl ?_ rfl ?_; (· first | exact Grow.wanted_none | (rw [Hopsq.out]; rfl)); intro K hK; simp only [Grow.put_lit, Grow.setAt]; refine hK _ _ ?_; clear hK K) | (refine Grow.lex_skip ?_ ?_; (· (rw [Hopsq.out]; rfl)); intro K hK; simp only [Grow.put_lit, Grow.setAt]; refine hK _ _ ?_; clear hK K))
        (refine Grow.lex_call ?_ rfl ?_; (· first | exact Grow.wanted_none | (rw [Hopsq.out]; rfl)); apply Exists.intro; apply Exists.intro; refine ⟨fun wq => ?_, ?_⟩; (· (go_simp; exact ⟨rfl, rfl⟩)); apply Exists.intro; refine ⟨fun wq hCq hKq => ?_, ?_⟩; (· exact when_ok 261 q 1 cc _); intro K hK; simp only [Grow.put_lit, Grow.setAt]; refine hK _ _ ?_; clear hK K)
        repeat (first | (refine Grow.lex_move rfl ?_ rfl ?_; (· first | exact Grow.wanted_none | (rw [Hopsq.out]; rfl)); intro K hK; simp only [Grow.put_lit, Grow.setAt, Grow.eval_lit, Grow.ev]; refine hK _ _ ?_; clear hK K) | (refine Grow.lex_assign rfl ?_ rfl ?_; (· first | exact Grow.wanted_none | (rw [Hopsq.out]; rfl)); intro K hK; simp only [Grow.put_lit, Grow.setAt, Grow.eval_lit, Grow.ev]; refine hK _ _ ?_; clear hK K) | (refine Grow.lex_plain rfl rfl ?_ rfl ?_; (· first | exact Grow.wanted_none | (rw [Hopsq.out]; rfl)); apply Exists.intro; refine ⟨fun wq hCq _ => ?_, ?_⟩; (· (go_wp2_with fail; refine ⟨rfl, Below.refl _ _, ?_⟩; simp only [Grow.getD_lit, Grow.nth]; rfl)); intro K hK; simp only [Grow.put_lit, Grow.setAt]; refine hK _ _ ?_; clear hK K) | (refine Grow.lex_nilCheck rfl rfl ?_ rfl ?_; (· first | exact Grow.wanted_none | (rw [Hopsq.out]; rfl)); intro K hK; simp only [Grow.put_lit, Grow.setAt]; refine hK _ _ ?_; clear hK K) | (refine Grow.lex_skip ?_ ?_; (· (rw [Hopsq.out]; rfl)); intro K hK; simp only [Grow.put_lit, Grow.setAt]; refine hK _ _ ?_; clear hK K))
        refine Grow.lex_nil ?_
        intro w6 hb6 hTT
        have HR6 : Hid (recR [recP c 1] (.slice q 1 cc) w6) := Lib.hid (Grow.Holds.of_upd hTT).2
        replace hb6 := Grow.Cl.base hb6
        have HW6 := Lib.hid (HW5.out.trans (hb6.mono HW5.out.size))
        clear hb6 hTT Hopsq opsq t0 t1 t2 t3 t4 t5 y0 y1 y2 y3
        go_wp2_with fail
        exact bodyPost_ret (v := .tuple #[.slice q 1 cc, .int .i64 0]) (by simp [results, Try.results32, go_sem]) rfl ⟨_, rfl, (HALL.out _ HW6.out).2.2.2, ord_one HFF.out HR6.out⟩
    · have e0' : (p == 0) = false := by simpa using e0
      have HFF : Hid (F = ([], 260)) := Lib.hid (by rw [← HF.out]; simp [e0])
      clear HF
      clear e0
      go_wp2_with fail
      exact bodyPost_ret (v := .tuple #[.slice none 0 0, .int .i64 260]) (by simp [results, Try.results32, go_sem]) rfl ⟨_, rfl, (HALL.out _ HW5.out).2.2.2, ord_nil _ HFF.out⟩
  · go_wp2_with fail
    refine (in_any m a c calm p 1 _ HPC.out (HALL.out _ HW4.out).2.2.1).mono ?_
    rintro e w5 ⟨rfl, hb5⟩
    have HW5 := Lib.hid (HW4.out.trans (hb5.mono HW4.out.size))
    clear hb5 HW4 t0 t1 t2 t3 t4 t5
    have t0 := (HALL.out w5 HW5.out).1.cell 0 _ rfl
    have t1 := (HALL.out w5 HW5.out).1.cell 1 _ rfl
    have t2 := (HALL.out w5 HW5.out).1.cell 2 _ rfl
    have t3 := (HALL.out w5 HW5.out).1.cell 3 _ rfl
    have t4 := (HALL.out w5 HW5.out).1.cell 4 _ rfl
    have t5 := (HALL.out w5 HW5.out).1.cell 5 _ rfl
    by_cases e1 : p = 1
    · subst e1
      have HFF : Hid (F = ([recP c 0], 0)) := Lib.hid (by rw [← HF.out]; simp)
      clear HF
      go_wp2_with fail
      refine (move_any m a c calm 0 _).mono ?_
      rintro e w6 ⟨v, rfl, hb6, hr6⟩
      obtain ⟨q, cc, rfl⟩ := recR_form hr6
      have HR6 := Lib.hid hr6; have HW6 := Lib.hid (HW5.out.trans (hb6.mono HW5.out.size))
      clear hb6 hr6 t0 t1 t2 t3 t4 t5
      go_wp2_with fail
      exact bodyPost_ret (v := .tuple #[.slice q 1 cc, .int .i64 0]) (by simp [results, Try.results32, go_sem]) rfl ⟨_, rfl, (HALL.out _ HW6.out).2.2.2, ord_one HFF.out HR6.out⟩
    · have e1' : (p == 1) = false := by simpa using e1
      go_wp2_with fail
      refine (in_any m a c calm p 4 _ HPC.out (HALL.out _ HW5.out).2.2.1).mono ?_
      rintro e w7 ⟨rfl, hb5⟩
      have HW7 := Lib.hid (HW5.out.trans (hb5.mono HW5.out.size))
      clear hb5 HW5 t0 t1 t2 t3 t4 t5
      have HW5 := HW7
      clear HW7
      clear e1'
      have t0 := (HALL.out w7 HW5.out).1.cell 0 _ rfl
      have t1 := (HALL.out w7 HW5.out).1.cell 1 _ rfl
      have t2 := (HALL.out w7 HW5.out).1.cell 2 _ rfl
      have t3 := (HALL.out w7 HW5.out).1.cell 3 _ rfl
      have t4 := (HALL.out w7 HW5.out).1.cell 4 _ rfl
      have t5 := (HALL.out w7 HW5.out).1.cell 5 _ rfl
      by_cases e4 : p = 4
      · subst e4
        cases l
        · have HFF : Hid (F = ([], 260)) := Lib.hid (by rw [← HF.out]; simp)
          clear HF
          go_wp2_with fail
          exact bodyPost_ret (v := .tuple #[.slice none 0 0, .int .i64 260]) (by simp [results, Try.results32, go_sem]) rfl ⟨_, rfl, (HALL.out _ HW5.out).2.2.2, ord_nil _ HFF.out⟩
        · have HFF : Hid (F = ([recLv c 0], 0)) := Lib.hid (by rw [← HF.out]; simp)
          clear HF
          have hr6 := recR_one w7 (recLv c 0) 47
          have hb6 := below1' w7 (.cells #[.int .i64 (recLv c 0).1, .int .i64 (recLv c 0).2.1, .int .i64 (recLv c 0).2.2.1, .int .i64 (recLv c 0).2.2.2.1, .int .i64 (recLv c 0).2.2.2.2] 47)
          have HR6 := Lib.hid hr6; have HW6 := Lib.hid (HW5.out.trans (hb6.mono HW5.out.size))
          clear hr6 hb6
          go_wp2_with fail
          exact bodyPost_ret (v := .tuple #[.slice (some ⟨w7.heap.size, 0, none⟩) 1 1, .int .i64 0]) (by simp [results, Try.results32, go_sem]) rfl ⟨_, rfl, (HALL.out _ HW6.out).2.2.2, ord_one HFF.out HR6.out⟩
      · have e4' : (p == 4) = false := by simpa using e4
        have HFF : Hid (F = ([], 260)) := Lib.hid (by rw [← HF.out]; simp [e1, e4])
        clear HF
        clear e1 e4
        go_wp2_with fail
        exact bodyPost_ret (v := .tuple #[.slice none 0 0, .int .i64 260]) (by simp [results, Try.results32, go_sem]) rfl ⟨_, rfl, (HALL.out _ HW5.out).2.2.2, ord_nil _ HFF.out⟩
  · go_wp2_with fail
    refine (in_any m a c calm p 2 _ HPC.out (HALL.out _ HW4.out).2.2.1).mono ?_
    rintro e w5 ⟨rfl, hb5⟩
    have HW5 := Lib.hid (HW4.out.trans (hb5.mono HW4.out.size))
    clear hb5 HW4 t0 t1 t2 t3 t4 t5
    have t0 := (HALL.out w5 HW5.out).1.cell 0 _ rfl
    have t1 := (HALL.out w5 HW5.out).1.cell 1 _ rfl
    have t2 := (HALL.out w5 HW5.out).1.cell 2 _ rfl
    have t3 := (HALL.out w5 HW5.out).1.cell 3 _ rfl
    have t4 := (HALL.out w5 HW5.out).1.cell 4 _ rfl
    have t5 := (HALL.out w5 HW5.out).1.cell 5 _ rfl
    by_cases e1 : p = 2
    · subst e1
      have HFF : Hid (F = ([recP c 0], 0)) := Lib.hid (by rw [← HF.out]; simp)
      clear HF
      go_wp2_with fail
      refine (move_any m a c calm 0 _).mono ?_
      rintro e w6 ⟨v, rfl, hb6, hr6⟩
      obtain ⟨q, cc, rfl⟩ := recR_form hr6
      have HR6 := Lib.hid hr6; have HW6 := Lib.hid (HW5.out.trans (hb6.mono HW5.out.size))
      clear hb6 hr6 t0 t1 t2 t3 t4 t5
      go_wp2_with fail
      exact bodyPost_ret (v := .tuple #[.slice q 1 cc, .int .i64 0]) (by simp [results, Try.results32, go_sem]) rfl ⟨_, rfl, (HALL.out _ HW6.out).2.2.2, ord_one HFF.out HR6.out⟩
    · have e1' : (p == 2) = false := by simpa using e1
      have HFF : Hid (F = ([], 260)) := Lib.hid (by rw [← HF.out]; simp [e1])
      clear HF
      clear e1
      go_wp2_with fail
      exact bodyPost_ret (v := .tuple #[.slice none 0 0, .int .i64 260]) (by simp [results, Try.results32, go_sem]) rfl ⟨_, rfl, (HALL.out _ HW5.out).2.2.2, ord_nil _ HFF.out⟩
  · go_wp2_with fail
    refine (in_any m a c calm p 2 _ HPC.out (HALL.out _ HW4.out).2.2.1).mono ?_
    rintro e w5 ⟨rfl, hb5⟩
    have HW5 := Lib.hid (HW4.out.trans (hb5.mono HW4.out.size))
    clear hb5 HW4 t0 t1 t2 t3 t4 t5
    have t0 := (HALL.out w5 HW5.out).1.cell 0 _ rfl
    have t1 := (HALL.out w5 HW5.out).1.cell 1 _ rfl
    have t2 := (HALL.out w5 HW5.out).1.cell 2 _ rfl
    have t3 := (HALL.out w5 HW5.out).1.cell 3 _ rfl
    have t4 := (HALL.out w5 HW5.out).1.cell 4 _ rfl
    have t5 := (HALL.out w5 HW5.out).1.cell 5 _ rfl
    by_cases e1 : p = 2
    · subst e1
      have HFF : Hid (F = ([recP c 3], 0)) := Lib.hid (by rw [← HF.out]; simp)
      clear HF
      go_wp2_with fail
      refine (move_any m a c calm 3 _).mono ?_
      rintro e w6 ⟨v, rfl, hb6, hr6⟩
      obtain ⟨q, cc, rfl⟩ := recR_form hr6
      have HR6 := Lib.hid hr6; have HW6 := Lib.hid (HW5.out.trans (hb6.mono HW5.out.size))
      clear hb6 hr6 t0 t1 t2 t3 t4 t5
      go_wp2_with fail
      exact bodyPost_ret (v := .tuple #[.slice q 1 cc, .int .i64 0]) (by simp [results, Try.results32, go_sem]) rfl ⟨_, rfl, (HALL.out _ HW6.out).2.2.2, ord_one HFF.out HR6.out⟩
    · have e1' : (p == 2) = false := by simpa using e1
      have HFF : Hid (F = ([], 260)) := Lib.hid (by rw [← HF.out]; simp [e1])
      clear HF
      clear e1
      go_wp2_with fail
      exact bodyPost_ret (v := .tuple #[.slice none 0 0, .int .i64 260]) (by simp [results, Try.results32, go_sem]) rfl ⟨_, rfl, (HALL.out _ HW5.out).2.2.2, ord_nil _ HFF.out⟩
  · go_wp2_with fail
    refine (in_any m a c calm p 3 _ HPC.out (HALL.out _ HW4.out).2.2.1).mono ?_
    rintro e w5 ⟨rfl, hb5⟩
    have HW5 := Lib.hid (HW4.out.trans (hb5.mono HW4.out.size))
    clear hb5 HW4 t0 t1 t2 t3 t4 t5
    have t0 := (HALL.out w5 HW5.out).1.cell 0 _ rfl
    have t1 := (HALL.out w5 HW5.out).1.cell 1 _ rfl
    have t2 := (HALL.out w5 HW5.out).1.cell 2 _ rfl
    have t3 := (HALL.out w5 HW5.out).1.cell 3 _ rfl
    have t4 := (HALL.out w5 HW5.out).1.cell 4 _ rfl
    have t5 := (HALL.out w5 HW5.out).1.cell 5 _ rfl
    by_cases e1 : p = 3
    · subst e1
      go_upto_region 12 with fail
      cases calm
      · have HFF : Hid (F = ([], 262)) := Lib.hid (by rw [← HF.out]; simp)
        clear HF
        clear t0 t1 t2 t3 t4 t5
        have t0 := ((HALL.out w5 HW5.out).1).reg 0 _ rfl
        have t1 := ((HALL.out w5 HW5.out).1).reg 1 _ rfl
        have t2 := ((HALL.out w5 HW5.out).1).reg 2 _ rfl
        have t3 := ((HALL.out w5 HW5.out).1).reg 3 _ rfl
        have t4 := ((HALL.out w5 HW5.out).1).reg 4 _ rfl
        have t5 := ((HALL.out w5 HW5.out).1).reg 5 _ rfl
        have y0 := ((HALL.out w5 HW5.out).2.1).reg 0 _ rfl
        have y1 := ((HALL.out w5 HW5.out).2.1).reg 1 _ rfl
        have y2 := ((HALL.out w5 HW5.out).2.1).reg 2 _ rfl
        have y3 := ((HALL.out w5 HW5.out).2.1).reg 3 _ rfl
        refine Grow.wp_region (rPlan 3 (recR [recP c 2])) (rPlan_stable _ _ (recR_stable _)) (by kernel_rfl) (by kernel_rfl) ?_
        intro opsq Hopsq
        repeat (first | (refine Grow.lex_move rfl ?_ rfl ?_; (· first | exact Grow.wanted_none | (rw [Hopsq.out]; rfl)); intro K hK; simp only [Grow.put_lit, Grow.setAt, Grow.eval_lit, Grow.ev]; refine hK _ _ ?_; clear hK K) | (refine Grow.lex_assign rfl ?_ rfl ?_; (· first | exact Grow.wanted_none | (rw [Hopsq.out]; rfl)); intro K hK; simp only [Grow.put_lit, Grow.setAt, Grow.eval_lit, Grow.ev]; refine hK _ _ ?_; clear hK K) | (refine Grow.lex_plain rfl rfl ?_ rfl ?_; (· first | exact Grow.wanted_none | (rw [Hopsq.out]; rfl)); apply Exists.intro; refine ⟨fun wq hCq _ => ?_, ?_⟩; (· (go_wp2_with fail; refine ⟨rfl, Below.refl _ _, ?_⟩; simp only [Grow.getD_lit, Grow.nth]; rfl)); intro K hK; simp only [Grow.put_lit, Grow.setAt]; refine hK _ _ ?_; clear hK K) | (refine Grow.lex_nilCheck rfl rfl ?_ rfl ?_; (· first | exact Grow.wanted_none | (rw [Hopsq.out]; rfl)); intro K hK; simp only [Grow.put_lit, Grow.setAt]; refine hK _ _ ?_; clear hK K) | (refine Grow.lex_skip ?_ ?_; (· (rw [Hopsq.out]; rfl)); intro K hK; simp only [Grow.put_lit, Grow.setAt]; refine hK _ _ ?_; clear hK K))
        (refine Grow.lex_callR (r := (fun _ v w => recR [recP c 2] v w)) ?_ rfl ?_; (· first | exact Grow.wanted_none | (rw [Hopsq.out]; rfl)); apply Exists.intro; apply Exists.intro; refine ⟨fun wq => ?_, ?_, ?_⟩; (· (go_simp; exact ⟨rfl, rfl⟩)); (· (intro wq hCq hKq; exact move_any m a c _ 2 _)); intro vq hWq; obtain ⟨_, _, hTT⟩ := hWq; obtain ⟨q, cc, hvq⟩ := recR_form (Grow.Holds.of_upd hTT).2; subst hvq; clear hTT; intro K hK; simp only [Grow.put_lit, Grow.setAt]; refine hK _ _ ?_; clear hK K)
        repeat (first | (refine Grow.lex_move rfl ?_ rfl ?_; (· first | exact Grow.wanted_none | (rw [Hopsq.out]; rfl)); intro K hK; simp only [Grow.put_lit, Grow.setAt, Grow.eval_lit, Grow.ev]; refine hK _ _ ?_; clear hK K) | (refine Grow.lex_assign rfl ?_ rfl ?_; (· first | exact Grow.wanted_none | (rw [Hopsq.out]; rfl)); intro K hK; simp only [Grow.put_lit, Grow.setAt, Grow.eval_lit, Grow.ev]; refine hK _ _ ?_; clear hK K) | (refine Grow.lex_plain rfl rfl ?_ rfl ?_; (· first | exact Grow.wanted_none | (rw [Hopsq.out]; rfl)); apply Exists.intro; refine ⟨fun wq hCq _ => ?_, ?_⟩; (· (go_wp2_with fail; refine ⟨rfl, Below.refl _ _, ?_⟩; simp only [Grow.getD_lit, Grow.nth]; rfl)); intro K hK; simp only [Grow.put_lit, Grow.setAt]; refine hK _ _ ?_; clear hK K) | (refine Grow.lex_nilCheck rfl rfl ?_ rfl ?_; (· first | exact Grow.wanted_none | (rw [Hopsq.out]; rfl)); intro K hK; simp only [Grow.put_lit, Grow.setAt]; refine hK _ _ ?_; clear hK K) | (refine Grow.lex_skip ?_ ?_; (· (rw [Hopsq.out]; rfl)); intro K hK; simp only [Grow.put_lit, Grow.setAt]; refine hK _ _ ?_; clear hK K))
        (refine Grow.lex_call ?_ rfl ?_; (· first | exact Grow.wanted_none | (rw [Hopsq.out]; rfl)); apply Exists.intro; apply Exists.intro; refine ⟨fun wq => ?_, ?_⟩; (· (go_simp; exact ⟨rfl, rfl⟩)); apply Exists.intro; refine ⟨fun wq hCq hKq => ?_, ?_⟩; (· exact when_no 262 q 1 cc _); intro K hK; simp only [Grow.put_lit, Grow.setAt]; refine hK _ _ ?_; clear hK K)
        repeat (first | (refine Grow.lex_move rfl ?_ rfl ?_; (· first | exact Grow.wanted_none | (rw [Hopsq.out]; rfl)); intro K hK; simp only [Grow.put_lit, Grow.setAt, Grow.eval_lit, Grow.ev]; refine hK _ _ ?_; clear hK K) | (refine Grow.lex_assign rfl ?_ rfl ?_; (· first | exact Grow.wanted_none | (rw [Hopsq.out]; rfl)); intro K hK; simp only [Grow.put_lit, Grow.setAt, Grow.eval_lit, Grow.ev]; refine hK _ _ ?_; clear hK K) | (refine Grow.lex_plain rfl rfl ?_ rfl ?_; (· first | exact Grow.wanted_none | (rw [Hopsq.out]; rfl)); apply Exists.intro; refine ⟨fun wq hCq _ => ?_, ?_⟩; (· (go_wp2_with fail; refine ⟨rfl, Below.refl _ _, ?_⟩; simp only [Grow.getD_lit, Grow.nth]; rfl)); intro K hK; simp only [Grow.put_lit, Grow.setAt]; refine hK _ _ ?_; clear hK K) | (refine Grow.lex_nilCheck rfl rfl ?_ rfl ?_; (· first | exact Grow.wanted_none | (rw [Hopsq.out]; rfl)); intro K hK; simp only [Grow.put_lit, Grow.setAt]; refine hK _ _ ?_; clear hK K) | (refine Grow.lex_skip ?_ ?_; (· (rw [Hopsq.out]; rfl)); intro K hK; simp only [Grow.put_lit, Grow.setAt]; refine hK _ _ ?_; clear hK K))
        refine Grow.lex_nil ?_
        intro w6 hb6 hTT
        have HR6 : Hid (recR [recP c 2] (.slice q 1 cc) w6) := Lib.hid (Grow.Holds.of_upd hTT).2
        replace hb6 := Grow.Cl.base hb6
        have HW6 := Lib.hid (HW5.out.trans (hb6.mono HW5.out.size))
        clear hb6 hTT Hopsq opsq t0 t1 t2 t3 t4 t5 y0 y1 y2 y3
        go_wp2_with fail
        exact bodyPost_ret (v := .tuple #[.slice none 0 0, .int .i64 262]) (by simp [results, Try.results32, go_sem]) rfl ⟨_, rfl, (HALL.out _ HW6.out).2.2.2, ord_nil _ HFF.out⟩
      · have HFF : Hid (F = ([recP c 2], 0)) := Lib.hid (by rw [← HF.out]; simp)
        clear HF
        clear t0 t1 t2 t3 t4 t5
        have t0 := ((HALL.out w5 HW5.out).1).reg 0 _ rfl
        have t1 := ((HALL.out w5 HW5.out).1).reg 1 _ rfl
        have t2 := ((HALL.out w5 HW5.out).1).reg 2 _ rfl
        have t3 := ((HALL.out w5 HW5.out).1).reg 3 _ rfl
        have t4 := ((HALL.out w5 HW5.out).1).reg 4 _ rfl
        have t5 := ((HALL.out w5 HW5.out).1).reg 5 _ rfl
        have y0 := ((HALL.out w5 HW5.out).2.1).reg 0 _ rfl
        have y1 := ((HALL.out w5 HW5.out).2.1).reg 1 _ rfl
        have y2 := ((HALL.out w5 HW5.out).2.1).reg 2 _ rfl
        have y3 := ((HALL.out w5 HW5.out).2.1).reg 3 _ rfl
        refine Grow.wp_region (rPlan 3 (recR [recP c 2])) (rPlan_stable _ _ (recR_stable _)) (by kernel_rfl) (by kernel_rfl) ?_
        intro opsq Hopsq
        repeat (first | (refine Grow.lex_move rfl ?_ rfl ?_; (· first | exact Grow.wanted_none | (rw [Hopsq.out]; rfl)); intro K hK; simp only [Grow.put_lit, Grow.setAt, Grow.eval_lit, Grow.ev]; refine hK _ _ ?_; clear hK K) | (refine Grow.lex_assign rfl ?_ rfl ?_; (· first | exact Grow.wanted_none | (rw [Hopsq.out]; rfl)); intro K hK; simp only [Grow.put_lit, Grow.setAt, Grow.eval_lit, Grow.ev]; refine hK _ _ ?_; clear hK K) | (refine Grow.lex_plain rfl rfl ?_ rfl ?_; (· first | exact Grow.wanted_none | (rw [Hopsq.out]; rfl)); apply Exists.intro; refine ⟨fun wq hCq _ => ?_, ?_⟩; (· (go_wp2_with fail; refine ⟨rfl, Below.refl _ _, ?_⟩; simp only [Grow.getD_lit, Grow.nth]; rfl)); intro K hK; simp only [Grow.put_lit, Grow.setAt]; refine hK _ _ ?_; clear hK K) | (refine Grow.lex_nilCheck rfl rfl ?_ rfl ?_; (· first | exact Grow.wanted_none | (rw [Hopsq.out]; rfl)); intro K hK; simp only [Grow.put_lit, Grow.setAt]; refine hK _ _ ?_; clear hK K) | (refine Grow.lex_skip ?_ ?_; (· (rw [Hopsq.out]; rfl)); intro K hK; simp only [Grow.put_lit, Grow.setAt]; refine hK _ _ ?_; clear hK K))
        (refine Grow.lex_callR (r := (fun _ v w => recR [recP c 2] v w)) ?_ rfl ?_; (· first | exact Grow.wanted_none | (rw [Hopsq.out]; rfl)); apply Exists.intro; apply Exists.intro; refine ⟨fun wq => ?_, ?_, ?_⟩; (· (go_simp; exact ⟨rfl, rfl⟩)); (· (intro wq hCq hKq; exact move_any m a c _ 2 _)); intro vq hWq; obtain ⟨_, _, hTT⟩ := hWq; obtain ⟨q, cc, hvq⟩ := recR_form (Grow.Holds.of_upd hTT).2; subst hvq; clear hTT; intro K hK; simp only [Grow.put_lit, Grow.setAt]; refine hK _ _ ?_; clear hK K)
        repeat (first | (refine Grow.lex_move rfl ?_ rfl ?_; (· first | exact Grow.wanted_none | (rw [Hopsq.out]; rfl)); intro K hK; simp only [Grow.put_lit, Grow.setAt, Grow.eval_lit, Grow.ev]; refine hK _ _ ?_; clear hK K) | (refine Grow.lex_assign rfl ?_ rfl ?_; (· first | exact Grow.wanted_none | (rw [Hopsq.out]; rfl)); intro K hK; simp only [Grow.put_lit, Grow.setAt, Grow.eval_lit, Grow.ev]; refine hK _ _ ?_; clear hK K) | (refine Grow.lex_plain rfl rfl ?_ rfl ?_; (· first | exact Grow.wanted_none | (rw [Hopsq.out]; rfl)); apply Exists.intro; refine ⟨fun wq hCq _ => ?_, ?_⟩; (· (go_wp2_with fail; refine ⟨rfl, Below.refl _ _, ?_⟩; simp only [Grow.getD_lit, Grow.nth]; rfl)); intro K hK; simp only [Grow.put_lit, Grow.setAt]; refine hK _ _ ?_; clear hK K) | (refine Grow.lex_nilCheck rfl rfl ?_ rfl ?_; (· first | exact Grow.wanted_none | (rw [Hopsq.out]; rfl)); intro K hK; simp only [Grow.put_lit, Grow.setAt]; refine hK _ _ ?_; clear hK K) | (refine Grow.lex_skip ?_ ?_; (· (rw [Hopsq.out]; rfl)); intro K hK; simp only [Grow.put_lit, Grow.setAt]; refine hK _ _ ?_; clear hK K))
        (refine Grow.lex_call ?_ rfl ?_; (· first | exact Grow.wanted_none | (rw [Hopsq.out]; rfl)); apply Exists.intro; apply Exists.intro; refine ⟨fun wq => ?_, ?_⟩; (· (go_simp; exact ⟨rfl, rfl⟩)); apply Exists.intro; refine ⟨fun wq hCq hKq => ?_, ?_⟩; (· exact when_ok 262 q 1 cc _); intro K hK; simp only [Grow.put_lit, Grow.setAt]; refine hK _ _ ?_; clear hK K)
        repeat (first | (refine Grow.lex_move rfl ?_ rfl ?_; (· first | exact Grow.wanted_none | (rw [Hopsq.out]; rfl)); intro K hK; simp only [Grow.put_lit, Grow.setAt, Grow.eval_lit, Grow.ev]; refine hK _ _ ?_; clear hK K) | (refine Grow.lex_assign rfl ?_ rfl ?_; (· first | exact Grow.wanted_none | (rw [Hopsq.out]; rfl)); intro K hK; simp only [Grow.put_lit, Grow.setAt, Grow.eval_lit, Grow.ev]; refine hK _ _ ?_; clear hK K) | (refine Grow.lex_plain rfl rfl ?_ rfl ?_; (· first | exact Grow.wanted_none | (rw [Hopsq.out]; rfl)); apply Exists.intro; refine ⟨fun wq hCq _ => ?_, ?_⟩; (· (go_wp2_with fail; refine ⟨rfl, Below.refl _ _, ?_⟩; simp only [Grow.getD_lit, Grow.nth]; rfl)); intro K hK; simp only [Grow.put_lit, Grow.setAt]; refine hK _ _ ?_; clear hK K) | (refine Grow.lex_nilCheck rfl rfl ?_ rfl ?_; (· first | exact Grow.wanted_none | (rw [Hopsq.out]; rfl)); intro K hK; simp only [Grow.put_lit, Grow.setAt]; refine hK _ _ ?_; clear hK K) | (refine Grow.lex_skip ?_ ?_; (· (rw [Hopsq.out]; rfl)); intro K hK; simp only [Grow.put_lit, Grow.setAt]; refine hK _ _ ?_; clear hK K))
        refine Grow.lex_nil ?_
        intro w6 hb6 hTT
        have HR6 : Hid (recR [recP c 2] (.slice q 1 cc) w6) := Lib.hid (Grow.Holds.of_upd hTT).2
        replace hb6 := Grow.Cl.base hb6
        have HW6 := Lib.hid (HW5.out.trans (hb6.mono HW5.out.size))
        clear hb6 hTT Hopsq opsq t0 t1 t2 t3 t4 t5 y0 y1 y2 y3
        go_wp2_with fail
        exact bodyPost_ret (v := .tuple #[.slice q 1 cc, .int .i64 0]) (by simp [results, Try.results32, go_sem]) rfl ⟨_, rfl, (HALL.out _ HW6.out).2.2.2, ord_one HFF.out HR6.out⟩
    · have e1' : (p == 3) = false := by simpa using e1
      have HFF : Hid (F = ([], 260)) := Lib.hid (by rw [← HF.out]; simp [e1])
      clear HF
      clear e1
      go_wp2_with fail
      exact bodyPost_ret (v := .tuple #[.slice none 0 0, .int .i64 260]) (by simp [results, Try.results32, go_sem]) rfl ⟨_, rfl, (HALL.out _ HW5.out).2.2.2, ord_nil _ HFF.out⟩
  · go_wp2_with fail
    refine (in_any m a c calm p 3 _ HPC.out (HALL.out _ HW4.out).2.2.1).mono ?_
    rintro e w5 ⟨rfl, hb5⟩
    have HW5 := Lib.hid (HW4.out.trans (hb5.mono HW4.out.size))
    clear hb5 HW4 t0 t1 t2 t3 t4 t5
    have t0 := (HALL.out w5 HW5.out).1.cell 0 _ rfl
    have t1 := (HALL.out w5 HW5.out).1.cell 1 _ rfl
    have t2 := (HALL.out w5 HW5.out).1.cell 2 _ rfl
    have t3 := (HALL.out w5 HW5.out).1.cell 3 _ rfl
    have t4 := (HALL.out w5 HW5.out).1.cell 4 _ rfl
    have t5 := (HALL.out w5 HW5.out).1.cell 5 _ rfl
    by_cases e1 : p = 3
    · subst e1
      go_upto_region 14 with fail
      obtain ⟨B, hqB, _, cB⟩ := (HALL.out w5 HW5.out).2.2.1.2.1.bl HFC.out
      replace cB : ∀ W, Grow.Cl w5.drew W → _ := fun W h => cell_later (Grow.Cl.base h) cB
      cases f
      · have HFF : Hid (F = ([recP c 4], 0)) := Lib.hid (by rw [← HF.out]; simp)
        clear HF
        clear t0 t1 t2 t3 t4 t5
        have t0 := ((HALL.out w5 HW5.out).1).reg 0 _ rfl
        have t1 := ((HALL.out w5 HW5.out).1).reg 1 _ rfl
        have t2 := ((HALL.out w5 HW5.out).1).reg 2 _ rfl
        have t3 := ((HALL.out w5 HW5.out).1).reg 3 _ rfl
        have t4 := ((HALL.out w5 HW5.out).1).reg 4 _ rfl
        have t5 := ((HALL.out w5 HW5.out).1).reg 5 _ rfl
        have y0 := ((HALL.out w5 HW5.out).2.1).reg 0 _ rfl
        have y1 := ((HALL.out w5 HW5.out).2.1).reg 1 _ rfl
        have y2 := ((HALL.out w5 HW5.out).2.1).reg 2 _ rfl
        have y3 := ((HALL.out w5 HW5.out).2.1).reg 3 _ rfl
        rw [hqB] at y1
        clear hqB
        refine Grow.wp_region (rPlan 8 (recR [recP c 4])) (rPlan_stable _ _ (recR_stable _)) (by kernel_rfl) (by kernel_rfl) ?_
        intro opsq Hopsq
        repeat (first | (refine Grow.lex_move rfl ?_ rfl ?_; (· first | exact Grow.wanted_none | (rw [Hopsq.out]; rfl)); intro K hK; simp only [Grow.put_lit, Grow.setAt, Grow.eval_lit, Grow.ev]; refine hK _ _ ?_; clear hK K) | (refine Grow.lex_assign rfl ?_ rfl ?_; (· first | exact Grow.wanted_none | (rw [Hopsq.out]; rfl)); intro K hK; simp only [Grow.put_lit, Grow.setAt, Grow.eval_lit, Grow.ev]; refine hK _ _ ?_; clear hK K) | (refine Grow.lex_plain rfl rfl ?_ rfl ?_; (· first | exact Grow.wanted_none | (rw [Hopsq.out]; rfl)); apply Exists.intro; refine ⟨fun wq hCq _ => ?_, ?_⟩; (· (go_wp2_with fail; refine ⟨rfl, Below.refl _ _, ?_⟩; simp only [Grow.getD_lit, Grow.nth]; rfl)); intro K hK; simp only [Grow.put_lit, Grow.setAt]; refine hK _ _ ?_; clear hK K) | (refine Grow.lex_nilCheck rfl rfl ?_ rfl ?_; (· first | exact Grow.wanted_none | (rw [Hopsq.out]; rfl)); intro K hK; simp only [Grow.put_lit, Grow.setAt]; refine hK _ _ ?_; clear hK K) | (refine Grow.lex_skip ?_ ?_; (· (rw [Hopsq.out]; rfl)); intro K hK; simp only [Grow.put_lit, Grow.setAt]; refine hK _ _ ?_; clear hK K))
        (refine Grow.lex_callR (r := (fun _ v w => recR [recP c 4] v w)) ?_ rfl ?_; (· first | exact Grow.wanted_none | (rw [Hopsq.out]; rfl)); apply Exists.intro; apply Exists.intro; refine ⟨fun wq => ?_, ?_, ?_⟩; (· (go_simp; exact ⟨rfl, rfl⟩)); (· (intro wq hCq hKq; exact move_any m a c calm 4 _)); intro vq hWq; obtain ⟨_, _, hTT⟩ := hWq; obtain ⟨q, cc, hvq⟩ := recR_form (Grow.Holds.of_upd hTT).2; subst hvq; clear hTT; intro K hK; simp only [Grow.put_lit, Grow.setAt]; refine hK _ _ ?_; clear hK K)
        repeat (first | (refine Grow.lex_move rfl ?_ rfl ?_; (· first | exact Grow.wanted_none | (rw [Hopsq.out]; rfl)); intro K hK; simp only [Grow.put_lit, Grow.setAt, Grow.eval_lit, Grow.ev]; refine hK _ _ ?_; clear hK K) | (refine Grow.lex_assign rfl ?_ rfl ?_; (· first | exact Grow.wanted_none | (rw [Hopsq.out]; rfl)); intro K hK; simp only [Grow.put_lit, Grow.setAt, Grow.eval_lit, Grow.ev]; refine hK _ _ ?_; clear hK K) | (refine Grow.lex_plain rfl rfl ?_ rfl ?_; (· first | exact Grow.wanted_none | (rw [Hopsq.out]; rfl)); apply Exists.intro; refine ⟨fun wq hCq _ => ?_, ?_⟩; (· (go_wp2_with fail; refine ⟨rfl, Below.refl _ _, ?_⟩; simp only [Grow.getD_lit, Grow.nth]; rfl)); intro K hK; simp only [Grow.put_lit, Grow.setAt]; refine hK _ _ ?_; clear hK K) | (refine Grow.lex_nilCheck rfl rfl ?_ rfl ?_; (· first | exact Grow.wanted_none | (rw [Hopsq.out]; rfl)); intro K hK; simp only [Grow.put_lit, Grow.setAt]; refine hK _ _ ?_; clear hK K) | (refine Grow.lex_skip ?_ ?_; (· (rw [Hopsq.out]; rfl)); intro K hK; simp only [Grow.put_lit, Grow.setAt]; refine hK _ _ ?_; clear hK K))
        (refine Grow.lex_call ?_ rfl ?_; (· first | exact Grow.wanted_none | (rw [Hopsq.out]; rfl)); apply Exists.intro; apply Exists.intro; refine ⟨fun wq => ?_, ?_⟩; (· (go_simp; exact ⟨rfl, rfl⟩)); apply Exists.intro; refine ⟨fun wq hCq hKq => ?_, ?_⟩; (· exact when_ok 262 q 1 cc _); intro K hK; simp only [Grow.put_lit, Grow.setAt]; refine hK _ _ ?_; clear hK K)
        repeat (first | (refine Grow.lex_move rfl ?_ rfl ?_; (· first | exact Grow.wanted_none | (rw [Hopsq.out]; rfl)); intro K hK; simp only [Grow.put_lit, Grow.setAt, Grow.eval_lit, Grow.ev]; refine hK _ _ ?_; clear hK K) | (refine Grow.lex_assign rfl ?_ rfl ?_; (· first | exact Grow.wanted_none | (rw [Hopsq.out]; rfl)); intro K hK; simp only [Grow.put_lit, Grow.setAt, Grow.eval_lit, Grow.ev]; refine hK _ _ ?_; clear hK K) | (refine Grow.lex_plain rfl rfl ?_ rfl ?_; (· first | exact Grow.wanted_none | (rw [Hopsq.out]; rfl)); apply Exists.intro; refine ⟨fun wq hCq _ => ?_, ?_⟩; (· (go_wp2_with fail; refine ⟨rfl, Below.refl _ _, ?_⟩; simp only [Grow.getD_lit, Grow.nth]; rfl)); intro K hK; simp only [Grow.put_lit, Grow.setAt]; refine hK _ _ ?_; clear hK K) | (refine Grow.lex_nilCheck rfl rfl ?_ rfl ?_; (· first | exact Grow.wanted_none | (rw [Hopsq.out]; rfl)); intro K hK; simp only [Grow.put_lit, Grow.setAt]; refine hK _ _ ?_; clear hK K) | (refine Grow.lex_skip ?_ ?_; (· (rw [Hopsq.out]; rfl)); intro K hK; simp only [Grow.put_lit, Grow.setAt]; refine hK _ _ ?_; clear hK K))
        refine Grow.lex_nil ?_
        intro w6 hb6 hTT
        have HR6 : Hid (recR [recP c 4] (.slice q 1 cc) w6) := Lib.hid (Grow.Holds.of_upd hTT).2
        replace hb6 := Grow.Cl.base hb6
        have HW6 := Lib.hid (HW5.out.trans (hb6.mono HW5.out.size))
        clear cB hb6 hTT Hopsq opsq t0 t1 t2 t3 t4 t5 y0 y1 y2 y3
        go_wp2_with fail
        exact bodyPost_ret (v := .tuple #[.slice q 1 cc, .int .i64 0]) (by simp [results, Try.results32, go_sem]) rfl ⟨_, rfl, (HALL.out _ HW6.out).2.2.2, ord_one HFF.out HR6.out⟩
      · have HFF : Hid (F = ([], 262)) := Lib.hid (by rw [← HF.out]; simp)
        clear HF
        clear t0 t1 t2 t3 t4 t5
        have t0 := ((HALL.out w5 HW5.out).1).reg 0 _ rfl
        have t1 := ((HALL.out w5 HW5.out).1).reg 1 _ rfl
        have t2 := ((HALL.out w5 HW5.out).1).reg 2 _ rfl
        have t3 := ((HALL.out w5 HW5.out).1).reg 3 _ rfl
        have t4 := ((HALL.out w5 HW5.out).1).reg 4 _ rfl
        have t5 := ((HALL.out w5 HW5.out).1).reg 5 _ rfl
        have y0 := ((HALL.out w5 HW5.out).2.1).reg 0 _ rfl
        have y1 := ((HALL.out w5 HW5.out).2.1).reg 1 _ rfl
        have y2 := ((HALL.out w5 HW5.out).2.1).reg 2 _ rfl
        have y3 := ((HALL.out w5 HW5.out).2.1).reg 3 _ rfl
        rw [hqB] at y1
        clear hqB
        refine Grow.wp_region (rPlan 8 (recR [recP c 4])) (rPlan_stable _ _ (recR_stable _)) (by kernel_rfl) (by kernel_rfl) ?_
        intro opsq Hopsq
        repeat (first | (refine Grow.lex_move rfl ?_ rfl ?_; (· first | exact Grow.wanted_none | (rw [Hopsq.out]; rfl)); intro K hK; simp only [Grow.put_lit, Grow.setAt, Grow.eval_lit, Grow.ev]; refine hK _ _ ?_; clear hK K) | (refine Grow.lex_assign rfl ?_ rfl ?_; (· first | exact Grow.wanted_none | (rw [Hopsq.out]; rfl)); intro K hK; simp only [Grow.put_lit, Grow.setAt, Grow.eval_lit, Grow.ev]; refine hK _ _ ?_; clear hK K) | (refine Grow.lex_plain rfl rfl ?_ rfl ?_; (· first | exact Grow.wanted_none | (rw [Hopsq.out]; rfl)); apply Exists.intro; refine ⟨fun wq hCq _ => ?_, ?_⟩; (· (go_wp2_with fail; refine ⟨rfl, Below.refl _ _, ?_⟩; simp only [Grow.getD_lit, Grow.nth]; rfl)); intro K hK; simp only [Grow.put_lit, Grow.setAt]; refine hK _ _ ?_; clear hK K) | (refine Grow.lex_nilCheck rfl rfl ?_ rfl ?_; (· first | exact Grow.wanted_none | (rw [Hopsq.out]; rfl)); intro K hK; simp only [Grow.put_lit, Grow.setAt]; refine hK _ _ ?_; clear hK K) | (refine Grow.lex_skip ?_ ?_; (· (rw [Hopsq.out]; rfl)); intro K hK; simp only [Grow.put_lit, Grow.setAt]; refine hK _ _ ?_; clear hK K))
        (refine Grow.lex_callR (r := (fun _ v w => recR [recP c 4] v w)) ?_ rfl ?_; (· first | exact Grow.wanted_none | (rw [Hopsq.out]; rfl)); apply Exists.intro; apply Exists.intro; refine ⟨fun wq => ?_, ?_, ?_⟩; (· (go_simp; exact ⟨rfl, rfl⟩)); (· (intro wq hCq hKq; exact move_any m a c calm 4 _)); intro vq hWq; obtain ⟨_, _, hTT⟩ := hWq; obtain ⟨q, cc, hvq⟩ := recR_form (Grow.Holds.of_upd hTT).2; subst hvq; clear hTT; intro K hK; simp only [Grow.put_lit, Grow.setAt]; refine hK _ _ ?_; clear hK K)
        repeat (first | (refine Grow.lex_move rfl ?_ rfl ?_; (· first | exact Grow.wanted_none | (rw [Hopsq.out]; rfl)); intro K hK; simp only [Grow.put_lit, Grow.setAt, Grow.eval_lit, Grow.ev]; refine hK _ _ ?_; clear hK K) | (refine Grow.lex_assign rfl ?_ rfl ?_; (· first | exact Grow.wanted_none | (rw [Hopsq.out]; rfl)); intro K hK; simp only [Grow.put_lit, Grow.setAt, Grow.eval_lit, Grow.ev]; refine hK _ _ ?_; clear hK K) | (refine Grow.lex_plain rfl rfl ?_ rfl ?_; (· first | exact Grow.wanted_none | (rw [Hopsq.out]; rfl)); apply Exists.intro; refine ⟨fun wq hCq _ => ?_, ?_⟩; (· (go_wp2_with fail; refine ⟨rfl, Below.refl _ _, ?_⟩; simp only [Grow.getD_lit, Grow.nth]; rfl)); intro K hK; simp only [Grow.put_lit, Grow.setAt]; refine hK _ _ ?_; clear hK K) | (refine Grow.lex_nilCheck rfl rfl ?_ rfl ?_; (· first | exact Grow.wanted_none | (rw [Hopsq.out]; rfl)); intro K hK; simp only [Grow.put_lit, Grow.setAt]; refine hK _ _ ?_; clear hK K) | (refine Grow.lex_skip ?_ ?_; (· (rw [Hopsq.out]; rfl)); intro K hK; simp only [Grow.put_lit, Grow.setAt]; refine hK _ _ ?_; clear hK K))
        (refine Grow.lex_call ?_ rfl ?_; (· first | exact Grow.wanted_none | (rw [Hopsq.out]; rfl)); apply Exists.intro; apply Exists.intro; refine ⟨fun wq => ?_, ?_⟩; (· (go_simp; exact ⟨rfl, rfl⟩)); apply Exists.intro; refine ⟨fun wq hCq hKq => ?_, ?_⟩; (· exact when_no 262 q 1 cc _); intro K hK; simp only [Grow.put_lit, Grow.setAt]; refine hK _ _ ?_; clear hK K)
        repeat (first | (refine Grow.lex_move rfl ?_ rfl ?_; (· first | exact Grow.wanted_none | (rw [Hopsq.out]; rfl)); intro K hK; simp only [Grow.put_lit, Grow.setAt, Grow.eval_lit, Grow.ev]; refine hK _ _ ?_; clear hK K) | (refine Grow.lex_assign rfl ?_ rfl ?_; (· first | exact Grow.wanted_none | (rw [Hopsq.out]; rfl)); intro K hK; simp only [Grow.put_lit, Grow.setAt, Grow.eval_lit, Grow.ev]; refine hK _ _ ?_; clear hK K) | (refine Grow.lex_plain rfl rfl ?_ rfl ?_; (· first | exact Grow.wanted_none | (rw [Hopsq.out]; rfl)); apply Exists.intro; refine ⟨fun wq hCq _ => ?_, ?_⟩; (· (go_wp2_with fail; refine ⟨rfl, Below.refl _ _, ?_⟩; simp only [Grow.getD_lit, Grow.nth]; rfl)); intro K hK; simp only [Grow.put_lit, Grow.setAt]; refine hK _ _ ?_; clear hK K) | (refine Grow.lex_nilCheck rfl rfl ?_ rfl ?_; (· first | exact Grow.wanted_none | (rw [Hopsq.out]; rfl)); intro K hK; simp only [Grow.put_lit, Grow.setAt]; refine hK _ _ ?_; clear hK K) | (refine Grow.lex_skip ?_ ?_; (· (rw [Hopsq.out]; rfl)); intro K hK; simp only [Grow.put_lit, Grow.setAt]; refine hK _ _ ?_; clear hK K))
        refine Grow.lex_nil ?_
        intro w6 hb6 hTT
        have HR6 : Hid (recR [recP c 4] (.slice q 1 cc) w6) := Lib.hid (Grow.Holds.of_upd hTT).2
        replace hb6 := Grow.Cl.base hb6
        have HW6 := Lib.hid (HW5.out.trans (hb6.mono HW5.out.size))
        clear cB hb6 hTT Hopsq opsq t0 t1 t2 t3 t4 t5 y0 y1 y2 y3
        go_wp2_with fail
        exact bodyPost_ret (v := .tuple #[.slice none 0 0, .int .i64 262]) (by simp [results, Try.results32, go_sem]) rfl ⟨_, rfl, (HALL.out _ HW6.out).2.2.2, ord_nil _ HFF.out⟩
    · have e1' : (p == 3) = false := by simpa using e1
      have HFF : Hid (F = ([], 260)) := Lib.hid (by rw [← HF.out]; simp [e1])
      clear HF
      clear e1
      go_wp2_with fail
      exact bodyPost_ret (v := .tuple #[.slice none 0 0, .int .i64 260]) (by simp [results, Try.results32, go_sem]) rfl ⟨_, rfl, (HALL.out _ HW5.out).2.2.2, ord_nil _ HFF.out⟩
  · go_wp2_with fail
    refine (in_any m a c calm p 4 _ HPC.out (HALL.out _ HW4.out).2.2.1).mono ?_
    rintro e w5 ⟨rfl, hb5⟩
    have HW5 := Lib.hid (HW4.out.trans (hb5.mono HW4.out.size))
    clear hb5 HW4 t0 t1 t2 t3 t4 t5
    have t0 := (HALL.out w5 HW5.out).1.cell 0 _ rfl
    have t1 := (HALL.out w5 HW5.out).1.cell 1 _ rfl
    have t2 := (HALL.out w5 HW5.out).1.cell 2 _ rfl
    have t3 := (HALL.out w5 HW5.out).1.cell 3 _ rfl
    have t4 := (HALL.out w5 HW5.out).1.cell 4 _ rfl
    have t5 := (HALL.out w5 HW5.out).1.cell 5 _ rfl
    by_cases e1 : p = 4
    · subst e1
      cases l
      · go_upto_region 16 with fail
        cases hfb : freeB m
        · have HFB := Lib.hid hfb
          have HFF : Hid (F = ([], 261)) := Lib.hid (by rw [← HF.out]; simp [hfb])
          clear HF
          clear hfb
          clear t0 t1 t2 t3 t4 t5
          have t0 := ((HALL.out w5 HW5.out).1).reg 0 _ rfl
          have t1 := ((HALL.out w5 HW5.out).1).reg 1 _ rfl
          have t2 := ((HALL.out w5 HW5.out).1).reg 2 _ rfl
          have t3 := ((HALL.out w5 HW5.out).1).reg 3 _ rfl
          have t4 := ((HALL.out w5 HW5.out).1).reg 4 _ rfl
          have t5 := ((HALL.out w5 HW5.out).1).reg 5 _ rfl
          have y0 := ((HALL.out w5 HW5.out).2.1).reg 0 _ rfl
          have y1 := ((HALL.out w5 HW5.out).2.1).reg 1 _ rfl
          have y2 := ((HALL.out w5 HW5.out).2.1).reg 2 _ rfl
          have y3 := ((HALL.out w5 HW5.out).2.1).reg 3 _ rfl
          refine Grow.wp_region (mkPlan 5 slI w5.heap.size (recLv c 1).cell) (mkPlan_stable _ _ _ _) (by kernel_rfl) (by kernel_rfl) ?_
          intro opsq Hopsq
          repeat (first | (refine Grow.lex_move rfl ?_ rfl ?_; (· first | exact Grow.wanted_none | (rw [Hopsq.out]; rfl)); intro K hK; simp only [Grow.put_lit, Grow.setAt, Grow.eval_lit, Grow.ev]; refine hK _ _ ?_; clear hK K) | (refine Grow.lex_assign rfl ?_ rfl ?_; (· first | exact Grow.wanted_none | (rw [Hopsq.out]; rfl)); intro K hK; simp only [Grow.put_lit, Grow.setAt, Grow.eval_lit, Grow.ev]; refine hK _ _ ?_; clear hK K) | (refine Grow.lex_plain rfl rfl ?_ rfl ?_; (· first | exact Grow.wanted_none | (rw [Hopsq.out]; rfl)); apply Exists.intro; refine ⟨fun wq hCq _ => ?_, ?_⟩; (· (go_wp2_with fail; refine ⟨rfl, Below.refl _ _, ?_⟩; simp only [Grow.getD_lit, Grow.nth]; rfl)); intro K hK; simp only [Grow.put_lit, Grow.setAt]; refine hK _ _ ?_; clear hK K) | (refine Grow.lex_nilCheck rfl rfl ?_ rfl ?_; (· first | exact Grow.wanted_none | (rw [Hopsq.out]; rfl)); intro K hK; simp only [Grow.put_lit, Grow.setAt]; refine hK _ _ ?_; clear hK K) | (refine Grow.lex_skip ?_ ?_; (· (rw [Hopsq.out]; rfl)); intro K hK; simp only [Grow.put_lit, Grow.setAt]; refine hK _ _ ?_; clear hK K))
          (refine Grow.lex_call ?_ rfl ?_; (· first | exact Grow.wanted_none | (rw [Hopsq.out]; rfl)); apply Exists.intro; apply Exists.intro; refine ⟨fun wq => ?_, ?_⟩; (· (go_simp; exact ⟨rfl, rfl⟩)); apply Exists.intro; refine ⟨fun wq hCq hKq => ?_, ?_⟩; (· exact calls_bool (free_any m a _ HP.out HLV.out H5.out ((HALL.out _ (HW5.out.trans ((Grow.Cl.base hCq).mono HW5.out.size))).2.2.1)) HFB.out); intro K hK; simp only [Grow.put_lit, Grow.setAt]; refine hK _ _ ?_; clear hK K)
          repeat (first | (refine Grow.lex_move rfl ?_ rfl ?_; (· first | exact Grow.wanted_none | (rw [Hopsq.out]; rfl)); intro K hK; simp only [Grow.put_lit, Grow.setAt, Grow.eval_lit, Grow.ev]; refine hK _ _ ?_; clear hK K) | (refine Grow.lex_assign rfl ?_ rfl ?_; (· first | exact Grow.wanted_none | (rw [Hopsq.out]; rfl)); intro K hK; simp only [Grow.put_lit, Grow.setAt, Grow.eval_lit, Grow.ev]; refine hK _ _ ?_; clear hK K) | (refine Grow.lex_plain rfl rfl ?_ rfl ?_; (· first | exact Grow.wanted_none | (rw [Hopsq.out]; rfl)); apply Exists.intro; refine ⟨fun wq hCq _ => ?_, ?_⟩; (· (go_wp2_with fail; refine ⟨rfl, Below.refl _ _, ?_⟩; simp only [Grow.getD_lit, Grow.nth]; rfl)); intro K hK; simp only [Grow.put_lit, Grow.setAt]; refine hK _ _ ?_; clear hK K) | (refine Grow.lex_nilCheck rfl rfl ?_ rfl ?_; (· first | exact Grow.wanted_none | (rw [Hopsq.out]; rfl)); intro K hK; simp only [Grow.put_lit, Grow.setAt]; refine hK _ _ ?_; clear hK K) | (refine Grow.lex_skip ?_ ?_; (· (rw [Hopsq.out]; rfl)); intro K hK; simp only [Grow.put_lit, Grow.setAt]; refine hK _ _ ?_; clear hK K))
          refine lex_mk 5 slI w5.heap.size (recLv c 1).cell 47 ?_ (fun wq => ?_) (Nat.le_refl _) ?_
          · first | exact Grow.wanted_none | (rw [Hopsq.out]; rfl)
          · go_simp
            exact ⟨rfl, rfl⟩
          intro g9 hg9
          simp only [Grow.put_lit, Grow.setAt, slI]
          (refine Grow.lex_call ?_ rfl ?_; (· first | exact Grow.wanted_none | (rw [Hopsq.out]; rfl)); apply Exists.intro; apply Exists.intro; refine ⟨fun wq => ?_, ?_⟩; (· (go_simp; exact ⟨rfl, rfl⟩)); apply Exists.intro; refine ⟨fun wq hCq hKq => ?_, ?_⟩; (· exact when_no 261 (some ⟨g9, 0, none⟩) 1 1 _); intro K hK; simp only [Grow.put_lit, Grow.setAt]; refine hK _ _ ?_; clear hK K)
          repeat (first | (refine Grow.lex_move rfl ?_ rfl ?_; (· first | exact Grow.wanted_none | (rw [Hopsq.out]; rfl)); intro K hK; simp only [Grow.put_lit, Grow.setAt, Grow.eval_lit, Grow.ev]; refine hK _ _ ?_; clear hK K) | (refine Grow.lex_assign rfl ?_ rfl ?_; (· first | exact Grow.wanted_none | (rw [Hopsq.out]; rfl)); intro K hK; simp only [Grow.put_lit, Grow.setAt, Grow.eval_lit, Grow.ev]; refine hK _ _ ?_; clear hK K) | (refine Grow.lex_plain rfl rfl ?_ rfl ?_; (· first | exact Grow.wanted_none | (rw [Hopsq.out]; rfl)); apply Exists.intro; refine ⟨fun wq hCq _ => ?_, ?_⟩; (· (go_wp2_with fail; refine ⟨rfl, Below.refl _ _, ?_⟩; simp only [Grow.getD_lit, Grow.nth]; rfl)); intro K hK; simp only [Grow.put_lit, Grow.setAt]; refine hK _ _ ?_; clear hK K) | (refine Grow.lex_nilCheck rfl rfl ?_ rfl ?_; (· first | exact Grow.wanted_none | (rw [Hopsq.out]; rfl)); intro K hK; simp only [Grow.put_lit, Grow.setAt]; refine hK _ _ ?_; clear hK K) | (refine Grow.lex_skip ?_ ?_; (· (rw [Hopsq.out]; rfl)); intro K hK; simp only [Grow.put_lit, Grow.setAt]; refine hK _ _ ?_; clear hK K))
          refine Grow.lex_nil ?_
          intro w6 hb6 hTT
          have HR6 : Hid (recR [recLv c 1] (.slice (some ⟨g9, 0, none⟩) 1 1) w6) := Lib.hid ⟨_, 1, rfl, by rw [show recCells [recLv c 1] = (recLv c 1).cell by simp [recCells]]; exact rdX_of_blk (mk_blk slI_inj hTT)⟩
          replace hb6 := Grow.Cl.base hb6
          have HW6 := Lib.hid (HW5.out.trans (hb6.mono HW5.out.size))
          clear hb6 hTT Hopsq opsq t0 t1 t2 t3 t4 t5 y0 y1 y2 y3
          go_wp2_with fail
          exact bodyPost_ret (v := .tuple #[.slice none 0 0, .int .i64 261]) (by simp [results, Try.results32, go_sem]) rfl ⟨_, rfl, (HALL.out _ HW6.out).2.2.2, ord_nil _ HFF.out⟩
        · have HFB := Lib.hid hfb
          have HFF : Hid (F = ([recLv c 1], 0)) := Lib.hid (by rw [← HF.out]; simp [hfb])
          clear HF
          clear hfb
          clear t0 t1 t2 t3 t4 t5
          have t0 := ((HALL.out w5 HW5.out).1).reg 0 _ rfl
          have t1 := ((HALL.out w5 HW5.out).1).reg 1 _ rfl
          have t2 := ((HALL.out w5 HW5.out).1).reg 2 _ rfl
          have t3 := ((HALL.out w5 HW5.out).1).reg 3 _ rfl
          have t4 := ((HALL.out w5 HW5.out).1).reg 4 _ rfl
          have t5 := ((HALL.out w5 HW5.out).1).reg 5 _ rfl
          have y0 := ((HALL.out w5 HW5.out).2.1).reg 0 _ rfl
          have y1 := ((HALL.out w5 HW5.out).2.1).reg 1 _ rfl
          have y2 := ((HALL.out w5 HW5.out).2.1).reg 2 _ rfl
          have y3 := ((HALL.out w5 HW5.out).2.1).reg 3 _ rfl
          refine Grow.wp_region (mkPlan 5 slI w5.heap.size (recLv c 1).cell) (mkPlan_stable _ _ _ _) (by kernel_rfl) (by kernel_rfl) ?_
          intro opsq Hopsq
          repeat (first | (refine Grow.lex_move rfl ?_ rfl ?_; (· first | exact Grow.wanted_none | (rw [Hopsq.out]; rfl)); intro K hK; simp only [Grow.put_lit, Grow.setAt, Grow.eval_lit, Grow.ev]; refine hK _ _ ?_; clear hK K) | (refine Grow.lex_assign rfl ?_ rfl ?_; (· first | exact Grow.wanted_none | (rw [Hopsq.out]; rfl)); intro K hK; simp only [Grow.put_lit, Grow.setAt, Grow.eval_lit, Grow.ev]; refine hK _ _ ?_; clear hK K) | (refine Grow.lex_plain rfl rfl ?_ rfl ?_; (· first | exact Grow.wanted_none | (rw [Hopsq.out]; rfl)); apply Exists.intro; refine ⟨fun wq hCq _ => ?_, ?_⟩; (· (go_wp2_with fail; refine ⟨rfl, Below.refl _ _, ?_⟩; simp only [Grow.getD_lit, Grow.nth]; rfl)); intro K hK; simp only [Grow.put_lit, Grow.setAt]; refine hK _ _ ?_; clear hK K) | (refine Grow.lex_nilCheck rfl rfl ?_ rfl ?_; (· first | exact Grow.wanted_none | (rw [Hopsq.out]; rfl)); intro K hK; simp only [Grow.put_lit, Grow.setAt]; refine hK _ _ ?_; clear hK K) | (refine Grow.lex_skip ?_ ?_; (· (rw [Hopsq.out]; rfl)); intro K hK; simp only [Grow.put_lit, Grow.setAt]; refine hK _ _ ?_; clear hK K))
          (refine Grow.lex_call ?_ rfl ?_; (· first | exact Grow.wanted_none | (rw [Hopsq.out]; rfl)); apply Exists.intro; apply Exists.intro; refine ⟨fun wq => ?_, ?_⟩; (· (go_simp; exact ⟨rfl, rfl⟩)); apply Exists.intro; refine ⟨fun wq hCq hKq => ?_, ?_⟩; (· exact calls_bool (free_any m a _ HP.out HLV.out H5.out ((HALL.out _ (HW5.out.trans ((Grow.Cl.base hCq).mono HW5.out.size))).2.2.1)) HFB.out); intro K hK; simp only [Grow.put_lit, Grow.setAt]; refine hK _ _ ?_; clear hK K)
          repeat (first | (refine Grow.lex_move rfl ?_ rfl ?_; (· first | exact Grow.wanted_none | (rw [Hopsq.out]; rfl)); intro K hK; simp only [Grow.put_lit, Grow.setAt, Grow.eval_lit, Grow.ev]; refine hK _ _ ?_; clear hK K) | (refine Grow.lex_assign rfl ?_ rfl ?_; (· first | exact Grow.wanted_none | (rw [Hopsq.out]; rfl)); intro K hK; simp only [Grow.put_lit, Grow.setAt, Grow.eval_lit, Grow.ev]; refine hK _ _ ?_; clear hK K) | (refine Grow.lex_plain rfl rfl ?_ rfl ?_; (· first | exact Grow.wanted_none | (rw [Hopsq.out]; rfl)); apply Exists.intro; refine ⟨fun wq hCq _ => ?_, ?_⟩; (· (go_wp2_with fail; refine ⟨rfl, Below.refl _ _, ?_⟩; simp only [Grow.getD_lit, Grow.nth]; rfl)); intro K hK; simp only [Grow.put_lit, Grow.setAt]; refine hK _ _ ?_; clear hK K) | (refine Grow.lex_nilCheck rfl rfl ?_ rfl ?_; (· first | exact Grow.wanted_none | (rw [Hopsq.out]; rfl)); intro K hK; simp only [Grow.put_lit, Grow.setAt]; refine hK _ _ ?_; clear hK K) | (refine Grow.lex_skip ?_ ?_; (· (rw [Hopsq.out]; rfl)); intro K hK; simp only [Grow.put_lit, Grow.setAt]; refine hK _ _ ?_; clear hK K))
          refine lex_mk 5 slI w5.heap.size (recLv c 1).cell 47 ?_ (fun wq => ?_) (Nat.le_refl _) ?_
          · first | exact Grow.wanted_none | (rw [Hopsq.out]; rfl)
          · go_simp
            exact ⟨rfl, rfl⟩
          intro g9 hg9
          simp only [Grow.put_lit, Grow.setAt, slI]
          (refine Grow.lex_call ?_ rfl ?_; (· first | exact Grow.wanted_none | (rw [Hopsq.out]; rfl)); apply Exists.intro; apply Exists.intro; refine ⟨fun wq => ?_, ?_⟩; (· (go_simp; exact ⟨rfl, rfl⟩)); apply Exists.intro; refine ⟨fun wq hCq hKq => ?_, ?_⟩; (· exact when_ok 261 (some ⟨g9, 0, none⟩) 1 1 _); intro K hK; simp only [Grow.put_lit, Grow.setAt]; refine hK _ _ ?_; clear hK K)
          repeat (first | (refine Grow.lex_move rfl ?_ rfl ?_; (· first | exact Grow.wanted_none | (rw [Hopsq.out]; rfl)); intro K hK; simp only [Grow.put_lit, Grow.setAt, Grow.eval_lit, Grow.ev]; refine hK _ _ ?_; clear hK K) | (refine Grow.lex_assign rfl ?_ rfl ?_; (· first | exact Grow.wanted_none | (rw [Hopsq.out]; rfl)); intro K hK; simp only [Grow.put_lit, Grow.setAt, Grow.eval_lit, Grow.ev]; refine hK _ _ ?_; clear hK K) | (refine Grow.lex_plain rfl rfl ?_ rfl ?_; (· first | exact Grow.wanted_none | (rw [Hopsq.out]; rfl)); apply Exists.intro; refine ⟨fun wq hCq _ => ?_, ?_⟩; (· (go_wp2_with fail; refine ⟨rfl, Below.refl _ _, ?_⟩; simp only [Grow.getD_lit, Grow.nth]; rfl)); intro K hK; simp only [Grow.put_lit, Grow.setAt]; refine hK _ _ ?_; clear hK K) | (refine Grow.lex_nilCheck rfl rfl ?_ rfl ?_; (· first | exact Grow.wanted_none | (rw [Hopsq.out]; rfl)); intro K hK; simp only [Grow.put_lit, Grow.setAt]; refine hK _ _ ?_; clear hK K) | (refine Grow.lex_skip ?_ ?_; (· (rw [Hopsq.out]; rfl)); intro K hK; simp only [Grow.put_lit, Grow.setAt]; refine hK _ _ ?_; clear hK K))
          refine Grow.lex_nil ?_
          intro w6 hb6 hTT
          have HR6 : Hid (recR [recLv c 1] (.slice (some ⟨g9, 0, none⟩) 1 1) w6) := Lib.hid ⟨_, 1, rfl, by rw [show recCells [recLv c 1] = (recLv c 1).cell by simp [recCells]]; exact rdX_of_blk (mk_blk slI_inj hTT)⟩
          replace hb6 := Grow.Cl.base hb6
          have HW6 := Lib.hid (HW5.out.trans (hb6.mono HW5.out.size))
          clear hb6 hTT Hopsq opsq t0 t1 t2 t3 t4 t5 y0 y1 y2 y3
          go_wp2_with fail
          exact bodyPost_ret (v := .tuple #[.slice (some ⟨g9, 0, none⟩) 1 1, .int .i64 0]) (by simp [results, Try.results32, go_sem]) rfl ⟨_, rfl, (HALL.out _ HW6.out).2.2.2, ord_one HFF.out HR6.out⟩
      · have HFF : Hid (F = ([], 260)) := Lib.hid (by rw [← HF.out]; simp)
        clear HF
        go_wp2_with fail
        exact bodyPost_ret (v := .tuple #[.slice none 0 0, .int .i64 260]) (by simp [results, Try.results32, go_sem]) rfl ⟨_, rfl, (HALL.out _ HW5.out).2.2.2, ord_nil _ HFF.out⟩
    · have e1' : (p == 4) = false := by simpa using e1
      have HFF : Hid (F = ([], 260)) := Lib.hid (by rw [← HF.out]; simp [e1])
      clear HF
      clear e1
      go_wp2_with fail
      exact bodyPost_ret (v := .tuple #[.slice none 0 0, .int .i64 260]) (by simp [results, Try.results32, go_sem]) rfl ⟨_, rfl, (HALL.out _ HW5.out).2.2.2, ord_nil _ HFF.out⟩
  · have HW5 := HW4
    clear HW4
    obtain ⟨B, hqB, _, cB⟩ := (HALL.out w4 HW5.out).2.2.1.2.1.bl HFC.out
    have y0 := (HALL.out w4 HW5.out).2.1.cell 0 _ rfl
    have y1 := (HALL.out w4 HW5.out).2.1.cell 1 _ rfl
    have y2 := (HALL.out w4 HW5.out).2.1.cell 2 _ rfl
    have y3 := (HALL.out w4 HW5.out).2.1.cell 3 _ rfl
    rw [hqB] at y1
    clear hqB
    cases f
    · have HFF : Hid (F = ([], 260)) := Lib.hid (by rw [← HF.out]; simp)
      clear HF
      go_wp2_with fail
      exact bodyPost_ret (v := .tuple #[.slice none 0 0, .int .i64 260]) (by simp [results, Try.results32, go_sem]) rfl ⟨_, rfl, (HALL.out _ HW5.out).2.2.2, ord_nil _ HFF.out⟩
    · have HFF : Hid (F = ([recFl c], 0)) := Lib.hid (by rw [← HF.out]; simp)
      clear HF
      have hr6 := recR_one w4 (recFl c) 47
      have hb6 := below1' w4 (.cells #[.int .i64 (recFl c).1, .int .i64 (recFl c).2.1, .int .i64 (recFl c).2.2.1, .int .i64 (recFl c).2.2.2.1, .int .i64 (recFl c).2.2.2.2] 47)
      have HR6 := Lib.hid hr6; have HW6 := Lib.hid (HW5.out.trans (hb6.mono HW5.out.size))
      clear hr6 hb6
      go_wp2_with fail
      exact bodyPost_ret (v := .tuple #[.slice (some ⟨w4.heap.size, 0, none⟩) 1 1, .int .i64 0]) (by simp [results, Try.results32, go_sem]) rfl ⟨_, rfl, (HALL.out _ HW6.out).2.2.2, ord_one HFF.out HR6.out⟩
end Go.Proofs.Ytgoojlfpngmdlaa
