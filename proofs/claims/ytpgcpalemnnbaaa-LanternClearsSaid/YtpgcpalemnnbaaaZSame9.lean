/- The walks over overlayref09.Same at two rows of the same records, and over the lamps and their reference. Conditions: at most 1000 records, 200 entries. -/
import Derived.Test.YtpgcpalemnnbaaaZRec
import Derived.Test.YtpgcpalemnnbaaaZFind
namespace Go.Proofs.Ytpgcpalemnnbaaa
open Go.RowKit
attribute [local go_sem ↓] run_neq_cs run_eql_cs
set_option maxHeartbeats 2000000 in
set_option maxRecDepth 100000 in
theorem same9_refl (L : List R5) (q : Option Addr) (c : Nat) (q' : Option Addr) (c' : Nat) (w : World) (hl : L.length ≤ 1000) (h1 : RdX w q (recCells L)) (h2 : RdX w q' (recCells L)) :
    Calls Try.prog 19 #[.slice q L.length c, .slice q' L.length c'] w fun e w' => e = .returned (.bool true) ∧ Below w.heap.size w w' := by
  obtain ⟨n, hn⟩ : ∃ n, n = L.length := ⟨_, rfl⟩
  rw [← hn] at hl ⊢
  have HN := Lib.hid hn; have H1 := Lib.hid h1; have H2 := Lib.hid h2
  clear hn h1 h2
  go_enter Try.func19, Try.ntmps19
  go_wp2_with fail
  go_loopw [5] (fun v wr => ∃ i : Nat, i ≤ n ∧ v = .int .i64 i ∧ Below w.heap.size w wr) (fun v _ => n - (intOf v).toNat)
  case atStart => exact ⟨0, by omega, rfl, Below.refl _ _⟩
  case round =>
    obtain ⟨i, hi, rfl, hb⟩ := hrel
    have HB := Lib.hid hb
    clear hb
    by_cases hlt : i < n
    · have hd : decide ((i : Int) < (n : Int)) = true := by simp; omega
      obtain ⟨r, hr⟩ : ∃ r, L[i]? = some r := ⟨_, List.getElem?_eq_getElem (by rw [← HN.out]; exact hlt)⟩
      obtain ⟨A, hqA, _, x0, x1, x2, x3, x4⟩ := (H1.out.next HB.out).rc hr
      obtain ⟨A', hqA', _, y0, y1, y2, y3, y4⟩ := (H2.out.next HB.out).rc hr
      subst hqA
      subst hqA'
      have hi0 : (0 : Int) ≤ (i : Int) := by omega
      have hin : (i : Int) < (n : Int) := by omega
      clear hr
      replace x0 : ∀ W, Grow.Cl wr.drew W → _ := fun W h => cell_later (Grow.Cl.base h) x0
      replace x1 : ∀ W, Grow.Cl wr.drew W → _ := fun W h => cell_later (Grow.Cl.base h) x1
      replace x2 : ∀ W, Grow.Cl wr.drew W → _ := fun W h => cell_later (Grow.Cl.base h) x2
      replace x3 : ∀ W, Grow.Cl wr.drew W → _ := fun W h => cell_later (Grow.Cl.base h) x3
      replace x4 : ∀ W, Grow.Cl wr.drew W → _ := fun W h => cell_later (Grow.Cl.base h) x4
      replace y0 : ∀ W, Grow.Cl wr.drew W → _ := fun W h => cell_later (Grow.Cl.base h) y0
      replace y1 : ∀ W, Grow.Cl wr.drew W → _ := fun W h => cell_later (Grow.Cl.base h) y1
      replace y2 : ∀ W, Grow.Cl wr.drew W → _ := fun W h => cell_later (Grow.Cl.base h) y2
      replace y3 : ∀ W, Grow.Cl wr.drew W → _ := fun W h => cell_later (Grow.Cl.base h) y3
      replace y4 : ∀ W, Grow.Cl wr.drew W → _ := fun W h => cell_later (Grow.Cl.base h) y4
      go_upto_region 6 with fail
      clear hd
      (refine Grow.wp_region Grow.noPlan Grow.noPlan_stable (by kernel_rfl) (by kernel_rfl) ?_; intro opsq Hopsq)
      repeat (first | (refine Grow.lex_move rfl ?_ rfl ?_; (· first | exact Grow.wanted_none | (rw [Hopsq.out]; rfl)); intro K hK; simp only [Grow.put_lit, Grow.setAt, Grow.eval_lit, Grow.ev]; refine hK _ _ ?_; clear hK K) | (refine Grow.lex_assign rfl ?_ rfl ?_; (· first | exact Grow.wanted_none | (rw [Hopsq.out]; rfl)); intro K hK; simp only [Grow.put_lit, Grow.setAt, Grow.eval_lit, Grow.ev]; refine hK _ _ ?_; clear hK K) | (refine Grow.lex_plain rfl rfl ?_ rfl ?_; (· first | exact Grow.wanted_none | (rw [Hopsq.out]; rfl)); apply Exists.intro; refine ⟨fun wq hCq _ => ?_, ?_⟩; (· (go_wp2_with fail; refine ⟨rfl, Below.refl _ _, ?_⟩; simp only [Grow.getD_lit, Grow.nth]; rfl)); intro K hK; simp only [Grow.put_lit, Grow.setAt]; refine hK _ _ ?_; clear hK K) | (refine Grow.lex_nilCheck rfl rfl ?_ rfl ?_; (· first | exact Grow.wanted_none | (rw [Hopsq.out]; rfl)); intro K hK; simp only [Grow.put_lit, Grow.setAt]; refine hK _ _ ?_; clear hK K) | (refine Grow.lex_skip ?_ ?_; (· (rw [Hopsq.out]; rfl)); intro K hK; simp only [Grow.put_lit, Grow.setAt]; refine hK _ _ ?_; clear hK K))
      (refine Grow.lex_nil ?_; intro w2 hb2 _; replace hb2 := Grow.Cl.base hb2; clear Hopsq opsq)
      have HB2 := Lib.hid (HB.out.trans (hb2.mono HB.out.size))
      clear hb2 x0 x1 x2 x3 x4 y0 y1 y2 y3 y4
      go_wp2_with fail
      exact ⟨⟨i + 1, by omega, by go_num, HB2.out⟩, by simp [intOf]; omega⟩
    · have hd : decide ((i : Int) < (n : Int)) = false := by simp; omega
      go_wp2_with fail
      go_ret
      exact ⟨rfl, HB.out⟩
set_option maxHeartbeats 2000000 in
theorem lamps_any (m : ImgV) (a : ImgA) (w : World) (he : m.en.length ≤ 200) (hm : RdX w a.e (entCells m.en)) :
    Calls Try.prog 22 #[cvM m a] w fun e w' => e = .returned (cv (ofL (m.en.map E5.key))) ∧ Below w.heap.size w w' := by
  have X0 : Blk (w.alloc (.cells #[.slice a.p m.ph.length a.pc, .slice a.f m.fg.length a.fc, .slice a.l m.lv.length a.lc, .slice a.e m.en.length a.ec] 56)) w.heap.size [.slice a.p m.ph.length a.pc, .slice a.f m.fg.length a.fc, .slice a.l m.lv.length a.lc, .slice a.e m.en.length a.ec] := by
    have hx := Blk.new w [.slice a.p m.ph.length a.pc, .slice a.f m.fg.length a.fc, .slice a.l m.lv.length a.lc, .slice a.e m.en.length a.ec] 56
    exact hx
  replace X0 : Blk ((w.alloc (.cells #[.slice a.p m.ph.length a.pc, .slice a.f m.fg.length a.fc, .slice a.l m.lv.length a.lc, .slice a.e m.en.length a.ec] 56)).alloc (.cells #[.int .u32 0, .int .u32 0] 33)) w.heap.size [.slice a.p m.ph.length a.pc, .slice a.f m.fg.length a.fc, .slice a.l m.lv.length a.lc, .slice a.e m.en.length a.ec] := X0.next (below1' _ _)
  have X1 : Blk ((w.alloc (.cells #[.slice a.p m.ph.length a.pc, .slice a.f m.fg.length a.fc, .slice a.l m.lv.length a.lc, .slice a.e m.en.length a.ec] 56)).alloc (.cells #[.int .u32 0, .int .u32 0] 33)) (w.heap.size + 1) [.int .u32 0, .int .u32 0] := by
    have hx := Blk.new (w.alloc (.cells #[.slice a.p m.ph.length a.pc, .slice a.f m.fg.length a.fc, .slice a.l m.lv.length a.lc, .slice a.e m.en.length a.ec] 56)) [.int .u32 0, .int .u32 0] 33
    rw [World.size_alloc] at hx
    exact hx
  have XW : Below w.heap.size w (w.alloc (.cells #[.slice a.p m.ph.length a.pc, .slice a.f m.fg.length a.fc, .slice a.l m.lv.length a.lc, .slice a.e m.en.length a.ec] 56)) := below1' w _
  replace XW : Below w.heap.size w ((w.alloc (.cells #[.slice a.p m.ph.length a.pc, .slice a.f m.fg.length a.fc, .slice a.l m.lv.length a.lc, .slice a.e m.en.length a.ec] 56)).alloc (.cells #[.int .u32 0, .int .u32 0] 33)) := XW.trans ((below1' _ _).mono XW.size)
  have HWW := Lib.hid XW; have HX0 := Lib.hid X0; have HX1 := Lib.hid X1
  clear XW X0 X1
  have HM := Lib.hid (hm.next HWW.out)
  have HE := Lib.hid he
  clear hm he
  go_enter Try.func22, Try.ntmps22
  go_upto_region 1 with fail
  generalize ((w.alloc (.cells #[.slice a.p m.ph.length a.pc, .slice a.f m.fg.length a.fc, .slice a.l m.lv.length a.lc, .slice a.e m.en.length a.ec] 56)).alloc (.cells #[.int .u32 0, .int .u32 0] 33)) = w0 at *
  generalize hg1 : w.heap.size + 1 = g1 at *
  have HG1 := Lib.hid hg1; have hq1 : w.heap.size + 1 ≤ g1 := by omega
  clear hg1
  have HW := Lib.hid (Below.refl w0.heap.size w0)
  have hz0 := HX0.out.lt; have hz1 := HX1.out.lt
  have y0 := (HX0.out).cell 0 _ rfl
  have y1 := (HX0.out).cell 1 _ rfl
  have y2 := (HX0.out).cell 2 _ rfl
  have y3 := (HX0.out).cell 3 _ rfl
  go_wp2_with fail
  refine (of_any (.slice a.e m.en.length a.ec) m.en _ HE.out (rd_of_en HM.out)).mono ?_
  rintro e w1 ⟨rfl, hb1⟩
  obtain ⟨c, hc⟩ : ∃ c, ofL (m.en.map E5.key) = c := ⟨_, rfl⟩
  rw [hc]
  have HC := Lib.hid hc
  clear hc
  have HY := Lib.hid (HX1.out.next hb1); have HW1 := Lib.hid (HWW.out.trans (hb1.mono HWW.out.size))
  clear hb1 y0 y1 y2 y3 HX0 HX1 HWW HW
  have z0 := (HY.out).cell 0 _ rfl
  have z1 := (HY.out).cell 1 _ rfl
  have f0 := HY.out.fr 0; have f1 := HY.out.fr 1
  go_wp2_with fail
  have R3 := (HY.out.set 0 (.int .u32 (c.1.toNat : Int))).set 1 (.int .u32 (c.2.toNat : Int))
  have r0 := (R3).cell 0 _ rfl
  have r1 := (R3).cell 1 _ rfl
  exact bodyPost_ret (v := cv c) (by simp [results, Try.results22, go_sem, r0, r1]) rfl ⟨by rw [HC.out], (HW1.out.setCell (p := ⟨g1, 0, none⟩) (by show w.heap.size ≤ g1; omega) _).setCell (p := ⟨g1, 1, none⟩) (by show w.heap.size ≤ g1; omega) _⟩
set_option maxHeartbeats 2000000 in
theorem refLamps_any (m : ImgV) (a : ImgA) (w : World) (he : m.en.length ≤ 200) (hm : RdX w a.e (entCells m.en)) :
    Calls Try.prog 23 #[cvM m a] w fun e w' => e = .returned (cv (ofL (m.en.map E5.key))) ∧ Below w.heap.size w w' := by
  have X0 : Blk (w.alloc (.cells #[.slice a.p m.ph.length a.pc, .slice a.f m.fg.length a.fc, .slice a.l m.lv.length a.lc, .slice a.e m.en.length a.ec] 56)) w.heap.size [.slice a.p m.ph.length a.pc, .slice a.f m.fg.length a.fc, .slice a.l m.lv.length a.lc, .slice a.e m.en.length a.ec] := by
    have hx := Blk.new w [.slice a.p m.ph.length a.pc, .slice a.f m.fg.length a.fc, .slice a.l m.lv.length a.lc, .slice a.e m.en.length a.ec] 56
    exact hx
  replace X0 : Blk ((w.alloc (.cells #[.slice a.p m.ph.length a.pc, .slice a.f m.fg.length a.fc, .slice a.l m.lv.length a.lc, .slice a.e m.en.length a.ec] 56)).alloc (.cells #[.int .u32 0, .int .u32 0] 33)) w.heap.size [.slice a.p m.ph.length a.pc, .slice a.f m.fg.length a.fc, .slice a.l m.lv.length a.lc, .slice a.e m.en.length a.ec] := X0.next (below1' _ _)
  have X1 : Blk ((w.alloc (.cells #[.slice a.p m.ph.length a.pc, .slice a.f m.fg.length a.fc, .slice a.l m.lv.length a.lc, .slice a.e m.en.length a.ec] 56)).alloc (.cells #[.int .u32 0, .int .u32 0] 33)) (w.heap.size + 1) [.int .u32 0, .int .u32 0] := by
    have hx := Blk.new (w.alloc (.cells #[.slice a.p m.ph.length a.pc, .slice a.f m.fg.length a.fc, .slice a.l m.lv.length a.lc, .slice a.e m.en.length a.ec] 56)) [.int .u32 0, .int .u32 0] 33
    rw [World.size_alloc] at hx
    exact hx
  have XW : Below w.heap.size w (w.alloc (.cells #[.slice a.p m.ph.length a.pc, .slice a.f m.fg.length a.fc, .slice a.l m.lv.length a.lc, .slice a.e m.en.length a.ec] 56)) := below1' w _
  replace XW : Below w.heap.size w ((w.alloc (.cells #[.slice a.p m.ph.length a.pc, .slice a.f m.fg.length a.fc, .slice a.l m.lv.length a.lc, .slice a.e m.en.length a.ec] 56)).alloc (.cells #[.int .u32 0, .int .u32 0] 33)) := XW.trans ((below1' _ _).mono XW.size)
  have HWW := Lib.hid XW; have HX0 := Lib.hid X0; have HX1 := Lib.hid X1
  clear XW X0 X1
  have HM := Lib.hid (hm.next HWW.out)
  have HE := Lib.hid he
  clear hm he
  go_enter Try.func23, Try.ntmps23
  go_upto_region 1 with fail
  generalize ((w.alloc (.cells #[.slice a.p m.ph.length a.pc, .slice a.f m.fg.length a.fc, .slice a.l m.lv.length a.lc, .slice a.e m.en.length a.ec] 56)).alloc (.cells #[.int .u32 0, .int .u32 0] 33)) = w0 at *
  generalize hg1 : w.heap.size + 1 = g1 at *
  have HG1 := Lib.hid hg1; have hq1 : w.heap.size + 1 ≤ g1 := by omega
  clear hg1
  have HW := Lib.hid (Below.refl w0.heap.size w0)
  have hz0 := HX0.out.lt; have hz1 := HX1.out.lt
  have y0 := (HX0.out).cell 0 _ rfl
  have y1 := (HX0.out).cell 1 _ rfl
  have y2 := (HX0.out).cell 2 _ rfl
  have y3 := (HX0.out).cell 3 _ rfl
  go_wp2_with fail
  refine (refOf_any (.slice a.e m.en.length a.ec) m.en _ HE.out (rd_of_en HM.out)).mono ?_
  rintro e w1 ⟨rfl, hb1⟩
  obtain ⟨c, hc⟩ : ∃ c, ofL (m.en.map E5.key) = c := ⟨_, rfl⟩
  rw [hc]
  have HC := Lib.hid hc
  clear hc
  have HY := Lib.hid (HX1.out.next hb1); have HW1 := Lib.hid (HWW.out.trans (hb1.mono HWW.out.size))
  clear hb1 y0 y1 y2 y3 HX0 HX1 HWW HW
  have z0 := (HY.out).cell 0 _ rfl
  have z1 := (HY.out).cell 1 _ rfl
  have f0 := HY.out.fr 0; have f1 := HY.out.fr 1
  go_wp2_with fail
  have R3 := (HY.out.set 0 (.int .u32 (c.1.toNat : Int))).set 1 (.int .u32 (c.2.toNat : Int))
  have r0 := (R3).cell 0 _ rfl
  have r1 := (R3).cell 1 _ rfl
  exact bodyPost_ret (v := cv c) (by simp [results, Try.results23, go_sem, r0, r1]) rfl ⟨by rw [HC.out], (HW1.out.setCell (p := ⟨g1, 0, none⟩) (by show w.heap.size ≤ g1; omega) _).setCell (p := ⟨g1, 1, none⟩) (by show w.heap.size ≤ g1; omega) _⟩
end Go.Proofs.Ytpgcpalemnnbaaa
