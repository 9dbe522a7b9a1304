/- The walks over inject.Coils and overlayref20.Coils. Conditions: cars and duties that can be read; slack times that are no more than the greatest number less one. -/
import Derived.Test.YtbhhjlemdpefkaaStateHead
import Derived.Test.YtbhhjlemdpefkaaStateRef
import Derived.Test.YtbhhjlemdpefkaaSafe
import Derived.Test.YtbhhjlemdpefkaaValid18
namespace Go.Proofs.Ytbhhjlemdpefkaa
open Go.RowKit
def puOf (b : BldV) (car : Int) : Int := (b.cars[car.toNat]?.map CarV.pu).getD 0
def coilC (pu : Int) (l : List Duty) : CS := l.foldl (fun c d => if d.2.2 < pu then union c (one d.1 d.2.1) else c) (0#32, 0#32)
theorem coilC_snoc (pu : Int) (l : List Duty) (i : Nat) (d : Duty) (h : l[i]? = some d) : coilC pu (l.take (i + 1)) = if d.2.2 < pu then union (coilC pu (l.take i)) (one d.1 d.2.1) else coilC pu (l.take i) := by
  rw [List.take_add_one, h]
  simp [coilC]
def wiredOn (b : BldV) (car p : Int) (s : BelV) : Bool := wiredB p && stateB b car s
def coilV (b : BldV) (car p : Int) (s : BelV) : CS := if wiredOn b car p s then coilC (puOf b car) s.du else (0#32, 0#32)
theorem stateB_car (b : BldV) (car : Int) (s : BelV) (h : stateB b car s = true) : inR 0 ((b.cars.length : Int) - 1) car = true := by
  simp only [stateB, headB, Bool.and_eq_true] at h
  exact h.1.1.1.1.1.1.2
theorem car_pu (b : BldV) (car : Int) (h : inR 0 ((b.cars.length : Int) - 1) car = true) : ∃ c, 0 ≤ car ∧ car < (b.cars.length : Int) ∧ b.cars[car.toNat]? = some c ∧ puOf b car = c.pu := by
  obtain ⟨h0, h1⟩ := (inR_iff _ _ _).1 h
  have hn : car.toNat < b.cars.length := by omega
  exact ⟨b.cars[car.toNat], h0, by omega, List.getElem?_eq_getElem hn, by simp [puOf, hn]⟩
theorem RdC.reg1 {w : World} {q : Option Addr} {l : List CarV} (h : RdC w q l) {i : Nat} {c : CarV} (hi : l[i]? = some c) : ∃ A, q = some A ∧ A.block < w.heap.size ∧ ∀ W, Grow.Cl w.drew W → W.cell? ⟨(A.add (i * 9)).block, (A.add (i * 9)).off + 1, none⟩ = some (.int .i64 c.pu) := by
  obtain ⟨A, hq, hA, hc⟩ := h i c hi
  exact ⟨A, hq, hA, fun W hW => cell_later (Grow.Cl.base hW) (by rw [← addr_one]; exact hc 1 _ rfl)⟩
abbrev kC (c : CS) (o : Bool) : List Value := [.int .u32 (c.1.toNat : Int), .int .u32 (c.2.toNat : Int), .bool o]
set_option maxHeartbeats 4000000 in
set_option maxRecDepth 100000 in
theorem coils_any (b : BldV) (q : Option Addr) (cap : Nat) (car p : Int) (s : BelV) (q' : Option Addr) (cap' : Nat) (w : World) (hlen : b.cars.length ≤ 1000) (hlen' : s.du.length ≤ 1000) (hr : RdC w q b.cars) (hd : RdD w q' s.du) :
    Calls Try.prog 10 #[cvB b q cap, .int .i64 car, .int .i64 p, cvS s q' cap'] w fun e w' => e = .returned (cvK (coilV b car p s) (!wiredOn b car p s)) ∧ Below w.heap.size w w' := by
  have X0 : Blk (w.alloc (.cells #[.int .i64 b.fl, .int .i64 b.deb, .int .i64 b.room, .int .i64 b.park, .float .f64 b.em, .float .f64 b.fu, .float .f64 b.ov, .slice q b.cars.length cap] 31)) w.heap.size [.int .i64 b.fl, .int .i64 b.deb, .int .i64 b.room, .int .i64 b.park, .float .f64 b.em, .float .f64 b.fu, .float .f64 b.ov, .slice q b.cars.length cap] := by
    have hx := Blk.new w [.int .i64 b.fl, .int .i64 b.deb, .int .i64 b.room, .int .i64 b.park, .float .f64 b.em, .float .f64 b.fu, .float .f64 b.ov, .slice q b.cars.length cap] 31
    exact hx
  replace X0 : Blk ((w.alloc (.cells #[.int .i64 b.fl, .int .i64 b.deb, .int .i64 b.room, .int .i64 b.park, .float .f64 b.em, .float .f64 b.fu, .float .f64 b.ov, .slice q b.cars.length cap] 31)).alloc (.cells #[.int .i64 s.fl, .int .i64 s.dir, .int .i64 s.door, .slice q' s.du.length cap', .int .i64 s.still, .bool s.late] 26)) w.heap.size [.int .i64 b.fl, .int .i64 b.deb, .int .i64 b.room, .int .i64 b.park, .float .f64 b.em, .float .f64 b.fu, .float .f64 b.ov, .slice q b.cars.length cap] := X0.next (below1' _ _)
  replace X0 : Blk (((w.alloc (.cells #[.int .i64 b.fl, .int .i64 b.deb, .int .i64 b.room, .int .i64 b.park, .float .f64 b.em, .float .f64 b.fu, .float .f64 b.ov, .slice q b.cars.length cap] 31)).alloc (.cells #[.int .i64 s.fl, .int .i64 s.dir, .int .i64 s.door, .slice q' s.du.length cap', .int .i64 s.still, .bool s.late] 26)).alloc (.cells #[.int .u32 0, .int .u32 0, .bool false] 41)) w.heap.size [.int .i64 b.fl, .int .i64 b.deb, .int .i64 b.room, .int .i64 b.park, .float .f64 b.em, .float .f64 b.fu, .float .f64 b.ov, .slice q b.cars.length cap] := X0.next (below1' _ _)
  have X1 : Blk ((w.alloc (.cells #[.int .i64 b.fl, .int .i64 b.deb, .int .i64 b.room, .int .i64 b.park, .float .f64 b.em, .float .f64 b.fu, .float .f64 b.ov, .slice q b.cars.length cap] 31)).alloc (.cells #[.int .i64 s.fl, .int .i64 s.dir, .int .i64 s.door, .slice q' s.du.length cap', .int .i64 s.still, .bool s.late] 26)) (w.heap.size + 1) [.int .i64 s.fl, .int .i64 s.dir, .int .i64 s.door, .slice q' s.du.length cap', .int .i64 s.still, .bool s.late] := by
    have hx := Blk.new (w.alloc (.cells #[.int .i64 b.fl, .int .i64 b.deb, .int .i64 b.room, .int .i64 b.park, .float .f64 b.em, .float .f64 b.fu, .float .f64 b.ov, .slice q b.cars.length cap] 31)) [.int .i64 s.fl, .int .i64 s.dir, .int .i64 s.door, .slice q' s.du.length cap', .int .i64 s.still, .bool s.late] 26
    rw [World.size_alloc] at hx
    exact hx
  replace X1 : Blk (((w.alloc (.cells #[.int .i64 b.fl, .int .i64 b.deb, .int .i64 b.room, .int .i64 b.park, .float .f64 b.em, .float .f64 b.fu, .float .f64 b.ov, .slice q b.cars.length cap] 31)).alloc (.cells #[.int .i64 s.fl, .int .i64 s.dir, .int .i64 s.door, .slice q' s.du.length cap', .int .i64 s.still, .bool s.late] 26)).alloc (.cells #[.int .u32 0, .int .u32 0, .bool false] 41)) (w.heap.size + 1) [.int .i64 s.fl, .int .i64 s.dir, .int .i64 s.door, .slice q' s.du.length cap', .int .i64 s.still, .bool s.late] := X1.next (below1' _ _)
  have X2 : Blk (((w.alloc (.cells #[.int .i64 b.fl, .int .i64 b.deb, .int .i64 b.room, .int .i64 b.park, .float .f64 b.em, .float .f64 b.fu, .float .f64 b.ov, .slice q b.cars.length cap] 31)).alloc (.cells #[.int .i64 s.fl, .int .i64 s.dir, .int .i64 s.door, .slice q' s.du.length cap', .int .i64 s.still, .bool s.late] 26)).alloc (.cells #[.int .u32 0, .int .u32 0, .bool false] 41)) (w.heap.size + 1 + 1) [.int .u32 0, .int .u32 0, .bool false] := by
    have hx := Blk.new ((w.alloc (.cells #[.int .i64 b.fl, .int .i64 b.deb, .int .i64 b.room, .int .i64 b.park, .float .f64 b.em, .float .f64 b.fu, .float .f64 b.ov, .slice q b.cars.length cap] 31)).alloc (.cells #[.int .i64 s.fl, .int .i64 s.dir, .int .i64 s.door, .slice q' s.du.length cap', .int .i64 s.still, .bool s.late] 26)) [.int .u32 0, .int .u32 0, .bool false] 41
    rw [World.size_alloc, World.size_alloc] at hx
    exact hx
  have XW : Below w.heap.size w (w.alloc (.cells #[.int .i64 b.fl, .int .i64 b.deb, .int .i64 b.room, .int .i64 b.park, .float .f64 b.em, .float .f64 b.fu, .float .f64 b.ov, .slice q b.cars.length cap] 31)) := below1' w _
  replace XW : Below w.heap.size w ((w.alloc (.cells #[.int .i64 b.fl, .int .i64 b.deb, .int .i64 b.room, .int .i64 b.park, .float .f64 b.em, .float .f64 b.fu, .float .f64 b.ov, .slice q b.cars.length cap] 31)).alloc (.cells #[.int .i64 s.fl, .int .i64 s.dir, .int .i64 s.door, .slice q' s.du.length cap', .int .i64 s.still, .bool s.late] 26)) := XW.trans ((below1' _ _).mono XW.size)
  replace XW : Below w.heap.size w (((w.alloc (.cells #[.int .i64 b.fl, .int .i64 b.deb, .int .i64 b.room, .int .i64 b.park, .float .f64 b.em, .float .f64 b.fu, .float .f64 b.ov, .slice q b.cars.length cap] 31)).alloc (.cells #[.int .i64 s.fl, .int .i64 s.dir, .int .i64 s.door, .slice q' s.du.length cap', .int .i64 s.still, .bool s.late] 26)).alloc (.cells #[.int .u32 0, .int .u32 0, .bool false] 41)) := XW.trans ((below1' _ _).mono XW.size)
  have HWW := Lib.hid XW; have HX0 := Lib.hid X0; have HX1 := Lib.hid X1; have HX2 := Lib.hid X2
  clear XW X0 X1 X2
  have HR := Lib.hid (hr.next HWW.out); have HD := Lib.hid (hd.next HWW.out)
  clear hr hd
  have HL1 := Lib.hid hlen; have HL2 := Lib.hid hlen'
  go_enter Try.func10, Try.ntmps10
  go_wp2_with fail
  generalize (((w.alloc (.cells #[.int .i64 b.fl, .int .i64 b.deb, .int .i64 b.room, .int .i64 b.park, .float .f64 b.em, .float .f64 b.fu, .float .f64 b.ov, .slice q b.cars.length cap] 31)).alloc (.cells #[.int .i64 s.fl, .int .i64 s.dir, .int .i64 s.door, .slice q' s.du.length cap', .int .i64 s.still, .bool s.late] 26)).alloc (.cells #[.int .u32 0, .int .u32 0, .bool false] 41)) = w0 at *
  generalize hg2 : w.heap.size + 1 + 1 = g2 at *
  generalize hg1 : w.heap.size + 1 = g1 at *
  have HG1 := Lib.hid hg1; have hq1 : w.heap.size + 1 ≤ g1 := by omega
  have HG2 := Lib.hid hg2; have hq2 : w.heap.size + 2 ≤ g2 := by omega
  clear hg1 hg2
  have HW := Lib.hid (Below.refl w0.heap.size w0)
  have hz0 := HX0.out.lt; have hz1 := HX1.out.lt; have hz2 := HX2.out.lt
  have k0 := (HX0.out).cell 0 _ rfl
  have k1 := (HX0.out).cell 1 _ rfl
  have k2 := (HX0.out).cell 2 _ rfl
  have k3 := (HX0.out).cell 3 _ rfl
  have k4 := (HX0.out).cell 4 _ rfl
  have k5 := (HX0.out).cell 5 _ rfl
  have k6 := (HX0.out).cell 6 _ rfl
  have k7 := (HX0.out).cell 7 _ rfl
  have j0 := (HX1.out).cell 0 _ rfl
  have j1 := (HX1.out).cell 1 _ rfl
  have j2 := (HX1.out).cell 2 _ rfl
  have j3 := (HX1.out).cell 3 _ rfl
  have j4 := (HX1.out).cell 4 _ rfl
  have j5 := (HX1.out).cell 5 _ rfl
  refine (wired_any p _).mono ?_
  rintro e w1 ⟨rfl, hbn⟩
  have HWn := Lib.hid (HW.out.trans (hbn.mono HW.out.size))
  try clear c0
  clear HW hbn
  have HW := HWn
  clear HWn
  have c0 := base_cell HW.out
  have hfin : ∀ (wr : World) (x y : Int) (o : Bool), Below w0.heap.size w0 wr → Blk (((wr.setCell ⟨g2, 0, none⟩ (.int .u32 x)).setCell ⟨g2, 1, none⟩ (.int .u32 y)).setCell ⟨g2, 2, none⟩ (.bool o)) g2 [.int .u32 x, .int .u32 y, .bool o] ∧ Below w.heap.size w (((wr.setCell ⟨g2, 0, none⟩ (.int .u32 x)).setCell ⟨g2, 1, none⟩ (.int .u32 y)).setCell ⟨g2, 2, none⟩ (.bool o)) := by
    intro wr x y o hb
    refine ⟨(((HX2.out.later hb hz2).set 0 _).set 1 _).set 2 _, (((HWW.out.trans (hb.mono HWW.out.size)).setCell (p := ⟨g2, 0, none⟩) (by show w.heap.size ≤ g2; omega) _).setCell (p := ⟨g2, 1, none⟩) (by show w.heap.size ≤ g2; omega) _).setCell (p := ⟨g2, 2, none⟩) (by show w.heap.size ≤ g2; omega) _⟩
  have HF := Lib.hid hfin
  clear hfin
  cases e1 : wiredB p
  · have E1 := Lib.hid e1
    clear e1
    have R1 := HX2.out.later HW.out hz2
    have z0 := (HX2.out).cell 0 _ rfl
    have z1 := (HX2.out).cell 1 _ rfl
    have z2 := (HX2.out).cell 2 _ rfl
    have f0 := R1.fr 0; have f1 := R1.fr 1; have f2 := R1.fr 2
    clear R1
    go_wp2_with fail
    obtain ⟨R8, hbf⟩ := HF.out w1 0 0 true HW.out
    have r0 := (R8).cell 0 _ rfl
    have r1 := (R8).cell 1 _ rfl
    have r2 := (R8).cell 2 _ rfl
    exact bodyPost_ret (v := cvK (0#32, 0#32) true) (by simp [results, Try.results10, go_sem, r0, r1, r2]) rfl ⟨by simp [coilV, wiredOn, E1.out], hbf⟩
  · have E1 := Lib.hid e1
    clear e1
    go_wp2_with fail
    refine (isState_any b q cap car s q' cap' _ HL1.out HL2.out (HR.out.next HW.out) (HD.out.next HW.out)).mono ?_
    rintro e w2 ⟨rfl, hbn⟩
    have HWn := Lib.hid (HW.out.trans (hbn.mono HW.out.size))
    try clear c0
    clear HW hbn
    have HW := HWn
    clear HWn
    have c0 := base_cell HW.out
    cases e2 : stateB b car s
    · have E2 := Lib.hid e2
      clear e2
      have R1 := HX2.out.later HW.out hz2
      have z0 := (HX2.out).cell 0 _ rfl
      have z1 := (HX2.out).cell 1 _ rfl
      have z2 := (HX2.out).cell 2 _ rfl
      have f0 := R1.fr 0; have f1 := R1.fr 1; have f2 := R1.fr 2
      clear R1
      go_wp2_with fail
      obtain ⟨R8, hbf⟩ := HF.out w2 0 0 true HW.out
      have r0 := (R8).cell 0 _ rfl
      have r1 := (R8).cell 1 _ rfl
      have r2 := (R8).cell 2 _ rfl
      exact bodyPost_ret (v := cvK (0#32, 0#32) true) (by simp [results, Try.results10, go_sem, r0, r1, r2]) rfl ⟨by simp [coilV, wiredOn, E1.out, E2.out], hbf⟩
    · have E2 := Lib.hid e2
      obtain ⟨cc, hcn, hcl, hcg, hpu⟩ := car_pu b car (stateB_car _ _ _ e2)
      have hval : coilV b car p s = coilC cc.pu s.du ∧ wiredOn b car p s = true := by simp [coilV, wiredOn, E1.out, E2.out, hpu]
      have X3 := Lib.hid hcg
      have HV := Lib.hid hval
      clear e2 hcg hpu hval
      have C0 := Blk.new w2 [.int .u32 0, .int .u32 0, .bool false] 41
      change Blk (w2.alloc (.cells #[.int .u32 0, .int .u32 0, .bool false] 41)) _ _ at C0
      have hbe := below1' w2 (.cells #[.int .u32 0, .int .u32 0, .bool false] 41)
      have hg9 : w0.heap.size ≤ w2.heap.size := HW.out.size
      have HWn := Lib.hid (HW.out.trans (hbe.mono HW.out.size))
      clear HW c0 hbe
      have HW := HWn
      have c0 := base_cell HW.out
      have HC := Lib.hid C0
      clear C0 HWn
      obtain ⟨n, hn⟩ : ∃ n, n = s.du.length := ⟨_, rfl⟩
      rw [← hn] at hlen'
      have HN := Lib.hid hn
      rw [← hn] at j3
      clear hn
      go_wp2_with fail
      generalize w2.alloc (.cells #[.int .u32 0, .int .u32 0, .bool false] 41) = w3 at *
      generalize w2.heap.size = g9 at *
      go_loopw [26] (fun v wr => ∃ i : Nat, i ≤ n ∧ v = .int .i64 i ∧ Blk wr g9 (kC (coilC cc.pu (s.du.take i)) false) ∧ Below w0.heap.size w0 wr) (fun v _ => n - (intOf v).toNat)
      case atStart => exact ⟨0, by omega, rfl, HC.out, HW.out⟩
      case round =>
        clear c0 HW HC
        obtain ⟨i, hi', rfl, BC, hb⟩ := hrel
        have c0 := base_cell hb
        have HC := Lib.hid BC
        have HW := Lib.hid hb
        clear BC hb
        by_cases hlt : i < n
        · have hd : decide ((i : Int) < (n : Int)) = true := by simp; omega
          obtain ⟨d, hdu⟩ : ∃ d, s.du[i]? = some d := ⟨_, List.getElem?_eq_getElem (by rw [← HN.out]; exact hlt)⟩
          obtain ⟨A, hq, hA, d0, d1, d2⟩ := (HD.out.next HW.out).at hdu
          have X5 := Lib.hid hdu
          subst hq
          clear hdu
          have BD := Blk.new wr d.cells 59
          change Blk (wr.alloc (.cells #[.int .i64 d.1, .int .i64 d.2.1, .int .i64 d.2.2] 59)) _ _ at BD
          have hbe := below1' wr (.cells #[.int .i64 d.1, .int .i64 d.2.1, .int .i64 d.2.2] 59)
          have hwb := HW.out.trans (hbe.mono HW.out.size)
          have HC2 := Lib.hid (HC.out.next hbe)
          have HBD := Lib.hid BD
          have HW2 := Lib.hid hwb
          have hgd : g9 < wr.heap.size := HC.out.lt
          clear BD hbe hwb HC
          go_upto_region 7 with fail
          clear c0 d0 d1 d2 hA hd HW
          generalize hwd : wr.alloc (.cells #[.int .i64 d.1, .int .i64 d.2.1, .int .i64 d.2.2] 59) = wd at *
          clear hwd
          generalize wr.heap.size = gd at *
          have t7 := (HX0.out.later HW2.out hz0).reg 7 _ rfl
          have r0 := (HBD.out).reg 0 _ rfl
          have r1 := (HBD.out).reg 1 _ rfl
          have r2 := (HBD.out).reg 2 _ rfl
          obtain ⟨A', hq2, hA2, q0⟩ := (HR.out.next HW2.out).reg1 X3.out
          have X6 := Lib.hid hA2
          subst hq2
          clear hA2
          (refine Grow.wp_region Grow.noPlan Grow.noPlan_stable (by kernel_rfl) (by kernel_rfl) ?_; intro opsq Hopsq)
          repeat (first | (refine Grow.lex_move rfl ?_ rfl ?_; (· first | exact Grow.wanted_none | (rw [Hopsq.out]; rfl)); intro K hK; simp only [Grow.put_lit, Grow.setAt, Grow.eval_lit, Grow.ev]; refine hK _ _ ?_; clear hK K) | (refine Grow.lex_assign rfl ?_ rfl ?_; (· first | exact Grow.wanted_none | (rw [Hopsq.out]; rfl)); intro K hK; simp only [Grow.put_lit, Grow.setAt, Grow.eval_lit, Grow.ev]; refine hK _ _ ?_; clear hK K) | (refine Grow.lex_plain rfl rfl ?_ rfl ?_; (· first | exact Grow.wanted_none | (rw [Hopsq.out]; rfl)); apply Exists.intro; refine ⟨fun wq hCq _ => ?_, ?_⟩; (· (go_wp2_with fail; refine ⟨rfl, Below.refl _ _, ?_⟩; simp only [Grow.getD_lit, Grow.nth]; rfl)); intro K hK; simp only [Grow.put_lit, Grow.setAt]; refine hK _ _ ?_; clear hK K) | (refine Grow.lex_skip ?_ ?_; (· (rw [Hopsq.out]; rfl)); intro K hK; simp only [Grow.put_lit, Grow.setAt]; refine hK _ _ ?_; clear hK K))
          (refine Grow.lex_nil ?_; intro w7 hb7 _; replace hb7 := Grow.Cl.base hb7; clear Hopsq opsq)
          have HW3 := Lib.hid (HW2.out.trans (hb7.mono HW2.out.size))
          have HBD3 := Lib.hid (HBD.out.next hb7)
          have HC3 := Lib.hid (HC2.out.next hb7)
          have HS := Lib.hid (coilC_snoc cc.pu s.du i d X5.out)
          clear hb7 HBD HW2 HC2 t7 r0 r1 r2 q0
          cases e3 : decide (d.2.2 < cc.pu)
          · have E3 := Lib.hid e3
            go_wp2_with fail
            exact ⟨⟨i + 1, by omega, by go_num, by rw [HS.out, if_neg (by simpa using E3.out)]; exact HC3.out, HW3.out⟩, by simp [intOf]; omega⟩
          · have E3 := Lib.hid e3
            go_upto_region 8 with fail
            clear e3
            generalize hcc : coilC cc.pu (s.du.take i) = c at *
            have r0 := HBD3.out.reg 0 _ rfl
            have r1 := HBD3.out.reg 1 _ rfl
            have s0 := (HC3.out).reg 0 _ rfl
            have s1 := (HC3.out).reg 1 _ rfl
            (refine Grow.wp_region_tail 9 Grow.noPlan Grow.noPlan_stable (by kernel_rfl) (by kernel_rfl) ?_; intro opsq Hopsq; simp only [List.take_succ_cons, List.take_zero, List.drop_succ_cons, List.drop_zero])
            repeat (first | (refine Grow.lex_move rfl ?_ rfl ?_; (· first | exact Grow.wanted_none | (rw [Hopsq.out]; rfl)); intro K hK; simp only [Grow.put_lit, Grow.setAt, Grow.eval_lit, Grow.ev]; refine hK _ _ ?_; clear hK K) | (refine Grow.lex_assign rfl ?_ rfl ?_; (· first | exact Grow.wanted_none | (rw [Hopsq.out]; rfl)); intro K hK; simp only [Grow.put_lit, Grow.setAt, Grow.eval_lit, Grow.ev]; refine hK _ _ ?_; clear hK K) | (refine Grow.lex_plain rfl rfl ?_ rfl ?_; (· first | exact Grow.wanted_none | (rw [Hopsq.out]; rfl)); apply Exists.intro; refine ⟨fun wq hCq _ => ?_, ?_⟩; (· (go_wp2_with fail; refine ⟨rfl, Below.refl _ _, ?_⟩; simp only [Grow.getD_lit, Grow.nth]; rfl)); intro K hK; simp only [Grow.put_lit, Grow.setAt]; refine hK _ _ ?_; clear hK K) | (refine Grow.lex_skip ?_ ?_; (· (rw [Hopsq.out]; rfl)); intro K hK; simp only [Grow.put_lit, Grow.setAt]; refine hK _ _ ?_; clear hK K))
            (refine Grow.lex_call ?_ rfl ?_; (· first | exact Grow.wanted_none | (rw [Hopsq.out]; rfl)); apply Exists.intro; apply Exists.intro; refine ⟨fun wq => ?_, ?_⟩; (· (go_simp; exact ⟨rfl, rfl⟩)); apply Exists.intro; refine ⟨fun wq hCq hKq => ?_, ?_⟩; (· exact one_any d.1 d.2.1 _); intro K hK; simp only [Grow.put_lit, Grow.setAt]; refine hK _ _ ?_; clear hK K)
            repeat (first | (refine Grow.lex_move rfl ?_ rfl ?_; (· first | exact Grow.wanted_none | (rw [Hopsq.out]; rfl)); intro K hK; simp only [Grow.put_lit, Grow.setAt, Grow.eval_lit, Grow.ev]; refine hK _ _ ?_; clear hK K) | (refine Grow.lex_assign rfl ?_ rfl ?_; (· first | exact Grow.wanted_none | (rw [Hopsq.out]; rfl)); intro K hK; simp only [Grow.put_lit, Grow.setAt, Grow.eval_lit, Grow.ev]; refine hK _ _ ?_; clear hK K) | (refine Grow.lex_plain rfl rfl ?_ rfl ?_; (· first | exact Grow.wanted_none | (rw [Hopsq.out]; rfl)); apply Exists.intro; refine ⟨fun wq hCq _ => ?_, ?_⟩; (· (go_wp2_with fail; refine ⟨rfl, Below.refl _ _, ?_⟩; simp only [Grow.getD_lit, Grow.nth]; rfl)); intro K hK; simp only [Grow.put_lit, Grow.setAt]; refine hK _ _ ?_; clear hK K) | (refine Grow.lex_skip ?_ ?_; (· (rw [Hopsq.out]; rfl)); intro K hK; simp only [Grow.put_lit, Grow.setAt]; refine hK _ _ ?_; clear hK K))
            (refine Grow.lex_call ?_ rfl ?_; (· first | exact Grow.wanted_none | (rw [Hopsq.out]; rfl)); apply Exists.intro; apply Exists.intro; refine ⟨fun wq => ?_, ?_⟩; (· (go_simp; exact ⟨rfl, rfl⟩)); apply Exists.intro; refine ⟨fun wq hCq hKq => ?_, ?_⟩; (· exact union_any c (one d.1 d.2.1) _); intro K hK; simp only [Grow.put_lit, Grow.setAt]; refine hK _ _ ?_; clear hK K)
            repeat (first | (refine Grow.lex_move rfl ?_ rfl ?_; (· first | exact Grow.wanted_none | (rw [Hopsq.out]; rfl)); intro K hK; simp only [Grow.put_lit, Grow.setAt, Grow.eval_lit, Grow.ev]; refine hK _ _ ?_; clear hK K) | (refine Grow.lex_assign rfl ?_ rfl ?_; (· first | exact Grow.wanted_none | (rw [Hopsq.out]; rfl)); intro K hK; simp only [Grow.put_lit, Grow.setAt, Grow.eval_lit, Grow.ev]; refine hK _ _ ?_; clear hK K) | (refine Grow.lex_plain rfl rfl ?_ rfl ?_; (· first | exact Grow.wanted_none | (rw [Hopsq.out]; rfl)); apply Exists.intro; refine ⟨fun wq hCq _ => ?_, ?_⟩; (· (go_wp2_with fail; refine ⟨rfl, Below.refl _ _, ?_⟩; simp only [Grow.getD_lit, Grow.nth]; rfl)); intro K hK; simp only [Grow.put_lit, Grow.setAt]; refine hK _ _ ?_; clear hK K) | (refine Grow.lex_skip ?_ ?_; (· (rw [Hopsq.out]; rfl)); intro K hK; simp only [Grow.put_lit, Grow.setAt]; refine hK _ _ ?_; clear hK K))
            (refine Grow.lex_nil ?_; intro w8 hb8 _; replace hb8 := Grow.Cl.base hb8; clear Hopsq opsq)
            have BC := HC3.out.next hb8
            have z0 := (BC).cell 0 _ rfl
            have z1 := (BC).cell 1 _ rfl
            have f0 := BC.fr 0; have f1 := BC.fr 1
            have HC4 := Lib.hid BC
            have HW4 := Lib.hid (HW3.out.trans (hb8.mono HW3.out.size))
            clear BC hb8 r0 r1 s0 s1
            go_wp2_with fail
            refine ⟨⟨i + 1, by omega, by go_num, ?_, (HW4.out.setCell (p := ⟨g9, 0, none⟩) (by show w0.heap.size ≤ g9; omega) _).setCell (p := ⟨g9, 1, none⟩) (by show w0.heap.size ≤ g9; omega) _⟩, by simp [intOf]; omega⟩
            rw [HS.out, if_pos (by simpa using E3.out)]
            exact (HC4.out.set 0 _).set 1 _
        · have hd : decide ((i : Int) < (n : Int)) = false := by simp; omega
          obtain rfl : i = n := by omega
          have ht : s.du.take i = s.du := by rw [HN.out, List.take_length]
          have BC := HC.out
          rw [ht] at BC
          generalize hcc : coilC cc.pu s.du = c at *
          have H0 := Lib.hid hcc
          clear hcc
          have HC2 := Lib.hid BC
          have s0 := (BC).cell 0 _ rfl
          have s1 := (BC).cell 1 _ rfl
          have s2 := (BC).cell 2 _ rfl
          have R1 := HX2.out.later HW.out hz2
          have z0 := (HX2.out).cell 0 _ rfl
          have z1 := (HX2.out).cell 1 _ rfl
          have z2 := (HX2.out).cell 2 _ rfl
          have f0 := R1.fr 0; have f1 := R1.fr 1; have f2 := R1.fr 2
          clear R1 BC ht
          go_wp2_with fail
          obtain ⟨R8, hbf⟩ := HF.out wr (c.1.toNat : Int) (c.2.toNat : Int) false HW.out
          have r0 := (R8).cell 0 _ rfl
          have r1 := (R8).cell 1 _ rfl
          have r2 := (R8).cell 2 _ rfl
          exact bodyPost_ret (v := cvK c false) (by simp [results, Try.results10, go_sem, r0, r1, r2]) rfl ⟨by rw [HV.out.1, HV.out.2, ← H0.out]; rfl, hbf⟩
end Go.Proofs.Ytbhhjlemdpefkaa
