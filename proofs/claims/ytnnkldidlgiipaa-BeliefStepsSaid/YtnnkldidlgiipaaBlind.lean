/- The walks over belief.Blind and belief.Forget. Conditions: cars and duties that can be read. -/
import Derived.Test.YtnnkldidlgiipaaObsC
namespace Go.Proofs.Ytnnkldidlgiipaa
open Go.RowKit
def blindV (b : BldV) (car : Int) (s : BelV) : BelV := if stateB b car s then ⟨s.fl, s.dir, s.door, (agedV b car s (0#32, 0#32)).du, 0, (agedV b car s (0#32, 0#32)).late⟩ else zeroB
def forgetV (b : BldV) (car : Int) (s : BelV) : BelV := if stateB b car s then ⟨s.fl, s.dir, s.door, [], 0, false⟩ else zeroB
set_option maxHeartbeats 4000000 in
set_option maxRecDepth 100000 in
theorem blind_any (b : BldV) (q : Option Addr) (cap : Nat) (car : Int) (s : BelV) (q' : Option Addr) (cap' : Nat) (w : World) (hlen : b.cars.length ≤ 1000) (hlen' : s.du.length ≤ 1000) (hr : RdC w q b.cars) (hd : RdD w q' s.du) :
    Calls Try.prog 36 #[cvB b q cap, .int .i64 car, cvS s q' cap'] w fun e w' => ∃ v, e = .returned v ∧ Below w.heap.size w w' ∧ belE w.heap.size (blindV b car s) (errV (stateB b car s)) v w' := by
  have X0 : Blk (w.alloc (.cells #[.int .i64 b.fl, .int .i64 b.deb, .int .i64 b.room, .int .i64 b.park, .float .f64 b.em, .float .f64 b.fu, .float .f64 b.ov, .slice q b.cars.length cap] 27)) w.heap.size [.int .i64 b.fl, .int .i64 b.deb, .int .i64 b.room, .int .i64 b.park, .float .f64 b.em, .float .f64 b.fu, .float .f64 b.ov, .slice q b.cars.length cap] := by
    have hx := Blk.new w [.int .i64 b.fl, .int .i64 b.deb, .int .i64 b.room, .int .i64 b.park, .float .f64 b.em, .float .f64 b.fu, .float .f64 b.ov, .slice q b.cars.length cap] 27
    exact hx
  replace X0 : Blk ((w.alloc (.cells #[.int .i64 b.fl, .int .i64 b.deb, .int .i64 b.room, .int .i64 b.park, .float .f64 b.em, .float .f64 b.fu, .float .f64 b.ov, .slice q b.cars.length cap] 27)).alloc (.cells #[.int .i64 s.fl, .int .i64 s.dir, .int .i64 s.door, .slice q' s.du.length cap', .int .i64 s.still, .bool s.late] 35)) w.heap.size [.int .i64 b.fl, .int .i64 b.deb, .int .i64 b.room, .int .i64 b.park, .float .f64 b.em, .float .f64 b.fu, .float .f64 b.ov, .slice q b.cars.length cap] := X0.next (below1' _ _)
  replace X0 : Blk (((w.alloc (.cells #[.int .i64 b.fl, .int .i64 b.deb, .int .i64 b.room, .int .i64 b.park, .float .f64 b.em, .float .f64 b.fu, .float .f64 b.ov, .slice q b.cars.length cap] 27)).alloc (.cells #[.int .i64 s.fl, .int .i64 s.dir, .int .i64 s.door, .slice q' s.du.length cap', .int .i64 s.still, .bool s.late] 35)).alloc (.cells #[.int .i64 0, .int .i64 0, .int .i64 0, .slice none 0 0, .int .i64 0, .bool false] 35)) w.heap.size [.int .i64 b.fl, .int .i64 b.deb, .int .i64 b.room, .int .i64 b.park, .float .f64 b.em, .float .f64 b.fu, .float .f64 b.ov, .slice q b.cars.length cap] := X0.next (below1' _ _)
  have X1 : Blk ((w.alloc (.cells #[.int .i64 b.fl, .int .i64 b.deb, .int .i64 b.room, .int .i64 b.park, .float .f64 b.em, .float .f64 b.fu, .float .f64 b.ov, .slice q b.cars.length cap] 27)).alloc (.cells #[.int .i64 s.fl, .int .i64 s.dir, .int .i64 s.door, .slice q' s.du.length cap', .int .i64 s.still, .bool s.late] 35)) (w.heap.size + 1) [.int .i64 s.fl, .int .i64 s.dir, .int .i64 s.door, .slice q' s.du.length cap', .int .i64 s.still, .bool s.late] := by
    have hx := Blk.new (w.alloc (.cells #[.int .i64 b.fl, .int .i64 b.deb, .int .i64 b.room, .int .i64 b.park, .float .f64 b.em, .float .f64 b.fu, .float .f64 b.ov, .slice q b.cars.length cap] 27)) [.int .i64 s.fl, .int .i64 s.dir, .int .i64 s.door, .slice q' s.du.length cap', .int .i64 s.still, .bool s.late] 35
    rw [World.size_alloc] at hx
    exact hx
  replace X1 : Blk (((w.alloc (.cells #[.int .i64 b.fl, .int .i64 b.deb, .int .i64 b.room, .int .i64 b.park, .float .f64 b.em, .float .f64 b.fu, .float .f64 b.ov, .slice q b.cars.length cap] 27)).alloc (.cells #[.int .i64 s.fl, .int .i64 s.dir, .int .i64 s.door, .slice q' s.du.length cap', .int .i64 s.still, .bool s.late] 35)).alloc (.cells #[.int .i64 0, .int .i64 0, .int .i64 0, .slice none 0 0, .int .i64 0, .bool false] 35)) (w.heap.size + 1) [.int .i64 s.fl, .int .i64 s.dir, .int .i64 s.door, .slice q' s.du.length cap', .int .i64 s.still, .bool s.late] := X1.next (below1' _ _)
  have X2 : Blk (((w.alloc (.cells #[.int .i64 b.fl, .int .i64 b.deb, .int .i64 b.room, .int .i64 b.park, .float .f64 b.em, .float .f64 b.fu, .float .f64 b.ov, .slice q b.cars.length cap] 27)).alloc (.cells #[.int .i64 s.fl, .int .i64 s.dir, .int .i64 s.door, .slice q' s.du.length cap', .int .i64 s.still, .bool s.late] 35)).alloc (.cells #[.int .i64 0, .int .i64 0, .int .i64 0, .slice none 0 0, .int .i64 0, .bool false] 35)) (w.heap.size + 1 + 1) [.int .i64 0, .int .i64 0, .int .i64 0, .slice none 0 0, .int .i64 0, .bool false] := by
    have hx := Blk.new ((w.alloc (.cells #[.int .i64 b.fl, .int .i64 b.deb, .int .i64 b.room, .int .i64 b.park, .float .f64 b.em, .float .f64 b.fu, .float .f64 b.ov, .slice q b.cars.length cap] 27)).alloc (.cells #[.int .i64 s.fl, .int .i64 s.dir, .int .i64 s.door, .slice q' s.du.length cap', .int .i64 s.still, .bool s.late] 35)) [.int .i64 0, .int .i64 0, .int .i64 0, .slice none 0 0, .int .i64 0, .bool false] 35
    rw [World.size_alloc, World.size_alloc] at hx
    exact hx
  have XW : Below w.heap.size w (w.alloc (.cells #[.int .i64 b.fl, .int .i64 b.deb, .int .i64 b.room, .int .i64 b.park, .float .f64 b.em, .float .f64 b.fu, .float .f64 b.ov, .slice q b.cars.length cap] 27)) := below1' w _
  replace XW : Below w.heap.size w ((w.alloc (.cells #[.int .i64 b.fl, .int .i64 b.deb, .int .i64 b.room, .int .i64 b.park, .float .f64 b.em, .float .f64 b.fu, .float .f64 b.ov, .slice q b.cars.length cap] 27)).alloc (.cells #[.int .i64 s.fl, .int .i64 s.dir, .int .i64 s.door, .slice q' s.du.length cap', .int .i64 s.still, .bool s.late] 35)) := XW.trans ((below1' _ _).mono XW.size)
  replace XW : Below w.heap.size w (((w.alloc (.cells #[.int .i64 b.fl, .int .i64 b.deb, .int .i64 b.room, .int .i64 b.park, .float .f64 b.em, .float .f64 b.fu, .float .f64 b.ov, .slice q b.cars.length cap] 27)).alloc (.cells #[.int .i64 s.fl, .int .i64 s.dir, .int .i64 s.door, .slice q' s.du.length cap', .int .i64 s.still, .bool s.late] 35)).alloc (.cells #[.int .i64 0, .int .i64 0, .int .i64 0, .slice none 0 0, .int .i64 0, .bool false] 35)) := XW.trans ((below1' _ _).mono XW.size)
  have HWW := Lib.hid XW; have HX0 := Lib.hid X0; have HX1 := Lib.hid X1; have HX2 := Lib.hid X2
  clear XW X0 X1 X2
  have HR := Lib.hid (hr.next HWW.out); have HD := Lib.hid (hd.next HWW.out)
  have HL1 := Lib.hid hlen; have HL2 := Lib.hid hlen'
  clear hr hd hlen hlen'
  go_enter Try.func36, Try.ntmps36
  go_upto_region 1 with fail
  generalize (((w.alloc (.cells #[.int .i64 b.fl, .int .i64 b.deb, .int .i64 b.room, .int .i64 b.park, .float .f64 b.em, .float .f64 b.fu, .float .f64 b.ov, .slice q b.cars.length cap] 27)).alloc (.cells #[.int .i64 s.fl, .int .i64 s.dir, .int .i64 s.door, .slice q' s.du.length cap', .int .i64 s.still, .bool s.late] 35)).alloc (.cells #[.int .i64 0, .int .i64 0, .int .i64 0, .slice none 0 0, .int .i64 0, .bool false] 35)) = w0 at *
  generalize hg2 : w.heap.size + 1 + 1 = g2 at *
  generalize hg1 : w.heap.size + 1 = g1 at *
  have HG1 := Lib.hid hg1; have hq1 : w.heap.size + 1 ≤ g1 := by omega
  have HG2 := Lib.hid hg2; have hq2 : w.heap.size + 2 ≤ g2 := by omega
  clear hg1 hg2
  have HW := Lib.hid (Below.refl w0.heap.size w0)
  have hz0 := HX0.out.lt; have hz1 := HX1.out.lt; have hz2 := HX2.out.lt
  have hg21 : g2 ≠ g1 := by have := HG2.out; omega
  have hG2 : w.heap.size ≤ g2 := by omega
  have hG1 : w.heap.size ≤ g1 := by omega
  have k0 := (HX0.out).cell 0 _ rfl
  have k1 := (HX0.out).cell 1 _ rfl
  have k2 := (HX0.out).cell 2 _ rfl
  have k3 := (HX0.out).cell 3 _ rfl
  have k4 := (HX0.out).cell 4 _ rfl
  have k5 := (HX0.out).cell 5 _ rfl
  have k6 := (HX0.out).cell 6 _ rfl
  have k7 := (HX0.out).cell 7 _ rfl
  have j0 := (HX1.out).cell 0 _ rfl
  have j1 := (HX1.out).cell 1 _ rfl
  have j2 := (HX1.out).cell 2 _ rfl
  have j3 := (HX1.out).cell 3 _ rfl
  have j4 := (HX1.out).cell 4 _ rfl
  have j5 := (HX1.out).cell 5 _ rfl
  have c0 := base_cell HW.out
  go_wp2_with fail
  refine (isState_any b q cap car s q' cap' _ HL1.out HL2.out HR.out HD.out).mono ?_
  rintro e w1 ⟨rfl, hbn⟩
  have HWn := Lib.hid (HW.out.trans (hbn.mono HW.out.size))
  try clear c0
  clear HW hbn
  have HW := HWn
  clear HWn
  have c0 := base_cell HW.out
  cases e1 : stateB b car s
  · have E1 := Lib.hid e1
    clear e1
    have z0 := (HX2.out).cell 0 _ rfl
    have z1 := (HX2.out).cell 1 _ rfl
    have z2 := (HX2.out).cell 2 _ rfl
    have z3 := (HX2.out).cell 3 _ rfl
    have z4 := (HX2.out).cell 4 _ rfl
    have z5 := (HX2.out).cell 5 _ rfl
    have R1 := HX2.out.later HW.out hz2
    have f0 := R1.fr 0; have f1 := R1.fr 1; have f2 := R1.fr 2; have f3 := R1.fr 3; have f4 := R1.fr 4; have f5 := R1.fr 5
    clear R1
    go_wp2_with fail
    have R8 := (((((((HX2.out.later HW.out hz2).set 0 (.int .i64 0)).set 1 (.int .i64 0)).set 2 (.int .i64 0)).set 3 (.slice none 0 0)).set 4 (.int .i64 0)).set 5 (.bool false))
    have r0 := (R8).cell 0 _ rfl
    have r1 := (R8).cell 1 _ rfl
    have r2 := (R8).cell 2 _ rfl
    have r3 := (R8).cell 3 _ rfl
    have r4 := (R8).cell 4 _ rfl
    have r5 := (R8).cell 5 _ rfl
    exact bodyPost_ret (v := .tuple #[cvS zeroB none 0, .int .i64 1]) (by simp [results, Try.results36, go_sem, zeroB, r0, r1, r2, r3, r4, r5]) rfl ⟨_, rfl, ((((((HWW.out.trans (HW.out.mono HWW.out.size)).setCell (p := ⟨g2, 0, none⟩) hG2 _).setCell (p := ⟨g2, 1, none⟩) hG2 _).setCell (p := ⟨g2, 2, none⟩) hG2 _).setCell (p := ⟨g2, 3, none⟩) hG2 _).setCell (p := ⟨g2, 4, none⟩) hG2 _).setCell (p := ⟨g2, 5, none⟩) hG2 _, ⟨none, 0, by unfold blindV errV; rw [E1.out]; rfl, by unfold blindV; rw [E1.out]; exact fun i d h => by simp [zeroB] at h, fun A h => by cases h⟩⟩
  · have HST := Lib.hid e1
    clear e1
    have HVV : Hid (blindV b car s = ⟨s.fl, s.dir, s.door, (agedV b car s (0#32, 0#32)).du, 0, (agedV b car s (0#32, 0#32)).late⟩) := Lib.hid (by unfold blindV; rw [HST.out, if_pos rfl])
    obtain ⟨cc, hcn, hcl, hcg, hdl⟩ := car_at b car (stateB_car _ _ _ HST.out)
    have hdm := valid_dl b (state_valid _ _ _ HST.out) _ _ hcg
    have hages : ∀ (i : Nat) (d : Duty), s.du[i]? = some d → 0 ≤ d.2.2 ∧ d.2.2 ≤ cc.dl := fun i d h => by
      have := state_ages b car s HST.out i d h
      rw [hdl] at this
      exact ⟨this.1, this.2.1⟩
    have hvd : (agedV b car s (0#32, 0#32)).du = agedOut cc.dl (0#32, 0#32) s.du ∧ (agedV b car s (0#32, 0#32)).late = agedLate cc.dl s.du := by unfold agedV agedOut; rw [hdl]; exact ⟨rfl, rfl⟩
    have X3 := Lib.hid hcg; have HAG := Lib.hid hages; have HVD := Lib.hid hvd
    clear hcg hdl hages hvd
    generalize (agedV b car s (0#32, 0#32)).du = D at *
    generalize (agedV b car s (0#32, 0#32)).late = lt at *
    have hlo : w0.heap.size ≤ w1.heap.size := HW.out.size
    go_upto_region 3 with fail
    clear c0 k0 k1 k2 k3 k4 k5 k6 k7 j0 j1 j2 j3 j4 j5
    have t0 := ((HX0.out.later HW.out hz0)).reg 0 _ rfl
    have t1 := ((HX0.out.later HW.out hz0)).reg 1 _ rfl
    have t2 := ((HX0.out.later HW.out hz0)).reg 2 _ rfl
    have t3 := ((HX0.out.later HW.out hz0)).reg 3 _ rfl
    have t4 := ((HX0.out.later HW.out hz0)).reg 4 _ rfl
    have t5 := ((HX0.out.later HW.out hz0)).reg 5 _ rfl
    have t6 := ((HX0.out.later HW.out hz0)).reg 6 _ rfl
    have t7 := ((HX0.out.later HW.out hz0)).reg 7 _ rfl
    have u0 := ((HX1.out.later HW.out hz1)).reg 0 _ rfl
    have u1 := ((HX1.out.later HW.out hz1)).reg 1 _ rfl
    have u2 := ((HX1.out.later HW.out hz1)).reg 2 _ rfl
    have u3 := ((HX1.out.later HW.out hz1)).reg 3 _ rfl
    have u4 := ((HX1.out.later HW.out hz1)).reg 4 _ rfl
    have u5 := ((HX1.out.later HW.out hz1)).reg 5 _ rfl
    obtain ⟨A', hq2, hA2, q0⟩ := (HR.out.next HW.out).reg0 X3.out
    subst hq2
    clear hA2
    (refine Grow.wp_region_rest 10 7 (relPlan 9 (agedT w0.heap.size D lt)) (relPlan_stable 9 _ (agedT_stable w0.heap.size D lt)) (by kernel_rfl) (by kernel_rfl) ?_; intro opsq Hopsq; simp only [List.take_succ_cons, List.take_zero])
    repeat (first | (refine Grow.lex_move rfl ?_ rfl ?_; (· first | exact Grow.wanted_none | (rw [Hopsq.out]; rfl)); intro K hK; simp only [Grow.put_lit, Grow.setAt, Grow.eval_lit, Grow.ev]; refine hK _ _ ?_; clear hK K) | (refine Grow.lex_assign rfl ?_ rfl ?_; (· first | exact Grow.wanted_none | (rw [Hopsq.out]; rfl)); intro K hK; simp only [Grow.put_lit, Grow.setAt, Grow.eval_lit, Grow.ev]; refine hK _ _ ?_; clear hK K) | (refine Grow.lex_plain rfl rfl ?_ rfl ?_; (· first | exact Grow.wanted_none | (rw [Hopsq.out]; rfl)); apply Exists.intro; refine ⟨fun wq hCq _ => ?_, ?_⟩; (· (go_wp2_with fail; refine ⟨rfl, Below.refl _ _, ?_⟩; simp only [Grow.getD_lit, Grow.nth]; rfl)); intro K hK; simp only [Grow.put_lit, Grow.setAt]; refine hK _ _ ?_; clear hK K) | (refine Grow.lex_nilCheck rfl rfl ?_ rfl ?_; (· first | exact Grow.wanted_none | (rw [Hopsq.out]; rfl)); intro K hK; simp only [Grow.put_lit, Grow.setAt]; refine hK _ _ ?_; clear hK K) | (refine Grow.lex_skip ?_ ?_; (· (rw [Hopsq.out]; rfl)); intro K hK; simp only [Grow.put_lit, Grow.setAt]; refine hK _ _ ?_; clear hK K))
    (refine Grow.lex_callR (r := (fun _ v w => agedT w0.heap.size D lt v w)) ?_ rfl ?_; (· first | exact Grow.wanted_none | (rw [Hopsq.out]; rfl)); apply Exists.intro; apply Exists.intro; refine ⟨fun wq => ?_, ?_, ?_⟩; (· (go_simp; exact ⟨rfl, rfl⟩)); (· (intro wq hCq hKq; exact (aged_any s.du q' cap' cc.dl (0#32, 0#32) _ HL2.out hdm HAG.out ((HD.out.next HW.out).next (Grow.Cl.base hCq))).mono (fun e w' ⟨v, he, hb, hR⟩ => ⟨v, he, hb, by rw [HVD.out.1, HVD.out.2]; exact agedT_lo hR (Nat.le_trans hlo (Grow.Cl.base hCq).size)⟩))); intro vq hWq; obtain ⟨_, _, hTT⟩ := hWq; obtain ⟨q9, cap9, hvq⟩ := agedT_form (Grow.Holds.of_upd hTT).2; subst hvq; clear hTT; intro K hK; simp only [Grow.put_lit, Grow.setAt]; refine hK _ _ ?_; clear hK K)
    refine Grow.lex_nil ?_
    intro w8 hb8 hTq
    obtain ⟨hrd9, hlo9⟩ := agedT_out (Grow.Holds.of_upd hTq).2
    replace hb8 := Grow.Cl.base hb8
    clear hTq Hopsq opsq
    clear t0 t1 t2 t3 t4 t5 t6 t7 u0 u1 u2 u3 u4 u5 q0
    have HW3 := Lib.hid (HW.out.trans (hb8.mono HW.out.size))
    have HRD := Lib.hid hrd9
    have hlo1 : ∀ A, q9 = some A → A.block ≠ g1 := fun A hA => by have := hlo9 A hA; omega
    have hlo2 : ∀ A, q9 = some A → A.block ≠ g2 := fun A hA => by have := hlo9 A hA; omega
    have hloW : ∀ A, q9 = some A → w.heap.size ≤ A.block := fun A hA => Nat.le_trans HWW.out.size (hlo9 A hA)
    have HLO1 := Lib.hid hlo1; have HLO2 := Lib.hid hlo2; have HLOW := Lib.hid hloW
    clear hlo1 hlo2 hloW hlo9 hb8 hrd9 HW
    have BS := HX1.out.later HW3.out hz1
    have j3 := (BS).cell 3 _ rfl
    have j5 := (BS).cell 5 _ rfl
    have e3 := BS.fr 3; have e5 := BS.fr 5
    clear BS
    (refine wpAny_take (i := 10) (v := ?_) rfl (by kernel_rfl) (by kernel_rfl) (by kernel_rfl) (fun _ _ _ h => h) (Or.inl ⟨by rfl, ?_⟩) ?_; rotate_left 1; (· (intro W; first | (go_simp; done) | (go_simp; with_reducible rfl) | (go_simp; rfl))); try simp only [Grow.put_lit, Grow.setAt])
    (refine wpAny_take (i := 11) (v := ?_) rfl (by kernel_rfl) (by kernel_rfl) (by kernel_rfl) (fun _ _ _ h => h) (Or.inl ⟨by rfl, ?_⟩) ?_; rotate_left 1; (· (intro W; first | (go_simp; done) | (go_simp; with_reducible rfl) | (go_simp; rfl))); try simp only [Grow.put_lit, Grow.setAt])
    (refine wpAny_take (i := 12) (v := ?_) rfl (by kernel_rfl) (by kernel_rfl) (by kernel_rfl) (fun _ _ _ h => h) (Or.inl ⟨by rfl, ?_⟩) ?_; rotate_left 1; (· (intro W; first | (go_simp; done) | (go_simp; with_reducible rfl) | (go_simp; rfl))); try simp only [Grow.put_lit, Grow.setAt])
    (refine wpAny_take (i := 13) (v := ?_) rfl (by kernel_rfl) (by kernel_rfl) (by kernel_rfl) (fun _ _ _ h => h) (Or.inl ⟨by rfl, ?_⟩) ?_; rotate_left 1; (· (intro W; first | (go_simp; done) | (go_simp; with_reducible rfl) | (go_simp; rfl))); try simp only [Grow.put_lit, Grow.setAt])
    (refine wpAny_ready (rs := [14]) (by kernel_rfl) (by simp) ?_; refine AllReady.cons rfl (fun K hK => ?_) AllReady.nil; go_simp; refine hK _ _ ?_; clear hK K; try simp only [Grow.put_lit, Grow.setAt])
    (refine wpAny_take (i := 15) (v := ?_) rfl (by kernel_rfl) (by kernel_rfl) (by kernel_rfl) (fun _ _ _ h => h) (Or.inl ⟨by rfl, ?_⟩) ?_; rotate_left 1; (· (intro W; first | (go_simp; done) | (go_simp; with_reducible rfl) | (go_simp; rfl))); try simp only [Grow.put_lit, Grow.setAt])
    (refine wpAny_ready (rs := [16]) (by kernel_rfl) (by simp) ?_; refine AllReady.cons rfl (fun K hK => ?_) AllReady.nil; go_simp; refine hK _ _ ?_; clear hK K; try simp only [Grow.put_lit, Grow.setAt])
    refine wpAny_done (by kernel_rfl) ?_ _
    have S4 : Blk ((w8.setCell ⟨g1, 3, none⟩ (.slice q9 D.length cap9)).setCell ⟨g1, 5, none⟩ (.bool lt)) g1 [.int .i64 s.fl, .int .i64 s.dir, .int .i64 s.door, .slice q9 D.length cap9, .int .i64 s.still, .bool lt] := ((HX1.out.later HW3.out hz1).set 3 (.slice q9 D.length cap9)).set 5 (.bool lt)
    have R4 := ((HX2.out.later HW3.out hz2).other (i := 3) hg21 (.slice q9 D.length cap9)).other (i := 5) hg21 (.bool lt)
    have D4 := (HRD.out.set (g := g1) (i := 3) (u := .slice q9 D.length cap9) HLO1.out).set (g := g1) (i := 5) (u := .bool lt) HLO1.out
    have W4 := ((HWW.out.trans (HW3.out.mono HWW.out.size)).setCell (p := ⟨g1, 3, none⟩) hG1 (.slice q9 D.length cap9)).setCell (p := ⟨g1, 5, none⟩) hG1 (.bool lt)
    have HS := Lib.hid S4; have HRS := Lib.hid R4; have HD4 := Lib.hid D4; have HW4 := Lib.hid W4
    clear S4 R4 D4 W4 HW3 HRD j3 j5 e3 e5
    generalize ((w8.setCell ⟨g1, 3, none⟩ (.slice q9 D.length cap9)).setCell ⟨g1, 5, none⟩ (.bool lt)) = w4 at *
    have j0 := (HS.out).cell 0 _ rfl
    have j1 := (HS.out).cell 1 _ rfl
    have j2 := (HS.out).cell 2 _ rfl
    have j3 := (HS.out).cell 3 _ rfl
    have j4 := (HS.out).cell 4 _ rfl
    have j5 := (HS.out).cell 5 _ rfl
    have e4 := HS.out.fr 4
    go_upto_region 5 with fail
    have HS5 := Lib.hid (HS.out.set 4 (.int .i64 0))
    have HR5 := Lib.hid (HRS.out.other (i := 4) hg21 (.int .i64 0))
    have HD5 := Lib.hid (HD4.out.set (g := g1) (i := 4) (u := .int .i64 0) HLO1.out)
    have HW5 := Lib.hid (HW4.out.setCell (p := ⟨g1, 4, none⟩) hG1 (.int .i64 0))
    clear HS HRS HD4 HW4 j0 j1 j2 j3 j4 j5 e4
    change Hid (Blk _ g1 [.int .i64 s.fl, .int .i64 s.dir, .int .i64 s.door, .slice q9 D.length cap9, .int .i64 0, .bool lt]) at HS5
    generalize w4.setCell ⟨g1, 4, none⟩ (.int .i64 0) = w5 at *
    have j0 := (HS5.out).cell 0 _ rfl
    have j1 := (HS5.out).cell 1 _ rfl
    have j2 := (HS5.out).cell 2 _ rfl
    have j3 := (HS5.out).cell 3 _ rfl
    have j4 := (HS5.out).cell 4 _ rfl
    have j5 := (HS5.out).cell 5 _ rfl
    have z0 := (HR5.out).cell 0 _ rfl
    have z1 := (HR5.out).cell 1 _ rfl
    have z2 := (HR5.out).cell 2 _ rfl
    have z3 := (HR5.out).cell 3 _ rfl
    have z4 := (HR5.out).cell 4 _ rfl
    have z5 := (HR5.out).cell 5 _ rfl
    have f0 := HR5.out.fr 0; have f1 := HR5.out.fr 1; have f2 := HR5.out.fr 2; have f3 := HR5.out.fr 3; have f4 := HR5.out.fr 4; have f5 := HR5.out.fr 5
    go_wp2_with fail
    have R8 := (((((HR5.out.set 0 (.int .i64 s.fl)).set 1 (.int .i64 s.dir)).set 2 (.int .i64 s.door)).set 3 (.slice q9 D.length cap9)).set 4 (.int .i64 0)).set 5 (.bool lt)
    have r0 := (R8).cell 0 _ rfl
    have r1 := (R8).cell 1 _ rfl
    have r2 := (R8).cell 2 _ rfl
    have r3 := (R8).cell 3 _ rfl
    have r4 := (R8).cell 4 _ rfl
    have r5 := (R8).cell 5 _ rfl
    exact bodyPost_ret (v := .tuple #[cvS ⟨s.fl, s.dir, s.door, D, 0, lt⟩ q9 cap9, .int .i64 0]) (by simp [results, Try.results36, go_sem, r0, r1, r2, r3, r4, r5]) rfl ⟨_, rfl, (((((HW5.out.setCell (p := ⟨g2, 0, none⟩) hG2 _).setCell (p := ⟨g2, 1, none⟩) hG2 _).setCell (p := ⟨g2, 2, none⟩) hG2 _).setCell (p := ⟨g2, 3, none⟩) hG2 _).setCell (p := ⟨g2, 4, none⟩) hG2 _).setCell (p := ⟨g2, 5, none⟩) hG2 _, ⟨q9, cap9, by rw [HVV.out, HST.out]; rfl, by rw [HVV.out]; exact (((((HD5.out.set HLO2.out).set HLO2.out).set HLO2.out).set HLO2.out).set HLO2.out).set HLO2.out, HLOW.out⟩⟩
set_option maxHeartbeats 4000000 in
set_option maxRecDepth 100000 in
theorem forget_any (b : BldV) (q : Option Addr) (cap : Nat) (car : Int) (s : BelV) (q' : Option Addr) (cap' : Nat) (w : World) (hlen : b.cars.length ≤ 1000) (hlen' : s.du.length ≤ 1000) (hr : RdC w q b.cars) (hd : RdD w q' s.du) :
    Calls Try.prog 38 #[cvB b q cap, .int .i64 car, cvS s q' cap'] w fun e w' => ∃ v, e = .returned v ∧ Below w.heap.size w w' ∧ belE w.heap.size (forgetV b car s) (errV (stateB b car s)) v w' := by
  have X0 : Blk (w.alloc (.cells #[.int .i64 b.fl, .int .i64 b.deb, .int .i64 b.room, .int .i64 b.park, .float .f64 b.em, .float .f64 b.fu, .float .f64 b.ov, .slice q b.cars.length cap] 27)) w.heap.size [.int .i64 b.fl, .int .i64 b.deb, .int .i64 b.room, .int .i64 b.park, .float .f64 b.em, .float .f64 b.fu, .float .f64 b.ov, .slice q b.cars.length cap] := by
    have hx := Blk.new w [.int .i64 b.fl, .int .i64 b.deb, .int .i64 b.room, .int .i64 b.park, .float .f64 b.em, .float .f64 b.fu, .float .f64 b.ov, .slice q b.cars.length cap] 27
    exact hx
  replace X0 : Blk ((w.alloc (.cells #[.int .i64 b.fl, .int .i64 b.deb, .int .i64 b.room, .int .i64 b.park, .float .f64 b.em, .float .f64 b.fu, .float .f64 b.ov, .slice q b.cars.length cap] 27)).alloc (.cells #[.int .i64 s.fl, .int .i64 s.dir, .int .i64 s.door, .slice q' s.du.length cap', .int .i64 s.still, .bool s.late] 35)) w.heap.size [.int .i64 b.fl, .int .i64 b.deb, .int .i64 b.room, .int .i64 b.park, .float .f64 b.em, .float .f64 b.fu, .float .f64 b.ov, .slice q b.cars.length cap] := X0.next (below1' _ _)
  replace X0 : Blk (((w.alloc (.cells #[.int .i64 b.fl, .int .i64 b.deb, .int .i64 b.room, .int .i64 b.park, .float .f64 b.em, .float .f64 b.fu, .float .f64 b.ov, .slice q b.cars.length cap] 27)).alloc (.cells #[.int .i64 s.fl, .int .i64 s.dir, .int .i64 s.door, .slice q' s.du.length cap', .int .i64 s.still, .bool s.late] 35)).alloc (.cells #[.int .i64 0, .int .i64 0, .int .i64 0, .slice none 0 0, .int .i64 0, .bool false] 35)) w.heap.size [.int .i64 b.fl, .int .i64 b.deb, .int .i64 b.room, .int .i64 b.park, .float .f64 b.em, .float .f64 b.fu, .float .f64 b.ov, .slice q b.cars.length cap] := X0.next (below1' _ _)
  have X1 : Blk ((w.alloc (.cells #[.int .i64 b.fl, .int .i64 b.deb, .int .i64 b.room, .int .i64 b.park, .float .f64 b.em, .float .f64 b.fu, .float .f64 b.ov, .slice q b.cars.length cap] 27)).alloc (.cells #[.int .i64 s.fl, .int .i64 s.dir, .int .i64 s.door, .slice q' s.du.length cap', .int .i64 s.still, .bool s.late] 35)) (w.heap.size + 1) [.int .i64 s.fl, .int .i64 s.dir, .int .i64 s.door, .slice q' s.du.length cap', .int .i64 s.still, .bool s.late] := by
    have hx := Blk.new (w.alloc (.cells #[.int .i64 b.fl, .int .i64 b.deb, .int .i64 b.room, .int .i64 b.park, .float .f64 b.em, .float .f64 b.fu, .float .f64 b.ov, .slice q b.cars.length cap] 27)) [.int .i64 s.fl, .int .i64 s.dir, .int .i64 s.door, .slice q' s.du.length cap', .int .i64 s.still, .bool s.late] 35
    rw [World.size_alloc] at hx
    exact hx
  replace X1 : Blk (((w.alloc (.cells #[.int .i64 b.fl, .int .i64 b.deb, .int .i64 b.room, .int .i64 b.park, .float .f64 b.em, .float .f64 b.fu, .float .f64 b.ov, .slice q b.cars.length cap] 27)).alloc (.cells #[.int .i64 s.fl, .int .i64 s.dir, .int .i64 s.door, .slice q' s.du.length cap', .int .i64 s.still, .bool s.late] 35)).alloc (.cells #[.int .i64 0, .int .i64 0, .int .i64 0, .slice none 0 0, .int .i64 0, .bool false] 35)) (w.heap.size + 1) [.int .i64 s.fl, .int .i64 s.dir, .int .i64 s.door, .slice q' s.du.length cap', .int .i64 s.still, .bool s.late] := X1.next (below1' _ _)
  have X2 : Blk (((w.alloc (.cells #[.int .i64 b.fl, .int .i64 b.deb, .int .i64 b.room, .int .i64 b.park, .float .f64 b.em, .float .f64 b.fu, .float .f64 b.ov, .slice q b.cars.length cap] 27)).alloc (.cells #[.int .i64 s.fl, .int .i64 s.dir, .int .i64 s.door, .slice q' s.du.length cap', .int .i64 s.still, .bool s.late] 35)).alloc (.cells #[.int .i64 0, .int .i64 0, .int .i64 0, .slice none 0 0, .int .i64 0, .bool false] 35)) (w.heap.size + 1 + 1) [.int .i64 0, .int .i64 0, .int .i64 0, .slice none 0 0, .int .i64 0, .bool false] := by
    have hx := Blk.new ((w.alloc (.cells #[.int .i64 b.fl, .int .i64 b.deb, .int .i64 b.room, .int .i64 b.park, .float .f64 b.em, .float .f64 b.fu, .float .f64 b.ov, .slice q b.cars.length cap] 27)).alloc (.cells #[.int .i64 s.fl, .int .i64 s.dir, .int .i64 s.door, .slice q' s.du.length cap', .int .i64 s.still, .bool s.late] 35)) [.int .i64 0, .int .i64 0, .int .i64 0, .slice none 0 0, .int .i64 0, .bool false] 35
    rw [World.size_alloc, World.size_alloc] at hx
    exact hx
  have XW : Below w.heap.size w (w.alloc (.cells #[.int .i64 b.fl, .int .i64 b.deb, .int .i64 b.room, .int .i64 b.park, .float .f64 b.em, .float .f64 b.fu, .float .f64 b.ov, .slice q b.cars.length cap] 27)) := below1' w _
  replace XW : Below w.heap.size w ((w.alloc (.cells #[.int .i64 b.fl, .int .i64 b.deb, .int .i64 b.room, .int .i64 b.park, .float .f64 b.em, .float .f64 b.fu, .float .f64 b.ov, .slice q b.cars.length cap] 27)).alloc (.cells #[.int .i64 s.fl, .int .i64 s.dir, .int .i64 s.door, .slice q' s.du.length cap', .int .i64 s.still, .bool s.late] 35)) := XW.trans ((below1' _ _).mono XW.size)
  replace XW : Below w.heap.size w (((w.alloc (.cells #[.int .i64 b.fl, .int .i64 b.deb, .int .i64 b.room, .int .i64 b.park, .float .f64 b.em, .float .f64 b.fu, .float .f64 b.ov, .slice q b.cars.length cap] 27)).alloc (.cells #[.int .i64 s.fl, .int .i64 s.dir, .int .i64 s.door, .slice q' s.du.length cap', .int .i64 s.still, .bool s.late] 35)).alloc (.cells #[.int .i64 0, .int .i64 0, .int .i64 0, .slice none 0 0, .int .i64 0, .bool false] 35)) := XW.trans ((below1' _ _).mono XW.size)
  have HWW := Lib.hid XW; have HX0 := Lib.hid X0; have HX1 := Lib.hid X1; have HX2 := Lib.hid X2
  clear XW X0 X1 X2
  have HR := Lib.hid (hr.next HWW.out); have HD := Lib.hid (hd.next HWW.out)
  have HL1 := Lib.hid hlen; have HL2 := Lib.hid hlen'
  clear hr hd hlen hlen'
  go_enter Try.func38, Try.ntmps38
  go_upto_region 1 with fail
  generalize (((w.alloc (.cells #[.int .i64 b.fl, .int .i64 b.deb, .int .i64 b.room, .int .i64 b.park, .float .f64 b.em, .float .f64 b.fu, .float .f64 b.ov, .slice q b.cars.length cap] 27)).alloc (.cells #[.int .i64 s.fl, .int .i64 s.dir, .int .i64 s.door, .slice q' s.du.length cap', .int .i64 s.still, .bool s.late] 35)).alloc (.cells #[.int .i64 0, .int .i64 0, .int .i64 0, .slice none 0 0, .int .i64 0, .bool false] 35)) = w0 at *
  generalize hg2 : w.heap.size + 1 + 1 = g2 at *
  generalize hg1 : w.heap.size + 1 = g1 at *
  have HG1 := Lib.hid hg1; have hq1 : w.heap.size + 1 ≤ g1 := by omega
  have HG2 := Lib.hid hg2; have hq2 : w.heap.size + 2 ≤ g2 := by omega
  clear hg1 hg2
  have HW := Lib.hid (Below.refl w0.heap.size w0)
  have hz0 := HX0.out.lt; have hz1 := HX1.out.lt; have hz2 := HX2.out.lt
  have hg21 : g2 ≠ g1 := by have := HG2.out; omega
  have hG2 : w.heap.size ≤ g2 := by omega
  have hG1 : w.heap.size ≤ g1 := by omega
  have k0 := (HX0.out).cell 0 _ rfl
  have k1 := (HX0.out).cell 1 _ rfl
  have k2 := (HX0.out).cell 2 _ rfl
  have k3 := (HX0.out).cell 3 _ rfl
  have k4 := (HX0.out).cell 4 _ rfl
  have k5 := (HX0.out).cell 5 _ rfl
  have k6 := (HX0.out).cell 6 _ rfl
  have k7 := (HX0.out).cell 7 _ rfl
  have j0 := (HX1.out).cell 0 _ rfl
  have j1 := (HX1.out).cell 1 _ rfl
  have j2 := (HX1.out).cell 2 _ rfl
  have j3 := (HX1.out).cell 3 _ rfl
  have j4 := (HX1.out).cell 4 _ rfl
  have j5 := (HX1.out).cell 5 _ rfl
  have c0 := base_cell HW.out
  go_wp2_with fail
  refine (isState_any b q cap car s q' cap' _ HL1.out HL2.out HR.out HD.out).mono ?_
  rintro e w1 ⟨rfl, hbn⟩
  have HWn := Lib.hid (HW.out.trans (hbn.mono HW.out.size))
  try clear c0
  clear HW hbn
  have HW := HWn
  clear HWn
  have c0 := base_cell HW.out
  cases e1 : stateB b car s
  · have E1 := Lib.hid e1
    clear e1
    have z0 := (HX2.out).cell 0 _ rfl
    have z1 := (HX2.out).cell 1 _ rfl
    have z2 := (HX2.out).cell 2 _ rfl
    have z3 := (HX2.out).cell 3 _ rfl
    have z4 := (HX2.out).cell 4 _ rfl
    have z5 := (HX2.out).cell 5 _ rfl
    have R1 := HX2.out.later HW.out hz2
    have f0 := R1.fr 0; have f1 := R1.fr 1; have f2 := R1.fr 2; have f3 := R1.fr 3; have f4 := R1.fr 4; have f5 := R1.fr 5
    clear R1
    go_wp2_with fail
    have R8 := (((((((HX2.out.later HW.out hz2).set 0 (.int .i64 0)).set 1 (.int .i64 0)).set 2 (.int .i64 0)).set 3 (.slice none 0 0)).set 4 (.int .i64 0)).set 5 (.bool false))
    have r0 := (R8).cell 0 _ rfl
    have r1 := (R8).cell 1 _ rfl
    have r2 := (R8).cell 2 _ rfl
    have r3 := (R8).cell 3 _ rfl
    have r4 := (R8).cell 4 _ rfl
    have r5 := (R8).cell 5 _ rfl
    exact bodyPost_ret (v := .tuple #[cvS zeroB none 0, .int .i64 1]) (by simp [results, Try.results38, go_sem, zeroB, r0, r1, r2, r3, r4, r5]) rfl ⟨_, rfl, ((((((HWW.out.trans (HW.out.mono HWW.out.size)).setCell (p := ⟨g2, 0, none⟩) hG2 _).setCell (p := ⟨g2, 1, none⟩) hG2 _).setCell (p := ⟨g2, 2, none⟩) hG2 _).setCell (p := ⟨g2, 3, none⟩) hG2 _).setCell (p := ⟨g2, 4, none⟩) hG2 _).setCell (p := ⟨g2, 5, none⟩) hG2 _, ⟨none, 0, by unfold forgetV errV; rw [E1.out]; rfl, by unfold forgetV; rw [E1.out]; exact fun i d h => by simp [zeroB] at h, fun A h => by cases h⟩⟩
  · have HST := Lib.hid e1
    clear e1
    have HVV : Hid (forgetV b car s = ⟨s.fl, s.dir, s.door, [], 0, false⟩) := Lib.hid (by unfold forgetV; rw [HST.out, if_pos rfl])
    have BS := HX1.out.later HW.out hz1
    have e3 := BS.fr 3; have e4 := BS.fr 4; have e5 := BS.fr 5
    clear BS
    go_upto_region 4 with fail
    have S4 : Blk (((w1.setCell ⟨g1, 3, none⟩ (.slice none 0 0)).setCell ⟨g1, 5, none⟩ (.bool false)).setCell ⟨g1, 4, none⟩ (.int .i64 0)) g1 [.int .i64 s.fl, .int .i64 s.dir, .int .i64 s.door, .slice none 0 0, .int .i64 0, .bool false] := (((HX1.out.later HW.out hz1).set 3 (.slice none 0 0)).set 5 (.bool false)).set 4 (.int .i64 0)
    have R4 := (((HX2.out.later HW.out hz2).other (i := 3) hg21 (.slice none 0 0)).other (i := 5) hg21 (.bool false)).other (i := 4) hg21 (.int .i64 0)
    have W4 := (((HWW.out.trans (HW.out.mono HWW.out.size)).setCell (p := ⟨g1, 3, none⟩) hG1 (.slice none 0 0)).setCell (p := ⟨g1, 5, none⟩) hG1 (.bool false)).setCell (p := ⟨g1, 4, none⟩) hG1 (.int .i64 0)
    have HS5 := Lib.hid S4; have HR5 := Lib.hid R4; have HW5 := Lib.hid W4
    clear S4 R4 W4 HW c0 k0 k1 k2 k3 k4 k5 k6 k7 j0 j1 j2 j3 j4 j5 e3 e4 e5
    generalize (((w1.setCell ⟨g1, 3, none⟩ (.slice none 0 0)).setCell ⟨g1, 5, none⟩ (.bool false)).setCell ⟨g1, 4, none⟩ (.int .i64 0)) = w5 at *
    have j0 := (HS5.out).cell 0 _ rfl
    have j1 := (HS5.out).cell 1 _ rfl
    have j2 := (HS5.out).cell 2 _ rfl
    have j3 := (HS5.out).cell 3 _ rfl
    have j4 := (HS5.out).cell 4 _ rfl
    have j5 := (HS5.out).cell 5 _ rfl
    have z0 := (HR5.out).cell 0 _ rfl
    have z1 := (HR5.out).cell 1 _ rfl
    have z2 := (HR5.out).cell 2 _ rfl
    have z3 := (HR5.out).cell 3 _ rfl
    have z4 := (HR5.out).cell 4 _ rfl
    have z5 := (HR5.out).cell 5 _ rfl
    have f0 := HR5.out.fr 0; have f1 := HR5.out.fr 1; have f2 := HR5.out.fr 2; have f3 := HR5.out.fr 3; have f4 := HR5.out.fr 4; have f5 := HR5.out.fr 5
    go_wp2_with fail
    have R8 := (((((HR5.out.set 0 (.int .i64 s.fl)).set 1 (.int .i64 s.dir)).set 2 (.int .i64 s.door)).set 3 (.slice none 0 0)).set 4 (.int .i64 0)).set 5 (.bool false)
    have r0 := (R8).cell 0 _ rfl
    have r1 := (R8).cell 1 _ rfl
    have r2 := (R8).cell 2 _ rfl
    have r3 := (R8).cell 3 _ rfl
    have r4 := (R8).cell 4 _ rfl
    have r5 := (R8).cell 5 _ rfl
    exact bodyPost_ret (v := .tuple #[cvS ⟨s.fl, s.dir, s.door, [], 0, false⟩ none 0, .int .i64 0]) (by simp [results, Try.results38, go_sem, r0, r1, r2, r3, r4, r5]) rfl ⟨_, rfl, (((((HW5.out.setCell (p := ⟨g2, 0, none⟩) hG2 _).setCell (p := ⟨g2, 1, none⟩) hG2 _).setCell (p := ⟨g2, 2, none⟩) hG2 _).setCell (p := ⟨g2, 3, none⟩) hG2 _).setCell (p := ⟨g2, 4, none⟩) hG2 _).setCell (p := ⟨g2, 5, none⟩) hG2 _, ⟨none, 0, by rw [HVV.out, HST.out]; rfl, by rw [HVV.out]; exact fun i d h => by simp at h, fun A h => by cases h⟩⟩
set_option maxHeartbeats 4000000 in
set_option maxRecDepth 100000 in
theorem refForget_any (b : BldV) (q : Option Addr) (cap : Nat) (car : Int) (s : BelV) (q' : Option Addr) (cap' : Nat) (w : World) (hlen : b.cars.length ≤ 1000) (hlen' : s.du.length ≤ 1000) (hsl : ∀ c ∈ b.cars, -9223372036854775808 ≤ c.sl ∧ c.sl < 9223372036854775807) (hr : RdC w q b.cars) (hd : RdD w q' s.du) :
    Calls Try.prog 39 #[cvB b q cap, .int .i64 car, cvS s q' cap'] w fun e w' => ∃ v, e = .returned v ∧ Below w.heap.size w w' ∧ belE w.heap.size (forgetV b car s) (errV (stateB b car s)) v w' := by
  have X0 : Blk (w.alloc (.cells #[.int .i64 b.fl, .int .i64 b.deb, .int .i64 b.room, .int .i64 b.park, .float .f64 b.em, .float .f64 b.fu, .float .f64 b.ov, .slice q b.cars.length cap] 27)) w.heap.size [.int .i64 b.fl, .int .i64 b.deb, .int .i64 b.room, .int .i64 b.park, .float .f64 b.em, .float .f64 b.fu, .float .f64 b.ov, .slice q b.cars.length cap] := by
    have hx := Blk.new w [.int .i64 b.fl, .int .i64 b.deb, .int .i64 b.room, .int .i64 b.park, .float .f64 b.em, .float .f64 b.fu, .float .f64 b.ov, .slice q b.cars.length cap] 27
    exact hx
  replace X0 : Blk ((w.alloc (.cells #[.int .i64 b.fl, .int .i64 b.deb, .int .i64 b.room, .int .i64 b.park, .float .f64 b.em, .float .f64 b.fu, .float .f64 b.ov, .slice q b.cars.length cap] 27)).alloc (.cells #[.int .i64 s.fl, .int .i64 s.dir, .int .i64 s.door, .slice q' s.du.length cap', .int .i64 s.still, .bool s.late] 35)) w.heap.size [.int .i64 b.fl, .int .i64 b.deb, .int .i64 b.room, .int .i64 b.park, .float .f64 b.em, .float .f64 b.fu, .float .f64 b.ov, .slice q b.cars.length cap] := X0.next (below1' _ _)
  replace X0 : Blk (((w.alloc (.cells #[.int .i64 b.fl, .int .i64 b.deb, .int .i64 b.room, .int .i64 b.park, .float .f64 b.em, .float .f64 b.fu, .float .f64 b.ov, .slice q b.cars.length cap] 27)).alloc (.cells #[.int .i64 s.fl, .int .i64 s.dir, .int .i64 s.door, .slice q' s.du.length cap', .int .i64 s.still, .bool s.late] 35)).alloc (.cells #[.int .i64 0, .int .i64 0, .int .i64 0, .slice none 0 0, .int .i64 0, .bool false] 35)) w.heap.size [.int .i64 b.fl, .int .i64 b.deb, .int .i64 b.room, .int .i64 b.park, .float .f64 b.em, .float .f64 b.fu, .float .f64 b.ov, .slice q b.cars.length cap] := X0.next (below1' _ _)
  have X1 : Blk ((w.alloc (.cells #[.int .i64 b.fl, .int .i64 b.deb, .int .i64 b.room, .int .i64 b.park, .float .f64 b.em, .float .f64 b.fu, .float .f64 b.ov, .slice q b.cars.length cap] 27)).alloc (.cells #[.int .i64 s.fl, .int .i64 s.dir, .int .i64 s.door, .slice q' s.du.length cap', .int .i64 s.still, .bool s.late] 35)) (w.heap.size + 1) [.int .i64 s.fl, .int .i64 s.dir, .int .i64 s.door, .slice q' s.du.length cap', .int .i64 s.still, .bool s.late] := by
    have hx := Blk.new (w.alloc (.cells #[.int .i64 b.fl, .int .i64 b.deb, .int .i64 b.room, .int .i64 b.park, .float .f64 b.em, .float .f64 b.fu, .float .f64 b.ov, .slice q b.cars.length cap] 27)) [.int .i64 s.fl, .int .i64 s.dir, .int .i64 s.door, .slice q' s.du.length cap', .int .i64 s.still, .bool s.late] 35
    rw [World.size_alloc] at hx
    exact hx
  replace X1 : Blk (((w.alloc (.cells #[.int .i64 b.fl, .int .i64 b.deb, .int .i64 b.room, .int .i64 b.park, .float .f64 b.em, .float .f64 b.fu, .float .f64 b.ov, .slice q b.cars.length cap] 27)).alloc (.cells #[.int .i64 s.fl, .int .i64 s.dir, .int .i64 s.door, .slice q' s.du.length cap', .int .i64 s.still, .bool s.late] 35)).alloc (.cells #[.int .i64 0, .int .i64 0, .int .i64 0, .slice none 0 0, .int .i64 0, .bool false] 35)) (w.heap.size + 1) [.int .i64 s.fl, .int .i64 s.dir, .int .i64 s.door, .slice q' s.du.length cap', .int .i64 s.still, .bool s.late] := X1.next (below1' _ _)
  have X2 : Blk (((w.alloc (.cells #[.int .i64 b.fl, .int .i64 b.deb, .int .i64 b.room, .int .i64 b.park, .float .f64 b.em, .float .f64 b.fu, .float .f64 b.ov, .slice q b.cars.length cap] 27)).alloc (.cells #[.int .i64 s.fl, .int .i64 s.dir, .int .i64 s.door, .slice q' s.du.length cap', .int .i64 s.still, .bool s.late] 35)).alloc (.cells #[.int .i64 0, .int .i64 0, .int .i64 0, .slice none 0 0, .int .i64 0, .bool false] 35)) (w.heap.size + 1 + 1) [.int .i64 0, .int .i64 0, .int .i64 0, .slice none 0 0, .int .i64 0, .bool false] := by
    have hx := Blk.new ((w.alloc (.cells #[.int .i64 b.fl, .int .i64 b.deb, .int .i64 b.room, .int .i64 b.park, .float .f64 b.em, .float .f64 b.fu, .float .f64 b.ov, .slice q b.cars.length cap] 27)).alloc (.cells #[.int .i64 s.fl, .int .i64 s.dir, .int .i64 s.door, .slice q' s.du.length cap', .int .i64 s.still, .bool s.late] 35)) [.int .i64 0, .int .i64 0, .int .i64 0, .slice none 0 0, .int .i64 0, .bool false] 35
    rw [World.size_alloc, World.size_alloc] at hx
    exact hx
  have XW : Below w.heap.size w (w.alloc (.cells #[.int .i64 b.fl, .int .i64 b.deb, .int .i64 b.room, .int .i64 b.park, .float .f64 b.em, .float .f64 b.fu, .float .f64 b.ov, .slice q b.cars.length cap] 27)) := below1' w _
  replace XW : Below w.heap.size w ((w.alloc (.cells #[.int .i64 b.fl, .int .i64 b.deb, .int .i64 b.room, .int .i64 b.park, .float .f64 b.em, .float .f64 b.fu, .float .f64 b.ov, .slice q b.cars.length cap] 27)).alloc (.cells #[.int .i64 s.fl, .int .i64 s.dir, .int .i64 s.door, .slice q' s.du.length cap', .int .i64 s.still, .bool s.late] 35)) := XW.trans ((below1' _ _).mono XW.size)
  replace XW : Below w.heap.size w (((w.alloc (.cells #[.int .i64 b.fl, .int .i64 b.deb, .int .i64 b.room, .int .i64 b.park, .float .f64 b.em, .float .f64 b.fu, .float .f64 b.ov, .slice q b.cars.length cap] 27)).alloc (.cells #[.int .i64 s.fl, .int .i64 s.dir, .int .i64 s.door, .slice q' s.du.length cap', .int .i64 s.still, .bool s.late] 35)).alloc (.cells #[.int .i64 0, .int .i64 0, .int .i64 0, .slice none 0 0, .int .i64 0, .bool false] 35)) := XW.trans ((below1' _ _).mono XW.size)
  have HWW := Lib.hid XW; have HX0 := Lib.hid X0; have HX1 := Lib.hid X1; have HX2 := Lib.hid X2
  clear XW X0 X1 X2
  have HR := Lib.hid (hr.next HWW.out); have HD := Lib.hid (hd.next HWW.out)
  have HL1 := Lib.hid hlen; have HL2 := Lib.hid hlen'; have HSX := Lib.hid hsl
  clear hr hd hlen hlen'
  go_enter Try.func39, Try.ntmps39
  go_upto_region 1 with fail
  generalize (((w.alloc (.cells #[.int .i64 b.fl, .int .i64 b.deb, .int .i64 b.room, .int .i64 b.park, .float .f64 b.em, .float .f64 b.fu, .float .f64 b.ov, .slice q b.cars.length cap] 27)).alloc (.cells #[.int .i64 s.fl, .int .i64 s.dir, .int .i64 s.door, .slice q' s.du.length cap', .int .i64 s.still, .bool s.late] 35)).alloc (.cells #[.int .i64 0, .int .i64 0, .int .i64 0, .slice none 0 0, .int .i64 0, .bool false] 35)) = w0 at *
  generalize hg2 : w.heap.size + 1 + 1 = g2 at *
  generalize hg1 : w.heap.size + 1 = g1 at *
  have HG1 := Lib.hid hg1; have hq1 : w.heap.size + 1 ≤ g1 := by omega
  have HG2 := Lib.hid hg2; have hq2 : w.heap.size + 2 ≤ g2 := by omega
  clear hg1 hg2
  have HW := Lib.hid (Below.refl w0.heap.size w0)
  have hz0 := HX0.out.lt; have hz1 := HX1.out.lt; have hz2 := HX2.out.lt
  have hg21 : g2 ≠ g1 := by have := HG2.out; omega
  have hG2 : w.heap.size ≤ g2 := by omega
  have hG1 : w.heap.size ≤ g1 := by omega
  have k0 := (HX0.out).cell 0 _ rfl
  have k1 := (HX0.out).cell 1 _ rfl
  have k2 := (HX0.out).cell 2 _ rfl
  have k3 := (HX0.out).cell 3 _ rfl
  have k4 := (HX0.out).cell 4 _ rfl
  have k5 := (HX0.out).cell 5 _ rfl
  have k6 := (HX0.out).cell 6 _ rfl
  have k7 := (HX0.out).cell 7 _ rfl
  have j0 := (HX1.out).cell 0 _ rfl
  have j1 := (HX1.out).cell 1 _ rfl
  have j2 := (HX1.out).cell 2 _ rfl
  have j3 := (HX1.out).cell 3 _ rfl
  have j4 := (HX1.out).cell 4 _ rfl
  have j5 := (HX1.out).cell 5 _ rfl
  have c0 := base_cell HW.out
  go_wp2_with fail
  refine (refIsState_any b q cap car s q' cap' _ HL1.out HL2.out HSX.out HR.out HD.out).mono ?_
  rintro e w1 ⟨rfl, hbn⟩
  have HWn := Lib.hid (HW.out.trans (hbn.mono HW.out.size))
  try clear c0
  clear HW hbn
  have HW := HWn
  clear HWn
  have c0 := base_cell HW.out
  cases e1 : stateB b car s
  · have E1 := Lib.hid e1
    clear e1
    have z0 := (HX2.out).cell 0 _ rfl
    have z1 := (HX2.out).cell 1 _ rfl
    have z2 := (HX2.out).cell 2 _ rfl
    have z3 := (HX2.out).cell 3 _ rfl
    have z4 := (HX2.out).cell 4 _ rfl
    have z5 := (HX2.out).cell 5 _ rfl
    have R1 := HX2.out.later HW.out hz2
    have f0 := R1.fr 0; have f1 := R1.fr 1; have f2 := R1.fr 2; have f3 := R1.fr 3; have f4 := R1.fr 4; have f5 := R1.fr 5
    clear R1
    go_wp2_with fail
    have R8 := (((((((HX2.out.later HW.out hz2).set 0 (.int .i64 0)).set 1 (.int .i64 0)).set 2 (.int .i64 0)).set 3 (.slice none 0 0)).set 4 (.int .i64 0)).set 5 (.bool false))
    have r0 := (R8).cell 0 _ rfl
    have r1 := (R8).cell 1 _ rfl
    have r2 := (R8).cell 2 _ rfl
    have r3 := (R8).cell 3 _ rfl
    have r4 := (R8).cell 4 _ rfl
    have r5 := (R8).cell 5 _ rfl
    exact bodyPost_ret (v := .tuple #[cvS zeroB none 0, .int .i64 1]) (by simp [results, Try.results39, go_sem, zeroB, r0, r1, r2, r3, r4, r5]) rfl ⟨_, rfl, ((((((HWW.out.trans (HW.out.mono HWW.out.size)).setCell (p := ⟨g2, 0, none⟩) hG2 _).setCell (p := ⟨g2, 1, none⟩) hG2 _).setCell (p := ⟨g2, 2, none⟩) hG2 _).setCell (p := ⟨g2, 3, none⟩) hG2 _).setCell (p := ⟨g2, 4, none⟩) hG2 _).setCell (p := ⟨g2, 5, none⟩) hG2 _, ⟨none, 0, by unfold forgetV errV; rw [E1.out]; rfl, by unfold forgetV; rw [E1.out]; exact fun i d h => by simp [zeroB] at h, fun A h => by cases h⟩⟩
  · have HST := Lib.hid e1
    clear e1
    have HVV : Hid (forgetV b car s = ⟨s.fl, s.dir, s.door, [], 0, false⟩) := Lib.hid (by unfold forgetV; rw [HST.out, if_pos rfl])
    have BS := HX1.out.later HW.out hz1
    have e3 := BS.fr 3; have e4 := BS.fr 4; have e5 := BS.fr 5
    clear BS
    go_upto_region 4 with fail
    have S4 : Blk (((w1.setCell ⟨g1, 3, none⟩ (.slice none 0 0)).setCell ⟨g1, 5, none⟩ (.bool false)).setCell ⟨g1, 4, none⟩ (.int .i64 0)) g1 [.int .i64 s.fl, .int .i64 s.dir, .int .i64 s.door, .slice none 0 0, .int .i64 0, .bool false] := (((HX1.out.later HW.out hz1).set 3 (.slice none 0 0)).set 5 (.bool false)).set 4 (.int .i64 0)
    have R4 := (((HX2.out.later HW.out hz2).other (i := 3) hg21 (.slice none 0 0)).other (i := 5) hg21 (.bool false)).other (i := 4) hg21 (.int .i64 0)
    have W4 := (((HWW.out.trans (HW.out.mono HWW.out.size)).setCell (p := ⟨g1, 3, none⟩) hG1 (.slice none 0 0)).setCell (p := ⟨g1, 5, none⟩) hG1 (.bool false)).setCell (p := ⟨g1, 4, none⟩) hG1 (.int .i64 0)
    have HS5 := Lib.hid S4; have HR5 := Lib.hid R4; have HW5 := Lib.hid W4
    clear S4 R4 W4 HW c0 k0 k1 k2 k3 k4 k5 k6 k7 j0 j1 j2 j3 j4 j5 e3 e4 e5
    generalize (((w1.setCell ⟨g1, 3, none⟩ (.slice none 0 0)).setCell ⟨g1, 5, none⟩ (.bool false)).setCell ⟨g1, 4, none⟩ (.int .i64 0)) = w5 at *
    have j0 := (HS5.out).cell 0 _ rfl
    have j1 := (HS5.out).cell 1 _ rfl
    have j2 := (HS5.out).cell 2 _ rfl
    have j3 := (HS5.out).cell 3 _ rfl
    have j4 := (HS5.out).cell 4 _ rfl
    have j5 := (HS5.out).cell 5 _ rfl
    have z0 := (HR5.out).cell 0 _ rfl
    have z1 := (HR5.out).cell 1 _ rfl
    have z2 := (HR5.out).cell 2 _ rfl
    have z3 := (HR5.out).cell 3 _ rfl
    have z4 := (HR5.out).cell 4 _ rfl
    have z5 := (HR5.out).cell 5 _ rfl
    have f0 := HR5.out.fr 0; have f1 := HR5.out.fr 1; have f2 := HR5.out.fr 2; have f3 := HR5.out.fr 3; have f4 := HR5.out.fr 4; have f5 := HR5.out.fr 5
    go_wp2_with fail
    have R8 := (((((HR5.out.set 0 (.int .i64 s.fl)).set 1 (.int .i64 s.dir)).set 2 (.int .i64 s.door)).set 3 (.slice none 0 0)).set 4 (.int .i64 0)).set 5 (.bool false)
    have r0 := (R8).cell 0 _ rfl
    have r1 := (R8).cell 1 _ rfl
    have r2 := (R8).cell 2 _ rfl
    have r3 := (R8).cell 3 _ rfl
    have r4 := (R8).cell 4 _ rfl
    have r5 := (R8).cell 5 _ rfl
    exact bodyPost_ret (v := .tuple #[cvS ⟨s.fl, s.dir, s.door, [], 0, false⟩ none 0, .int .i64 0]) (by simp [results, Try.results39, go_sem, r0, r1, r2, r3, r4, r5]) rfl ⟨_, rfl, (((((HW5.out.setCell (p := ⟨g2, 0, none⟩) hG2 _).setCell (p := ⟨g2, 1, none⟩) hG2 _).setCell (p := ⟨g2, 2, none⟩) hG2 _).setCell (p := ⟨g2, 3, none⟩) hG2 _).setCell (p := ⟨g2, 4, none⟩) hG2 _).setCell (p := ⟨g2, 5, none⟩) hG2 _, ⟨none, 0, by rw [HVV.out, HST.out]; rfl, by rw [HVV.out]; exact fun i d h => by simp at h, fun A h => by cases h⟩⟩
end Go.Proofs.Ytnnkldidlgiipaa
