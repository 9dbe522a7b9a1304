/- The walks over phase.Order and its reference. Conditions: cars and an image that can be read. -/
import Derived.Test.YtgoojlfpngmdlaaZCarry
namespace Go.Proofs.Ytgoojlfpngmdlaa
open Go.RowKit
def orderF (b : BldV) (m : ImgV) (kind car : Int) (C : List Bool) : List R5 × Int :=
  if ¬ (imgB b m = true ∧ C.length = b.cars.length) then ([], 1)
  else if kind < 0 ∨ 8 < kind then ([], 6)
  else if car < 0 ∨ (b.cars.length : Int) ≤ car then ([], 2)
  else if kind = 0 then ([], 0)
  else carryF m car.toNat ((C[car.toNat]?).getD false) kind
theorem ordR_form {F : List R5 × Int} {v : Value} {w : World} (h : ordR F v w) : ∃ q c, v = .tuple #[.slice q F.1.length c, .int .i64 F.2] := by
  obtain ⟨q, c, h, _⟩ := h; exact ⟨q, c, h⟩
theorem ordR_stable (F : List R5 × Int) (v : Value) : Grow.Stable (ordR F v) := fun _ _ h hb => h.next hb
set_option maxHeartbeats 8000000 in
set_option maxRecDepth 100000 in
theorem order_any (b : BldV) (q : Option Addr) (cap : Nat) (m : ImgV) (a : ImgA) (kind car : Int) (C : List Bool) (qc : Option Addr) (capc : Nat) (w : World) (hlen : b.cars.length ≤ 1000) (hsl : ∀ c ∈ b.cars, -9223372036854775808 ≤ c.sl ∧ c.sl < 9223372036854775807) (hp : m.ph.length ≤ 1000) (he : m.en.length ≤ 1000) (hr : RdC w q b.cars) (hm : RdM w m a) (hC : RdX w qc (boolCells C)) :
    Calls Try.prog 13 #[cvB b q cap, cvM m a, .agg #[.int .i64 kind, .int .i64 car], .slice qc C.length capc] w fun r w' => ∃ v, r = .returned v ∧ Below w.heap.size w w' ∧ ordR (orderF b m kind car C) v w' := by
  obtain ⟨F, hF⟩ : ∃ F, orderF b m kind car C = F := ⟨_, rfl⟩
  rw [hF]
  have HF0 := Lib.hid hF
  clear hF
  have X0 : Blk (w.alloc (.cells #[.int .i64 b.fl, .int .i64 b.deb, .int .i64 b.room, .int .i64 b.park, .float .f64 b.em, .float .f64 b.fu, .float .f64 b.ov, .slice q b.cars.length cap] 29)) w.heap.size [.int .i64 b.fl, .int .i64 b.deb, .int .i64 b.room, .int .i64 b.park, .float .f64 b.em, .float .f64 b.fu, .float .f64 b.ov, .slice q b.cars.length cap] := by
    have hx := Blk.new w [.int .i64 b.fl, .int .i64 b.deb, .int .i64 b.room, .int .i64 b.park, .float .f64 b.em, .float .f64 b.fu, .float .f64 b.ov, .slice q b.cars.length cap] 29
    exact hx
  replace X0 : Blk ((w.alloc (.cells #[.int .i64 b.fl, .int .i64 b.deb, .int .i64 b.room, .int .i64 b.park, .float .f64 b.em, .float .f64 b.fu, .float .f64 b.ov, .slice q b.cars.length cap] 29)).alloc (.cells #[.slice a.p m.ph.length a.pc, .slice a.f m.fg.length a.fc, .slice a.l m.lv.length a.lc, .slice a.e m.en.length a.ec] 35)) w.heap.size [.int .i64 b.fl, .int .i64 b.deb, .int .i64 b.room, .int .i64 b.park, .float .f64 b.em, .float .f64 b.fu, .float .f64 b.ov, .slice q b.cars.length cap] := X0.next (below1' _ _)
  replace X0 : Blk (((w.alloc (.cells #[.int .i64 b.fl, .int .i64 b.deb, .int .i64 b.room, .int .i64 b.park, .float .f64 b.em, .float .f64 b.fu, .float .f64 b.ov, .slice q b.cars.length cap] 29)).alloc (.cells #[.slice a.p m.ph.length a.pc, .slice a.f m.fg.length a.fc, .slice a.l m.lv.length a.lc, .slice a.e m.en.length a.ec] 35)).alloc (.cells #[.int .i64 kind, .int .i64 car] 40)) w.heap.size [.int .i64 b.fl, .int .i64 b.deb, .int .i64 b.room, .int .i64 b.park, .float .f64 b.em, .float .f64 b.fu, .float .f64 b.ov, .slice q b.cars.length cap] := X0.next (below1' _ _)
  have X1 : Blk ((w.alloc (.cells #[.int .i64 b.fl, .int .i64 b.deb, .int .i64 b.room, .int .i64 b.park, .float .f64 b.em, .float .f64 b.fu, .float .f64 b.ov, .slice q b.cars.length cap] 29)).alloc (.cells #[.slice a.p m.ph.length a.pc, .slice a.f m.fg.length a.fc, .slice a.l m.lv.length a.lc, .slice a.e m.en.length a.ec] 35)) (w.heap.size + 1) [.slice a.p m.ph.length a.pc, .slice a.f m.fg.length a.fc, .slice a.l m.lv.length a.lc, .slice a.e m.en.length a.ec] := by
    have hx := Blk.new (w.alloc (.cells #[.int .i64 b.fl, .int .i64 b.deb, .int .i64 b.room, .int .i64 b.park, .float .f64 b.em, .float .f64 b.fu, .float .f64 b.ov, .slice q b.cars.length cap] 29)) [.slice a.p m.ph.length a.pc, .slice a.f m.fg.length a.fc, .slice a.l m.lv.length a.lc, .slice a.e m.en.length a.ec] 35
    rw [World.size_alloc] at hx
    exact hx
  replace X1 : Blk (((w.alloc (.cells #[.int .i64 b.fl, .int .i64 b.deb, .int .i64 b.room, .int .i64 b.park, .float .f64 b.em, .float .f64 b.fu, .float .f64 b.ov, .slice q b.cars.length cap] 29)).alloc (.cells #[.slice a.p m.ph.length a.pc, .slice a.f m.fg.length a.fc, .slice a.l m.lv.length a.lc, .slice a.e m.en.length a.ec] 35)).alloc (.cells #[.int .i64 kind, .int .i64 car] 40)) (w.heap.size + 1) [.slice a.p m.ph.length a.pc, .slice a.f m.fg.length a.fc, .slice a.l m.lv.length a.lc, .slice a.e m.en.length a.ec] := X1.next (below1' _ _)
  have X2 : Blk (((w.alloc (.cells #[.int .i64 b.fl, .int .i64 b.deb, .int .i64 b.room, .int .i64 b.park, .float .f64 b.em, .float .f64 b.fu, .float .f64 b.ov, .slice q b.cars.length cap] 29)).alloc (.cells #[.slice a.p m.ph.length a.pc, .slice a.f m.fg.length a.fc, .slice a.l m.lv.length a.lc, .slice a.e m.en.length a.ec] 35)).alloc (.cells #[.int .i64 kind, .int .i64 car] 40)) (w.heap.size + 1 + 1) [.int .i64 kind, .int .i64 car] := by
    have hx := Blk.new ((w.alloc (.cells #[.int .i64 b.fl, .int .i64 b.deb, .int .i64 b.room, .int .i64 b.park, .float .f64 b.em, .float .f64 b.fu, .float .f64 b.ov, .slice q b.cars.length cap] 29)).alloc (.cells #[.slice a.p m.ph.length a.pc, .slice a.f m.fg.length a.fc, .slice a.l m.lv.length a.lc, .slice a.e m.en.length a.ec] 35)) [.int .i64 kind, .int .i64 car] 40
    rw [World.size_alloc, World.size_alloc] at hx
    exact hx
  have XW : Below w.heap.size w (w.alloc (.cells #[.int .i64 b.fl, .int .i64 b.deb, .int .i64 b.room, .int .i64 b.park, .float .f64 b.em, .float .f64 b.fu, .float .f64 b.ov, .slice q b.cars.length cap] 29)) := below1' w _
  replace XW : Below w.heap.size w ((w.alloc (.cells #[.int .i64 b.fl, .int .i64 b.deb, .int .i64 b.room, .int .i64 b.park, .float .f64 b.em, .float .f64 b.fu, .float .f64 b.ov, .slice q b.cars.length cap] 29)).alloc (.cells #[.slice a.p m.ph.length a.pc, .slice a.f m.fg.length a.fc, .slice a.l m.lv.length a.lc, .slice a.e m.en.length a.ec] 35)) := XW.trans ((below1' _ _).mono XW.size)
  replace XW : Below w.heap.size w (((w.alloc (.cells #[.int .i64 b.fl, .int .i64 b.deb, .int .i64 b.room, .int .i64 b.park, .float .f64 b.em, .float .f64 b.fu, .float .f64 b.ov, .slice q b.cars.length cap] 29)).alloc (.cells #[.slice a.p m.ph.length a.pc, .slice a.f m.fg.length a.fc, .slice a.l m.lv.length a.lc, .slice a.e m.en.length a.ec] 35)).alloc (.cells #[.int .i64 kind, .int .i64 car] 40)) := XW.trans ((below1' _ _).mono XW.size)
  have HWW := Lib.hid XW; have HX0 := Lib.hid X0; have HX1 := Lib.hid X1; have HX2 := Lib.hid X2
  clear XW X0 X1 X2
  have HR := Lib.hid (hr.next HWW.out); have HM := Lib.hid (hm.next HWW.out); have HC := Lib.hid (hC.next HWW.out)
  have HL := Lib.hid hlen; have HP := Lib.hid hp; have HE := Lib.hid he; have HSL := Lib.hid hsl
  clear hr hm hC hlen hp he hsl
  go_enter Try.func13, Try.ntmps13
  go_upto_region 1 with fail
  generalize (((w.alloc (.cells #[.int .i64 b.fl, .int .i64 b.deb, .int .i64 b.room, .int .i64 b.park, .float .f64 b.em, .float .f64 b.fu, .float .f64 b.ov, .slice q b.cars.length cap] 29)).alloc (.cells #[.slice a.p m.ph.length a.pc, .slice a.f m.fg.length a.fc, .slice a.l m.lv.length a.lc, .slice a.e m.en.length a.ec] 35)).alloc (.cells #[.int .i64 kind, .int .i64 car] 40)) = w0 at *
  generalize hg2 : w.heap.size + 1 + 1 = g2 at *
  generalize hg1 : w.heap.size + 1 = g1 at *
  have HG1 := Lib.hid hg1; have hq1 : w.heap.size + 1 ≤ g1 := by omega
  have HG2 := Lib.hid hg2; have hq2 : w.heap.size + 2 ≤ g2 := by omega
  clear hg1 hg2
  have HW := Lib.hid (Below.refl w0.heap.size w0)
  have hz0 := HX0.out.lt; have hz1 := HX1.out.lt; have hz2 := HX2.out.lt
  have k0 := (HX0.out).cell 0 _ rfl
  have k1 := (HX0.out).cell 1 _ rfl
  have k2 := (HX0.out).cell 2 _ rfl
  have k3 := (HX0.out).cell 3 _ rfl
  have k4 := (HX0.out).cell 4 _ rfl
  have k5 := (HX0.out).cell 5 _ rfl
  have k6 := (HX0.out).cell 6 _ rfl
  have k7 := (HX0.out).cell 7 _ rfl
  have y0 := (HX1.out).cell 0 _ rfl
  have y1 := (HX1.out).cell 1 _ rfl
  have y2 := (HX1.out).cell 2 _ rfl
  have y3 := (HX1.out).cell 3 _ rfl
  go_wp2_with fail
  refine (isImage_any b q cap m a w0 HL.out HP.out HE.out HR.out HM.out).mono ?_
  rintro e w1 ⟨rfl, hb1⟩
  have HALL : Hid (∀ W, Below w1.heap.size w1 W → Blk W w.heap.size [.int .i64 b.fl, .int .i64 b.deb, .int .i64 b.room, .int .i64 b.park, .float .f64 b.em, .float .f64 b.fu, .float .f64 b.ov, .slice q b.cars.length cap] ∧ Blk W g1 [.slice a.p m.ph.length a.pc, .slice a.f m.fg.length a.fc, .slice a.l m.lv.length a.lc, .slice a.e m.en.length a.ec] ∧ Blk W g2 [.int .i64 kind, .int .i64 car] ∧ RdM W m a ∧ RdX W qc (boolCells C) ∧ Below w.heap.size w W) := Lib.hid fun W h => by
    have h0 := hb1.trans (h.mono hb1.size)
    exact ⟨HX0.out.next h0, HX1.out.next h0, HX2.out.next h0, HM.out.next h0, HC.out.next h0, HWW.out.trans (h0.mono HWW.out.size)⟩
  have HW1 := Lib.hid (Below.refl w1.heap.size w1)
  clear hb1 HX0 HX1 HX2 HWW HR HM HC HW k0 k1 k2 k3 k4 k5 k6 k7 y0 y1 y2 y3
  have k7 := (HALL.out w1 HW1.out).1.cell 7 _ rfl
  have y0 := (HALL.out w1 HW1.out).2.1.cell 0 _ rfl; have y1 := (HALL.out w1 HW1.out).2.1.cell 1 _ rfl; have y2 := (HALL.out w1 HW1.out).2.1.cell 2 _ rfl; have y3 := (HALL.out w1 HW1.out).2.1.cell 3 _ rfl
  have z0 := (HALL.out w1 HW1.out).2.2.1.cell 0 _ rfl; have z1 := (HALL.out w1 HW1.out).2.2.1.cell 1 _ rfl
  obtain ⟨nC, hnC⟩ : ∃ nC, C.length = nC := ⟨_, rfl⟩
  obtain ⟨n, hn⟩ : ∃ n, b.cars.length = n := ⟨_, rfl⟩
  rw [hnC]
  rw [hn] at k7
  have HF : Hid ((if ¬ (imgB b m = true ∧ nC = n) then (([], 1) : List R5 × Int) else if kind < 0 ∨ 8 < kind then ([], 6) else if car < 0 ∨ (n : Int) ≤ car then ([], 2) else if kind = 0 then ([], 0) else carryF m car.toNat ((C[car.toNat]?).getD false) kind) = F) := Lib.hid (by rw [← HF0.out, orderF, hnC, hn])
  have HNC := Lib.hid hnC; have HN := Lib.hid hn
  clear hnC hn HF0
  cases hi : imgB b m
  · have HFF : Hid (F = ([], 1)) := Lib.hid (by rw [← HF.out, hi]; simp)
    clear HF hi
    go_wp2_with fail
    exact bodyPost_ret (v := .tuple #[.slice none 0 0, .int .i64 1]) (by simp [results, Try.results13, go_sem]) rfl ⟨_, rfl, (HALL.out _ HW1.out).2.2.2.2.2, ord_nil _ HFF.out⟩
  have HI := Lib.hid hi
  rw [hi] at HF
  clear hi
  by_cases hcn : nC = n
  rotate_left 1
  · have c1 : ((nC : Int) != (n : Int)) = true := by simp; omega
    have HFF : Hid (F = ([], 1)) := Lib.hid (by rw [← HF.out]; simp [hcn])
    clear HF hcn
    go_wp2_with fail
    exact bodyPost_ret (v := .tuple #[.slice none 0 0, .int .i64 1]) (by simp [results, Try.results13, go_sem]) rfl ⟨_, rfl, (HALL.out _ HW1.out).2.2.2.2.2, ord_nil _ HFF.out⟩
  subst hcn
  by_cases hk0 : kind < 0
  · have HFF : Hid (F = ([], 6)) := Lib.hid (by rw [← HF.out]; simp [hk0])
    clear HF
    go_wp2_with fail
    exact bodyPost_ret (v := .tuple #[.slice none 0 0, .int .i64 6]) (by simp [results, Try.results13, go_sem]) rfl ⟨_, rfl, (HALL.out _ HW1.out).2.2.2.2.2, ord_nil _ HFF.out⟩
  by_cases hk8 : 8 < kind
  · have hk0' : 0 ≤ kind := by omega
    have HFF : Hid (F = ([], 6)) := Lib.hid (by rw [← HF.out]; simp [hk8])
    clear HF hk0
    go_wp2_with fail
    exact bodyPost_ret (v := .tuple #[.slice none 0 0, .int .i64 6]) (by simp [results, Try.results13, go_sem]) rfl ⟨_, rfl, (HALL.out _ HW1.out).2.2.2.2.2, ord_nil _ HFF.out⟩
  have hk0' : 0 ≤ kind := by omega
  have hk8' : kind ≤ 8 := by omega
  clear hk0 hk8
  by_cases hc0 : car < 0
  · have HFF : Hid (F = ([], 2)) := Lib.hid (by rw [← HF.out]; simp [hc0, Int.not_lt.2 hk0', Int.not_lt.2 hk8'])
    clear HF
    go_wp2_with fail
    exact bodyPost_ret (v := .tuple #[.slice none 0 0, .int .i64 2]) (by simp [results, Try.results13, go_sem]) rfl ⟨_, rfl, (HALL.out _ HW1.out).2.2.2.2.2, ord_nil _ HFF.out⟩
  by_cases hcn : (nC : Int) ≤ car
  · have hc0' : 0 ≤ car := by omega
    have HFF : Hid (F = ([], 2)) := Lib.hid (by rw [← HF.out]; simp [hcn, Int.not_lt.2 hk0', Int.not_lt.2 hk8'])
    clear HF hc0
    go_wp2_with fail
    exact bodyPost_ret (v := .tuple #[.slice none 0 0, .int .i64 2]) (by simp [results, Try.results13, go_sem]) rfl ⟨_, rfl, (HALL.out _ HW1.out).2.2.2.2.2, ord_nil _ HFF.out⟩
  obtain ⟨c, rfl⟩ := Int.eq_ofNat_of_zero_le (show 0 ≤ car by omega)
  have hcl : (c : Int) < (nC : Int) := by omega
  have hc0' : (0 : Int) ≤ (c : Int) := by omega
  obtain ⟨calm, hcalm⟩ : ∃ x, C[c]? = some x := ⟨_, List.getElem?_eq_getElem (by have := HNC.out; omega)⟩
  have HCA := Lib.hid hcalm
  rw [if_neg (by simp), if_neg (by omega), if_neg (by omega), Int.toNat_natCast, hcalm, Option.getD_some] at HF
  clear hc0 hcn hcalm
  by_cases hk : kind = 0
  · subst hk
    have HFF : Hid (F = ([], 0)) := Lib.hid (by rw [← HF.out]; simp)
    clear HF
    go_wp2_with fail
    exact bodyPost_ret (v := .tuple #[.slice none 0 0, .int .i64 0]) (by simp [results, Try.results13, go_sem]) rfl ⟨_, rfl, (HALL.out _ HW1.out).2.2.2.2.2, ord_nil _ HFF.out⟩
  have hk' : (kind == 0) = false := by simpa using hk
  have hk1 : 1 ≤ kind := by omega
  have HF2 : Hid (carryF m c calm kind = F) := Lib.hid (by rw [← HF.out, if_neg hk])
  clear HF hk
  go_upto_region 9 with fail
  clear hk' hk0' hk8' k7 y0 y1 y2 y3 z0 z1
  have HF := Lib.hid (imgB_facts HI.out)
  have HK8 : Hid (1 ≤ kind ∧ kind ≤ 8) := Lib.hid ⟨hk1, by omega⟩
  obtain ⟨A, hqA, _, cA⟩ := (HALL.out w1 HW1.out).2.2.2.2.1.bl HCA.out
  subst hqA
  replace cA : ∀ W, Grow.Cl w1.drew W → _ := fun W h => cell_later (Grow.Cl.base h) cA
  have hcm : Hid (c < m.ph.length) := Lib.hid (by have h := HF.out.2.2.1; have h1 := HN.out; omega)
  have y0 := ((HALL.out w1 HW1.out).2.1).reg 0 _ rfl
  have y1 := ((HALL.out w1 HW1.out).2.1).reg 1 _ rfl
  have y2 := ((HALL.out w1 HW1.out).2.1).reg 2 _ rfl
  have y3 := ((HALL.out w1 HW1.out).2.1).reg 3 _ rfl
  have z0 := ((HALL.out w1 HW1.out).2.2.1).reg 0 _ rfl
  have z1 := ((HALL.out w1 HW1.out).2.2.1).reg 1 _ rfl
  clear hk1
  refine Grow.wp_region (rPlan 11 (ordR F)) (rPlan_stable _ _ (ordR_stable _)) (by kernel_rfl) (by kernel_rfl) ?_
  intro opsq Hopsq
  repeat (first | (refine Grow.lex_move rfl ?_ rfl ?_; (· first | exact Grow.wanted_none | (rw [Hopsq.out]; rfl)); intro K hK; simp only [Grow.put_lit, Grow.setAt, Grow.eval_lit, Grow.ev]; refine hK _ _ ?_; clear hK K) | (refine Grow.lex_assign rfl ?_ rfl ?_; (· first | exact Grow.wanted_none | (rw [Hopsq.out]; rfl)); intro K hK; simp only [Grow.put_lit, Grow.setAt, Grow.eval_lit, Grow.ev]; refine hK _ _ ?_; clear hK K) | (refine Grow.lex_plain rfl rfl ?_ rfl ?_; (· first | exact Grow.wanted_none | (rw [Hopsq.out]; rfl)); apply Exists.intro; refine ⟨fun wq hCq _ => ?_, ?_⟩; (· (go_wp2_with fail; refine ⟨rfl, Below.refl _ _, ?_⟩; simp only [Grow.getD_lit, Grow.nth]; rfl)); intro K hK; simp only [Grow.put_lit, Grow.setAt]; refine hK _ _ ?_; clear hK K) | (refine Grow.lex_nilCheck rfl rfl ?_ rfl ?_; (· first | exact Grow.wanted_none | (rw [Hopsq.out]; rfl)); intro K hK; simp only [Grow.put_lit, Grow.setAt]; refine hK _ _ ?_; clear hK K) | (refine Grow.lex_skip ?_ ?_; (· (rw [Hopsq.out]; rfl)); intro K hK; simp only [Grow.put_lit, Grow.setAt]; refine hK _ _ ?_; clear hK K))
  (refine Grow.lex_callR (r := (fun _ v w => ordR F v w)) ?_ rfl ?_; (· first | exact Grow.wanted_none | (rw [Hopsq.out]; rfl)); apply Exists.intro; apply Exists.intro; refine ⟨fun wq => ?_, ?_, ?_⟩; (· (go_simp; exact ⟨rfl, rfl⟩)); (· (intro wq hCq hKq; exact (HF2.out ▸ carry_any m a c calm kind _ HP.out HF.out.1 HF.out.2.1 HF.out.2.2.2 hcm.out HK8.out.1 HK8.out.2 (HALL.out _ (Grow.Cl.base hCq)).2.2.2.1))); intro vq hWq; obtain ⟨_, _, hTT⟩ := hWq; obtain ⟨q8, c8, hvq⟩ := ordR_form (Grow.Holds.of_upd hTT).2; subst hvq; clear hTT; intro K hK; simp only [Grow.put_lit, Grow.setAt]; refine hK _ _ ?_; clear hK K)
  repeat (first | (refine Grow.lex_move rfl ?_ rfl ?_; (· first | exact Grow.wanted_none | (rw [Hopsq.out]; rfl)); intro K hK; simp only [Grow.put_lit, Grow.setAt, Grow.eval_lit, Grow.ev]; refine hK _ _ ?_; clear hK K) | (refine Grow.lex_assign rfl ?_ rfl ?_; (· first | exact Grow.wanted_none | (rw [Hopsq.out]; rfl)); intro K hK; simp only [Grow.put_lit, Grow.setAt, Grow.eval_lit, Grow.ev]; refine hK _ _ ?_; clear hK K) | (refine Grow.lex_plain rfl rfl ?_ rfl ?_; (· first | exact Grow.wanted_none | (rw [Hopsq.out]; rfl)); apply Exists.intro; refine ⟨fun wq hCq _ => ?_, ?_⟩; (· (go_wp2_with fail; refine ⟨rfl, Below.refl _ _, ?_⟩; simp only [Grow.getD_lit, Grow.nth]; rfl)); intro K hK; simp only [Grow.put_lit, Grow.setAt]; refine hK _ _ ?_; clear hK K) | (refine Grow.lex_nilCheck rfl rfl ?_ rfl ?_; (· first | exact Grow.wanted_none | (rw [Hopsq.out]; rfl)); intro K hK; simp only [Grow.put_lit, Grow.setAt]; refine hK _ _ ?_; clear hK K) | (refine Grow.lex_skip ?_ ?_; (· (rw [Hopsq.out]; rfl)); intro K hK; simp only [Grow.put_lit, Grow.setAt]; refine hK _ _ ?_; clear hK K))
  refine Grow.lex_nil ?_
  intro w6 hb6 hTT
  have HR6 : Hid (ordR F (.tuple #[.slice q8 F.1.length c8, .int .i64 F.2]) w6) := Lib.hid (Grow.Holds.of_upd hTT).2
  replace hb6 := Grow.Cl.base hb6
  have HW6 := Lib.hid hb6
  clear hb6 hTT Hopsq opsq y0 y1 y2 y3 z0 z1 cA
  go_wp2_with fail
  exact bodyPost_ret (v := .tuple #[.slice q8 F.1.length c8, .int .i64 F.2]) (by simp [results, Try.results13, go_sem]) rfl ⟨_, rfl, (HALL.out _ HW6.out).2.2.2.2.2, HR6.out⟩
set_option maxHeartbeats 8000000 in
set_option maxRecDepth 100000 in
theorem refOrder_any (b : BldV) (q : Option Addr) (cap : Nat) (m : ImgV) (a : ImgA) (kind car : Int) (C : List Bool) (qc : Option Addr) (capc : Nat) (w : World) (hlen : b.cars.length ≤ 1000) (hsl : ∀ c ∈ b.cars, -9223372036854775808 ≤ c.sl ∧ c.sl < 9223372036854775807) (hp : m.ph.length ≤ 1000) (he : m.en.length ≤ 1000) (hr : RdC w q b.cars) (hm : RdM w m a) (hC : RdX w qc (boolCells C)) :
    Calls Try.prog 18 #[cvB b q cap, cvM m a, .agg #[.int .i64 kind, .int .i64 car], .slice qc C.length capc] w fun r w' => ∃ v, r = .returned v ∧ Below w.heap.size w w' ∧ ordR (orderF b m kind car C) v w' := by
  obtain ⟨F, hF⟩ : ∃ F, orderF b m kind car C = F := ⟨_, rfl⟩
  rw [hF]
  have HF0 := Lib.hid hF
  clear hF
  have X0 : Blk (w.alloc (.cells #[.int .i64 b.fl, .int .i64 b.deb, .int .i64 b.room, .int .i64 b.park, .float .f64 b.em, .float .f64 b.fu, .float .f64 b.ov, .slice q b.cars.length cap] 29)) w.heap.size [.int .i64 b.fl, .int .i64 b.deb, .int .i64 b.room, .int .i64 b.park, .float .f64 b.em, .float .f64 b.fu, .float .f64 b.ov, .slice q b.cars.length cap] := by
    have hx := Blk.new w [.int .i64 b.fl, .int .i64 b.deb, .int .i64 b.room, .int .i64 b.park, .float .f64 b.em, .float .f64 b.fu, .float .f64 b.ov, .slice q b.cars.length cap] 29
    exact hx
  replace X0 : Blk ((w.alloc (.cells #[.int .i64 b.fl, .int .i64 b.deb, .int .i64 b.room, .int .i64 b.park, .float .f64 b.em, .float .f64 b.fu, .float .f64 b.ov, .slice q b.cars.length cap] 29)).alloc (.cells #[.slice a.p m.ph.length a.pc, .slice a.f m.fg.length a.fc, .slice a.l m.lv.length a.lc, .slice a.e m.en.length a.ec] 35)) w.heap.size [.int .i64 b.fl, .int .i64 b.deb, .int .i64 b.room, .int .i64 b.park, .float .f64 b.em, .float .f64 b.fu, .float .f64 b.ov, .slice q b.cars.length cap] := X0.next (below1' _ _)
  replace X0 : Blk (((w.alloc (.cells #[.int .i64 b.fl, .int .i64 b.deb, .int .i64 b.room, .int .i64 b.park, .float .f64 b.em, .float .f64 b.fu, .float .f64 b.ov, .slice q b.cars.length cap] 29)).alloc (.cells #[.slice a.p m.ph.length a.pc, .slice a.f m.fg.length a.fc, .slice a.l m.lv.length a.lc, .slice a.e m.en.length a.ec] 35)).alloc (.cells #[.int .i64 kind, .int .i64 car] 40)) w.heap.size [.int .i64 b.fl, .int .i64 b.deb, .int .i64 b.room, .int .i64 b.park, .float .f64 b.em, .float .f64 b.fu, .float .f64 b.ov, .slice q b.cars.length cap] := X0.next (below1' _ _)
  have X1 : Blk ((w.alloc (.cells #[.int .i64 b.fl, .int .i64 b.deb, .int .i64 b.room, .int .i64 b.park, .float .f64 b.em, .float .f64 b.fu, .float .f64 b.ov, .slice q b.cars.length cap] 29)).alloc (.cells #[.slice a.p m.ph.length a.pc, .slice a.f m.fg.length a.fc, .slice a.l m.lv.length a.lc, .slice a.e m.en.length a.ec] 35)) (w.heap.size + 1) [.slice a.p m.ph.length a.pc, .slice a.f m.fg.length a.fc, .slice a.l m.lv.length a.lc, .slice a.e m.en.length a.ec] := by
    have hx := Blk.new (w.alloc (.cells #[.int .i64 b.fl, .int .i64 b.deb, .int .i64 b.room, .int .i64 b.park, .float .f64 b.em, .float .f64 b.fu, .float .f64 b.ov, .slice q b.cars.length cap] 29)) [.slice a.p m.ph.length a.pc, .slice a.f m.fg.length a.fc, .slice a.l m.lv.length a.lc, .slice a.e m.en.length a.ec] 35
    rw [World.size_alloc] at hx
    exact hx
  replace X1 : Blk (((w.alloc (.cells #[.int .i64 b.fl, .int .i64 b.deb, .int .i64 b.room, .int .i64 b.park, .float .f64 b.em, .float .f64 b.fu, .float .f64 b.ov, .slice q b.cars.length cap] 29)).alloc (.cells #[.slice a.p m.ph.length a.pc, .slice a.f m.fg.length a.fc, .slice a.l m.lv.length a.lc, .slice a.e m.en.length a.ec] 35)).alloc (.cells #[.int .i64 kind, .int .i64 car] 40)) (w.heap.size + 1) [.slice a.p m.ph.length a.pc, .slice a.f m.fg.length a.fc, .slice a.l m.lv.length a.lc, .slice a.e m.en.length a.ec] := X1.next (below1' _ _)
  have X2 : Blk (((w.alloc (.cells #[.int .i64 b.fl, .int .i64 b.deb, .int .i64 b.room, .int .i64 b.park, .float .f64 b.em, .float .f64 b.fu, .float .f64 b.ov, .slice q b.cars.length cap] 29)).alloc (.cells #[.slice a.p m.ph.length a.pc, .slice a.f m.fg.length a.fc, .slice a.l m.lv.length a.lc, .slice a.e m.en.length a.ec] 35)).alloc (.cells #[.int .i64 kind, .int .i64 car] 40)) (w.heap.size + 1 + 1) [.int .i64 kind, .int .i64 car] := by
    have hx := Blk.new ((w.alloc (.cells #[.int .i64 b.fl, .int .i64 b.deb, .int .i64 b.room, .int .i64 b.park, .float .f64 b.em, .float .f64 b.fu, .float .f64 b.ov, .slice q b.cars.length cap] 29)).alloc (.cells #[.slice a.p m.ph.length a.pc, .slice a.f m.fg.length a.fc, .slice a.l m.lv.length a.lc, .slice a.e m.en.length a.ec] 35)) [.int .i64 kind, .int .i64 car] 40
    rw [World.size_alloc, World.size_alloc] at hx
    exact hx
  have XW : Below w.heap.size w (w.alloc (.cells #[.int .i64 b.fl, .int .i64 b.deb, .int .i64 b.room, .int .i64 b.park, .float .f64 b.em, .float .f64 b.fu, .float .f64 b.ov, .slice q b.cars.length cap] 29)) := below1' w _
  replace XW : Below w.heap.size w ((w.alloc (.cells #[.int .i64 b.fl, .int .i64 b.deb, .int .i64 b.room, .int .i64 b.park, .float .f64 b.em, .float .f64 b.fu, .float .f64 b.ov, .slice q b.cars.length cap] 29)).alloc (.cells #[.slice a.p m.ph.length a.pc, .slice a.f m.fg.length a.fc, .slice a.l m.lv.length a.lc, .slice a.e m.en.length a.ec] 35)) := XW.trans ((below1' _ _).mono XW.size)
  replace XW : Below w.heap.size w (((w.alloc (.cells #[.int .i64 b.fl, .int .i64 b.deb, .int .i64 b.room, .int .i64 b.park, .float .f64 b.em, .float .f64 b.fu, .float .f64 b.ov, .slice q b.cars.length cap] 29)).alloc (.cells #[.slice a.p m.ph.length a.pc, .slice a.f m.fg.length a.fc, .slice a.l m.lv.length a.lc, .slice a.e m.en.length a.ec] 35)).alloc (.cells #[.int .i64 kind, .int .i64 car] 40)) := XW.trans ((below1' _ _).mono XW.size)
  have HWW := Lib.hid XW; have HX0 := Lib.hid X0; have HX1 := Lib.hid X1; have HX2 := Lib.hid X2
  clear XW X0 X1 X2
  have HR := Lib.hid (hr.next HWW.out); have HM := Lib.hid (hm.next HWW.out); have HC := Lib.hid (hC.next HWW.out)
  have HL := Lib.hid hlen; have HP := Lib.hid hp; have HE := Lib.hid he; have HSL := Lib.hid hsl
  clear hr hm hC hlen hp he hsl
  go_enter Try.func18, Try.ntmps18
  go_upto_region 1 with fail
  generalize (((w.alloc (.cells #[.int .i64 b.fl, .int .i64 b.deb, .int .i64 b.room, .int .i64 b.park, .float .f64 b.em, .float .f64 b.fu, .float .f64 b.ov, .slice q b.cars.length cap] 29)).alloc (.cells #[.slice a.p m.ph.length a.pc, .slice a.f m.fg.length a.fc, .slice a.l m.lv.length a.lc, .slice a.e m.en.length a.ec] 35)).alloc (.cells #[.int .i64 kind, .int .i64 car] 40)) = w0 at *
  generalize hg2 : w.heap.size + 1 + 1 = g2 at *
  generalize hg1 : w.heap.size + 1 = g1 at *
  have HG1 := Lib.hid hg1; have hq1 : w.heap.size + 1 ≤ g1 := by omega
  have HG2 := Lib.hid hg2; have hq2 : w.heap.size + 2 ≤ g2 := by omega
  clear hg1 hg2
  have HW := Lib.hid (Below.refl w0.heap.size w0)
  have hz0 := HX0.out.lt; have hz1 := HX1.out.lt; have hz2 := HX2.out.lt
  have k0 := (HX0.out).cell 0 _ rfl
  have k1 := (HX0.out).cell 1 _ rfl
  have k2 := (HX0.out).cell 2 _ rfl
  have k3 := (HX0.out).cell 3 _ rfl
  have k4 := (HX0.out).cell 4 _ rfl
  have k5 := (HX0.out).cell 5 _ rfl
  have k6 := (HX0.out).cell 6 _ rfl
  have k7 := (HX0.out).cell 7 _ rfl
  have y0 := (HX1.out).cell 0 _ rfl
  have y1 := (HX1.out).cell 1 _ rfl
  have y2 := (HX1.out).cell 2 _ rfl
  have y3 := (HX1.out).cell 3 _ rfl
  go_wp2_with fail
  refine (refIsImage_any b q cap m a w0 HL.out HSL.out HP.out HE.out HR.out HM.out).mono ?_
  rintro e w1 ⟨rfl, hb1⟩
  have HALL : Hid (∀ W, Below w1.heap.size w1 W → Blk W w.heap.size [.int .i64 b.fl, .int .i64 b.deb, .int .i64 b.room, .int .i64 b.park, .float .f64 b.em, .float .f64 b.fu, .float .f64 b.ov, .slice q b.cars.length cap] ∧ Blk W g1 [.slice a.p m.ph.length a.pc, .slice a.f m.fg.length a.fc, .slice a.l m.lv.length a.lc, .slice a.e m.en.length a.ec] ∧ Blk W g2 [.int .i64 kind, .int .i64 car] ∧ RdM W m a ∧ RdX W qc (boolCells C) ∧ Below w.heap.size w W) := Lib.hid fun W h => by
    have h0 := hb1.trans (h.mono hb1.size)
    exact ⟨HX0.out.next h0, HX1.out.next h0, HX2.out.next h0, HM.out.next h0, HC.out.next h0, HWW.out.trans (h0.mono HWW.out.size)⟩
  have HW1 := Lib.hid (Below.refl w1.heap.size w1)
  clear hb1 HX0 HX1 HX2 HWW HR HM HC HW k0 k1 k2 k3 k4 k5 k6 k7 y0 y1 y2 y3
  have k7 := (HALL.out w1 HW1.out).1.cell 7 _ rfl
  have y0 := (HALL.out w1 HW1.out).2.1.cell 0 _ rfl; have y1 := (HALL.out w1 HW1.out).2.1.cell 1 _ rfl; have y2 := (HALL.out w1 HW1.out).2.1.cell 2 _ rfl; have y3 := (HALL.out w1 HW1.out).2.1.cell 3 _ rfl
  have z0 := (HALL.out w1 HW1.out).2.2.1.cell 0 _ rfl; have z1 := (HALL.out w1 HW1.out).2.2.1.cell 1 _ rfl
  obtain ⟨nC, hnC⟩ : ∃ nC, C.length = nC := ⟨_, rfl⟩
  obtain ⟨n, hn⟩ : ∃ n, b.cars.length = n := ⟨_, rfl⟩
  rw [hnC]
  rw [hn] at k7
  have HF : Hid ((if ¬ (imgB b m = true ∧ nC = n) then (([], 1) : List R5 × Int) else if kind < 0 ∨ 8 < kind then ([], 6) else if car < 0 ∨ (n : Int) ≤ car then ([], 2) else if kind = 0 then ([], 0) else carryF m car.toNat ((C[car.toNat]?).getD false) kind) = F) := Lib.hid (by rw [← HF0.out, orderF, hnC, hn])
  have HNC := Lib.hid hnC; have HN := Lib.hid hn
  clear hnC hn HF0
  cases hi : imgB b m
  · have HFF : Hid (F = ([], 1)) := Lib.hid (by rw [← HF.out, hi]; simp)
    clear HF hi
    go_wp2_with fail
    exact bodyPost_ret (v := .tuple #[.slice none 0 0, .int .i64 1]) (by simp [results, Try.results18, go_sem]) rfl ⟨_, rfl, (HALL.out _ HW1.out).2.2.2.2.2, ord_nil _ HFF.out⟩
  have HI := Lib.hid hi
  rw [hi] at HF
  clear hi
  by_cases hcn : nC = n
  rotate_left 1
  · have c1 : ((nC : Int) != (n : Int)) = true := by simp; omega
    have HFF : Hid (F = ([], 1)) := Lib.hid (by rw [← HF.out]; simp [hcn])
    clear HF hcn
    go_wp2_with fail
    exact bodyPost_ret (v := .tuple #[.slice none 0 0, .int .i64 1]) (by simp [results, Try.results18, go_sem]) rfl ⟨_, rfl, (HALL.out _ HW1.out).2.2.2.2.2, ord_nil _ HFF.out⟩
  subst hcn
  by_cases hk0 : kind < 0
  · have HFF : Hid (F = ([], 6)) := Lib.hid (by rw [← HF.out]; simp [hk0])
    clear HF
    go_wp2_with fail
    exact bodyPost_ret (v := .tuple #[.slice none 0 0, .int .i64 6]) (by simp [results, Try.results18, go_sem]) rfl ⟨_, rfl, (HALL.out _ HW1.out).2.2.2.2.2, ord_nil _ HFF.out⟩
  by_cases hk8 : 8 < kind
  · have hk0' : 0 ≤ kind := by omega
    have HFF : Hid (F = ([], 6)) := Lib.hid (by rw [← HF.out]; simp [hk8])
    clear HF hk0
    go_wp2_with fail
    exact bodyPost_ret (v := .tuple #[.slice none 0 0, .int .i64 6]) (by simp [results, Try.results18, go_sem]) rfl ⟨_, rfl, (HALL.out _ HW1.out).2.2.2.2.2, ord_nil _ HFF.out⟩
  have hk0' : 0 ≤ kind := by omega
  have hk8' : kind ≤ 8 := by omega
  clear hk0 hk8
  by_cases hc0 : car < 0
  · have HFF : Hid (F = ([], 2)) := Lib.hid (by rw [← HF.out]; simp [hc0, Int.not_lt.2 hk0', Int.not_lt.2 hk8'])
    clear HF
    go_wp2_with fail
    exact bodyPost_ret (v := .tuple #[.slice none 0 0, .int .i64 2]) (by simp [results, Try.results18, go_sem]) rfl ⟨_, rfl, (HALL.out _ HW1.out).2.2.2.2.2, ord_nil _ HFF.out⟩
  by_cases hcn : (nC : Int) ≤ car
  · have hc0' : 0 ≤ car := by omega
    have HFF : Hid (F = ([], 2)) := Lib.hid (by rw [← HF.out]; simp [hcn, Int.not_lt.2 hk0', Int.not_lt.2 hk8'])
    clear HF hc0
    go_wp2_with fail
    exact bodyPost_ret (v := .tuple #[.slice none 0 0, .int .i64 2]) (by simp [results, Try.results18, go_sem]) rfl ⟨_, rfl, (HALL.out _ HW1.out).2.2.2.2.2, ord_nil _ HFF.out⟩
  obtain ⟨c, rfl⟩ := Int.eq_ofNat_of_zero_le (show 0 ≤ car by omega)
  have hcl : (c : Int) < (nC : Int) := by omega
  have hc0' : (0 : Int) ≤ (c : Int) := by omega
  obtain ⟨calm, hcalm⟩ : ∃ x, C[c]? = some x := ⟨_, List.getElem?_eq_getElem (by have := HNC.out; omega)⟩
  have HCA := Lib.hid hcalm
  rw [if_neg (by simp), if_neg (by omega), if_neg (by omega), Int.toNat_natCast, hcalm, Option.getD_some] at HF
  clear hc0 hcn hcalm
  have HG := Lib.hid (imgB_facts HI.out)
  have hcm : c < m.ph.length := by have h := HG.out.2.2.1; have h1 := HN.out; omega
  obtain ⟨p, hp'⟩ : ∃ p, m.ph[c]? = some p := ⟨_, List.getElem?_eq_getElem hcm⟩
  obtain ⟨f, hf'⟩ : ∃ f, m.fg[c]? = some f := ⟨_, List.getElem?_eq_getElem (by have := HG.out.2.1; omega)⟩
  obtain ⟨l, hl'⟩ : ∃ l, m.lv[c]? = some l := ⟨_, List.getElem?_eq_getElem (by have := HG.out.1; omega)⟩
  have HPC := Lib.hid hp'; have HFC := Lib.hid hf'; have HLC := Lib.hid hl'
  have h5 := ph_five (HG.out.2.2.2 p (List.mem_of_getElem? hp'))
  have H5 := Lib.hid h5
  have hcp : (c : Int) < (m.ph.length : Int) := by omega
  have hcf : (c : Int) < (m.fg.length : Int) := by have := HG.out.2.1; omega
  have hcv : (c : Int) < (m.lv.length : Int) := by have := HG.out.1; omega
  rw [carryF, phAt_of hp', fgAt_of hf', lvAt_of hl'] at HF
  clear hp' hf' hl' hcm h5
  go_upto_region 7 with fail
  clear k7 y0 y1 y2 y3 z0 z1
  obtain ⟨A, hqA, _, cA⟩ := (HALL.out w1 HW1.out).2.2.2.1.1.it HPC.out
  obtain ⟨B, hqB, _, cB⟩ := (HALL.out w1 HW1.out).2.2.2.1.2.2.1.bl HLC.out
  replace cA : ∀ W, Grow.Cl w1.drew W → _ := fun W h => cell_later (Grow.Cl.base h) cA
  replace cB : ∀ W, Grow.Cl w1.drew W → _ := fun W h => cell_later (Grow.Cl.base h) cB
  have y0 := ((HALL.out w1 HW1.out).2.1).reg 0 _ rfl
  have y1 := ((HALL.out w1 HW1.out).2.1).reg 1 _ rfl
  have y2 := ((HALL.out w1 HW1.out).2.1).reg 2 _ rfl
  have y3 := ((HALL.out w1 HW1.out).2.1).reg 3 _ rfl
  have z0 := ((HALL.out w1 HW1.out).2.2.1).reg 0 _ rfl
  have z1 := ((HALL.out w1 HW1.out).2.2.1).reg 1 _ rfl
  rw [hqA] at y0
  rw [hqB] at y2
  have HKK : Hid (0 ≤ kind ∧ kind ≤ 8) := Lib.hid ⟨hk0', hk8'⟩
  clear hqA hqB hk0' hk8'
  (refine Grow.wp_region Grow.noPlan Grow.noPlan_stable (by kernel_rfl) (by kernel_rfl) ?_; intro opsq Hopsq)
  repeat (first | (refine Grow.lex_move rfl ?_ rfl ?_; (· first | exact Grow.wanted_none | (rw [Hopsq.out]; rfl)); intro K hK; simp only [Grow.put_lit, Grow.setAt, Grow.eval_lit, Grow.ev]; refine hK _ _ ?_; clear hK K) | (refine Grow.lex_assign rfl ?_ rfl ?_; (· first | exact Grow.wanted_none | (rw [Hopsq.out]; rfl)); intro K hK; simp only [Grow.put_lit, Grow.setAt, Grow.eval_lit, Grow.ev]; refine hK _ _ ?_; clear hK K) | (refine Grow.lex_plain rfl rfl ?_ rfl ?_; (· first | exact Grow.wanted_none | (rw [Hopsq.out]; rfl)); apply Exists.intro; refine ⟨fun wq hCq _ => ?_, ?_⟩; (· (go_wp2_with fail; refine ⟨rfl, Below.refl _ _, ?_⟩; simp only [Grow.getD_lit, Grow.nth]; rfl)); intro K hK; simp only [Grow.put_lit, Grow.setAt]; refine hK _ _ ?_; clear hK K) | (refine Grow.lex_nilCheck rfl rfl ?_ rfl ?_; (· first | exact Grow.wanted_none | (rw [Hopsq.out]; rfl)); intro K hK; simp only [Grow.put_lit, Grow.setAt]; refine hK _ _ ?_; clear hK K) | (refine Grow.lex_skip ?_ ?_; (· (rw [Hopsq.out]; rfl)); intro K hK; simp only [Grow.put_lit, Grow.setAt]; refine hK _ _ ?_; clear hK K))
  (refine Grow.lex_nil ?_; intro w5 hb5 _; replace hb5 := Grow.Cl.base hb5; clear Hopsq opsq)
  have HW5 := Lib.hid hb5
  clear hb5 HW1 y0 y1 y2 y3 z0 z1 cA cB
  have k7 := (HALL.out w5 HW5.out).1.cell 7 _ rfl
  rw [HN.out] at k7
  have y0 := (HALL.out w5 HW5.out).2.1.cell 0 _ rfl
  have y1 := (HALL.out w5 HW5.out).2.1.cell 1 _ rfl
  have y2 := (HALL.out w5 HW5.out).2.1.cell 2 _ rfl
  have y3 := (HALL.out w5 HW5.out).2.1.cell 3 _ rfl
  have z0 := (HALL.out w5 HW5.out).2.2.1.cell 0 _ rfl
  have z1 := (HALL.out w5 HW5.out).2.2.1.cell 1 _ rfl
  obtain ⟨D, hqD, _, cD⟩ := (HALL.out w5 HW5.out).2.2.2.1.2.1.bl HFC.out
  obtain ⟨E, hqE, _, cE⟩ := (HALL.out w5 HW5.out).2.2.2.2.1.bl HCA.out
  have hk : kind = 0 ∨ kind = 1 ∨ kind = 2 ∨ kind = 3 ∨ kind = 4 ∨ kind = 5 ∨ kind = 6 ∨ kind = 7 ∨ kind = 8 := by have := HKK.out; omega
  clear HKK
  rcases hk with rfl | rfl | rfl | rfl | rfl | rfl | rfl | rfl | rfl
  · have HFF : Hid (F = ([], 0)) := Lib.hid (by rw [← HF.out]; simp)
    clear HF
    clear hqD hqE
    go_wp2_with fail
    exact bodyPost_ret (v := .tuple #[.slice none 0 0, .int .i64 0]) (by simp [results, Try.results18, go_sem]) rfl ⟨_, rfl, (HALL.out _ HW5.out).2.2.2.2.2, ord_nil _ HFF.out⟩
  · clear hqD hqE cD cE
    by_cases e0 : p = 0
    · subst e0
      go_wp2_with fail
      have hh := transit_any m a _ HP.out HG.out.1 (HALL.out _ HW5.out).2.2.2.1
      have HFB : Hid (freeB m = decide (transN m m.ph.length = 0)) := Lib.hid rfl
      generalize transN m m.ph.length = t at *
      refine hh.mono ?_
      clear hh
      rintro e w7 ⟨rfl, hb7⟩
      have HW7 := Lib.hid (HW5.out.trans (hb7.mono HW5.out.size))
      clear hb7 HW5 k7 y0 y1 y2 y3 z0 z1
      have HW5 := HW7
      clear HW7
      have k7 := (HALL.out w7 HW5.out).1.cell 7 _ rfl
      rw [HN.out] at k7
      have y0 := (HALL.out w7 HW5.out).2.1.cell 0 _ rfl
      have y1 := (HALL.out w7 HW5.out).2.1.cell 1 _ rfl
      have y2 := (HALL.out w7 HW5.out).2.1.cell 2 _ rfl
      have y3 := (HALL.out w7 HW5.out).2.1.cell 3 _ rfl
      have z0 := (HALL.out w7 HW5.out).2.2.1.cell 0 _ rfl
      have z1 := (HALL.out w7 HW5.out).2.2.1.cell 1 _ rfl
      by_cases ht : t = 0
      · subst ht
        have HFF : Hid (F = ([recP c 1], 0)) := Lib.hid (by rw [← HF.out]; simp [HFB.out])
        clear HF
        clear HFB
        go_wp2_with fail
        refine (refPhase_any c 1 _).mono ?_
        rintro e w6 ⟨v, rfl, hb6, hr6⟩
        obtain ⟨q8, c8, rfl⟩ := recR_form hr6
        have HR6 := Lib.hid hr6; have HW6 := Lib.hid (HW5.out.trans (hb6.mono HW5.out.size))
        clear hb6 hr6 k7 y0 y1 y2 y3 z0 z1
        go_wp2_with fail
        exact bodyPost_ret (v := .tuple #[.slice q8 1 c8, .int .i64 0]) (by simp [results, Try.results18, go_sem]) rfl ⟨_, rfl, (HALL.out _ HW6.out).2.2.2.2.2, ord_one HFF.out HR6.out⟩
      · have ht' : (0 : Int) < (t : Int) := by omega
        have HFF : Hid (F = ([], 261)) := Lib.hid (by rw [← HF.out]; simp [HFB.out, ht])
        clear HF
        clear HFB ht
        go_wp2_with fail
        exact bodyPost_ret (v := .tuple #[.slice none 0 0, .int .i64 261]) (by simp [results, Try.results18, go_sem]) rfl ⟨_, rfl, (HALL.out _ HW5.out).2.2.2.2.2, ord_nil _ HFF.out⟩
    · have HFF : Hid (F = ([], 260)) := Lib.hid (by rw [← HF.out]; simp [e0])
      clear HF
      go_wp2_with fail
      exact bodyPost_ret (v := .tuple #[.slice none 0 0, .int .i64 260]) (by simp [results, Try.results18, go_sem]) rfl ⟨_, rfl, (HALL.out _ HW5.out).2.2.2.2.2, ord_nil _ HFF.out⟩
  · clear hqD hqE cD cE
    by_cases e1 : p = 1
    · subst e1
      have HFF : Hid (F = ([recP c 0], 0)) := Lib.hid (by rw [← HF.out]; simp)
      clear HF
      go_wp2_with fail
      refine (refPhase_any c 0 _).mono ?_
      rintro e w6 ⟨v, rfl, hb6, hr6⟩
      obtain ⟨q8, c8, rfl⟩ := recR_form hr6
      have HR6 := Lib.hid hr6; have HW6 := Lib.hid (HW5.out.trans (hb6.mono HW5.out.size))
      clear hb6 hr6 k7 y0 y1 y2 y3 z0 z1
      go_wp2_with fail
      exact bodyPost_ret (v := .tuple #[.slice q8 1 c8, .int .i64 0]) (by simp [results, Try.results18, go_sem]) rfl ⟨_, rfl, (HALL.out _ HW6.out).2.2.2.2.2, ord_one HFF.out HR6.out⟩
    · have e1' : (p == 1) = false := by simpa using e1
      by_cases e4 : p = 4
      · subst e4
        cases l
        · have HFF : Hid (F = ([], 260)) := Lib.hid (by rw [← HF.out]; simp)
          clear HF
          go_wp2_with fail
          exact bodyPost_ret (v := .tuple #[.slice none 0 0, .int .i64 260]) (by simp [results, Try.results18, go_sem]) rfl ⟨_, rfl, (HALL.out _ HW5.out).2.2.2.2.2, ord_nil _ HFF.out⟩
        · have HFF : Hid (F = ([recLv c 0], 0)) := Lib.hid (by rw [← HF.out]; simp)
          clear HF
          have hr6 := recR_one w5 (recLv c 0) 47
          have hb6 := below1' w5 (.cells #[.int .i64 (recLv c 0).1, .int .i64 (recLv c 0).2.1, .int .i64 (recLv c 0).2.2.1, .int .i64 (recLv c 0).2.2.2.1, .int .i64 (recLv c 0).2.2.2.2] 47)
          have HR6 := Lib.hid hr6; have HW6 := Lib.hid (HW5.out.trans (hb6.mono HW5.out.size))
          clear hr6 hb6
          go_wp2_with fail
          exact bodyPost_ret (v := .tuple #[.slice (some ⟨w5.heap.size, 0, none⟩) 1 1, .int .i64 0]) (by simp [results, Try.results18, go_sem]) rfl ⟨_, rfl, (HALL.out _ HW6.out).2.2.2.2.2, ord_one HFF.out HR6.out⟩
      · have e4' : (p == 4) = false := by simpa using e4
        have HFF : Hid (F = ([], 260)) := Lib.hid (by rw [← HF.out]; simp [e1, e4])
        clear HF
        clear e1 e4
        go_wp2_with fail
        exact bodyPost_ret (v := .tuple #[.slice none 0 0, .int .i64 260]) (by simp [results, Try.results18, go_sem]) rfl ⟨_, rfl, (HALL.out _ HW5.out).2.2.2.2.2, ord_nil _ HFF.out⟩
  · clear hqD hqE cD cE
    by_cases e1 : p = 2
    · subst e1
      have HFF : Hid (F = ([recP c 0], 0)) := Lib.hid (by rw [← HF.out]; simp)
      clear HF
      go_wp2_with fail
      refine (refPhase_any c 0 _).mono ?_
      rintro e w6 ⟨v, rfl, hb6, hr6⟩
      obtain ⟨q8, c8, rfl⟩ := recR_form hr6
      have HR6 := Lib.hid hr6; have HW6 := Lib.hid (HW5.out.trans (hb6.mono HW5.out.size))
      clear hb6 hr6 k7 y0 y1 y2 y3 z0 z1
      go_wp2_with fail
      exact bodyPost_ret (v := .tuple #[.slice q8 1 c8, .int .i64 0]) (by simp [results, Try.results18, go_sem]) rfl ⟨_, rfl, (HALL.out _ HW6.out).2.2.2.2.2, ord_one HFF.out HR6.out⟩
    · have HFF : Hid (F = ([], 260)) := Lib.hid (by rw [← HF.out]; simp [e1])
      clear HF
      go_wp2_with fail
      exact bodyPost_ret (v := .tuple #[.slice none 0 0, .int .i64 260]) (by simp [results, Try.results18, go_sem]) rfl ⟨_, rfl, (HALL.out _ HW5.out).2.2.2.2.2, ord_nil _ HFF.out⟩
  · clear hqD hqE cD cE
    by_cases e1 : p = 2
    · subst e1
      have HFF : Hid (F = ([recP c 3], 0)) := Lib.hid (by rw [← HF.out]; simp)
      clear HF
      go_wp2_with fail
      refine (refPhase_any c 3 _).mono ?_
      rintro e w6 ⟨v, rfl, hb6, hr6⟩
      obtain ⟨q8, c8, rfl⟩ := recR_form hr6
      have HR6 := Lib.hid hr6; have HW6 := Lib.hid (HW5.out.trans (hb6.mono HW5.out.size))
      clear hb6 hr6 k7 y0 y1 y2 y3 z0 z1
      go_wp2_with fail
      exact bodyPost_ret (v := .tuple #[.slice q8 1 c8, .int .i64 0]) (by simp [results, Try.results18, go_sem]) rfl ⟨_, rfl, (HALL.out _ HW6.out).2.2.2.2.2, ord_one HFF.out HR6.out⟩
    · have HFF : Hid (F = ([], 260)) := Lib.hid (by rw [← HF.out]; simp [e1])
      clear HF
      go_wp2_with fail
      exact bodyPost_ret (v := .tuple #[.slice none 0 0, .int .i64 260]) (by simp [results, Try.results18, go_sem]) rfl ⟨_, rfl, (HALL.out _ HW5.out).2.2.2.2.2, ord_nil _ HFF.out⟩
  · rw [hqE]
    clear hqD hqE cD
    by_cases e1 : p = 3
    · subst e1
      cases calm
      · have HFF : Hid (F = ([], 262)) := Lib.hid (by rw [← HF.out]; simp)
        clear HF
        go_wp2_with fail
        exact bodyPost_ret (v := .tuple #[.slice none 0 0, .int .i64 262]) (by simp [results, Try.results18, go_sem]) rfl ⟨_, rfl, (HALL.out _ HW5.out).2.2.2.2.2, ord_nil _ HFF.out⟩
      · have HFF : Hid (F = ([recP c 2], 0)) := Lib.hid (by rw [← HF.out]; simp)
        clear HF
        go_wp2_with fail
        refine (refPhase_any c 2 _).mono ?_
        rintro e w6 ⟨v, rfl, hb6, hr6⟩
        obtain ⟨q8, c8, rfl⟩ := recR_form hr6
        have HR6 := Lib.hid hr6; have HW6 := Lib.hid (HW5.out.trans (hb6.mono HW5.out.size))
        clear hb6 hr6 k7 y0 y1 y2 y3 z0 z1
        go_wp2_with fail
        exact bodyPost_ret (v := .tuple #[.slice q8 1 c8, .int .i64 0]) (by simp [results, Try.results18, go_sem]) rfl ⟨_, rfl, (HALL.out _ HW6.out).2.2.2.2.2, ord_one HFF.out HR6.out⟩
    · have HFF : Hid (F = ([], 260)) := Lib.hid (by rw [← HF.out]; simp [e1])
      clear HF
      go_wp2_with fail
      exact bodyPost_ret (v := .tuple #[.slice none 0 0, .int .i64 260]) (by simp [results, Try.results18, go_sem]) rfl ⟨_, rfl, (HALL.out _ HW5.out).2.2.2.2.2, ord_nil _ HFF.out⟩
  · rw [hqD] at y1
    clear hqD hqE cE
    by_cases e1 : p = 3
    · subst e1
      cases f
      · have HFF : Hid (F = ([recP c 4], 0)) := Lib.hid (by rw [← HF.out]; simp)
        clear HF
        go_wp2_with fail
        refine (refPhase_any c 4 _).mono ?_
        rintro e w6 ⟨v, rfl, hb6, hr6⟩
        obtain ⟨q8, c8, rfl⟩ := recR_form hr6
        have HR6 := Lib.hid hr6; have HW6 := Lib.hid (HW5.out.trans (hb6.mono HW5.out.size))
        clear hb6 hr6 k7 y0 y1 y2 y3 z0 z1
        go_wp2_with fail
        exact bodyPost_ret (v := .tuple #[.slice q8 1 c8, .int .i64 0]) (by simp [results, Try.results18, go_sem]) rfl ⟨_, rfl, (HALL.out _ HW6.out).2.2.2.2.2, ord_one HFF.out HR6.out⟩
      · have HFF : Hid (F = ([], 262)) := Lib.hid (by rw [← HF.out]; simp)
        clear HF
        go_wp2_with fail
        exact bodyPost_ret (v := .tuple #[.slice none 0 0, .int .i64 262]) (by simp [results, Try.results18, go_sem]) rfl ⟨_, rfl, (HALL.out _ HW5.out).2.2.2.2.2, ord_nil _ HFF.out⟩
    · have HFF : Hid (F = ([], 260)) := Lib.hid (by rw [← HF.out]; simp [e1])
      clear HF
      go_wp2_with fail
      exact bodyPost_ret (v := .tuple #[.slice none 0 0, .int .i64 260]) (by simp [results, Try.results18, go_sem]) rfl ⟨_, rfl, (HALL.out _ HW5.out).2.2.2.2.2, ord_nil _ HFF.out⟩
  · clear hqD hqE cD cE
    by_cases e1 : p = 4
    · subst e1
      cases l
      · go_wp2_with fail
        have hh := transit_any m a _ HP.out HG.out.1 (HALL.out _ HW5.out).2.2.2.1
        have HFB : Hid (freeB m = decide (transN m m.ph.length = 0)) := Lib.hid rfl
        generalize transN m m.ph.length = t at *
        refine hh.mono ?_
        clear hh
        rintro e w7 ⟨rfl, hb7⟩
        have HW7 := Lib.hid (HW5.out.trans (hb7.mono HW5.out.size))
        clear hb7 HW5 k7 y0 y1 y2 y3 z0 z1
        have HW5 := HW7
        clear HW7
        have k7 := (HALL.out w7 HW5.out).1.cell 7 _ rfl
        rw [HN.out] at k7
        have y0 := (HALL.out w7 HW5.out).2.1.cell 0 _ rfl
        have y1 := (HALL.out w7 HW5.out).2.1.cell 1 _ rfl
        have y2 := (HALL.out w7 HW5.out).2.1.cell 2 _ rfl
        have y3 := (HALL.out w7 HW5.out).2.1.cell 3 _ rfl
        have z0 := (HALL.out w7 HW5.out).2.2.1.cell 0 _ rfl
        have z1 := (HALL.out w7 HW5.out).2.2.1.cell 1 _ rfl
        by_cases ht : t = 0
        · subst ht
          have HFF : Hid (F = ([recLv c 1], 0)) := Lib.hid (by rw [← HF.out]; simp [HFB.out])
          clear HF
          clear HFB
          have hr6 := recR_one w7 (recLv c 1) 47
          have hb6 := below1' w7 (.cells #[.int .i64 (recLv c 1).1, .int .i64 (recLv c 1).2.1, .int .i64 (recLv c 1).2.2.1, .int .i64 (recLv c 1).2.2.2.1, .int .i64 (recLv c 1).2.2.2.2] 47)
          have HR6 := Lib.hid hr6; have HW6 := Lib.hid (HW5.out.trans (hb6.mono HW5.out.size))
          clear hr6 hb6
          go_wp2_with fail
          exact bodyPost_ret (v := .tuple #[.slice (some ⟨w7.heap.size, 0, none⟩) 1 1, .int .i64 0]) (by simp [results, Try.results18, go_sem]) rfl ⟨_, rfl, (HALL.out _ HW6.out).2.2.2.2.2, ord_one HFF.out HR6.out⟩
        · have ht' : (0 : Int) < (t : Int) := by omega
          have HFF : Hid (F = ([], 261)) := Lib.hid (by rw [← HF.out]; simp [HFB.out, ht])
          clear HF
          clear HFB ht
          go_wp2_with fail
          exact bodyPost_ret (v := .tuple #[.slice none 0 0, .int .i64 261]) (by simp [results, Try.results18, go_sem]) rfl ⟨_, rfl, (HALL.out _ HW5.out).2.2.2.2.2, ord_nil _ HFF.out⟩
      · have HFF : Hid (F = ([], 260)) := Lib.hid (by rw [← HF.out]; simp)
        clear HF
        go_wp2_with fail
        exact bodyPost_ret (v := .tuple #[.slice none 0 0, .int .i64 260]) (by simp [results, Try.results18, go_sem]) rfl ⟨_, rfl, (HALL.out _ HW5.out).2.2.2.2.2, ord_nil _ HFF.out⟩
    · have HFF : Hid (F = ([], 260)) := Lib.hid (by rw [← HF.out]; simp [e1])
      clear HF
      go_wp2_with fail
      exact bodyPost_ret (v := .tuple #[.slice none 0 0, .int .i64 260]) (by simp [results, Try.results18, go_sem]) rfl ⟨_, rfl, (HALL.out _ HW5.out).2.2.2.2.2, ord_nil _ HFF.out⟩
  · rw [hqD] at y1
    clear hqD hqE cE
    cases f
    · have HFF : Hid (F = ([], 260)) := Lib.hid (by rw [← HF.out]; simp)
      clear HF
      go_wp2_with fail
      exact bodyPost_ret (v := .tuple #[.slice none 0 0, .int .i64 260]) (by simp [results, Try.results18, go_sem]) rfl ⟨_, rfl, (HALL.out _ HW5.out).2.2.2.2.2, ord_nil _ HFF.out⟩
    · have HFF : Hid (F = ([recFl c], 0)) := Lib.hid (by rw [← HF.out]; simp)
      clear HF
      have hr6 := recR_one w5 (recFl c) 47
      have hb6 := below1' w5 (.cells #[.int .i64 (recFl c).1, .int .i64 (recFl c).2.1, .int .i64 (recFl c).2.2.1, .int .i64 (recFl c).2.2.2.1, .int .i64 (recFl c).2.2.2.2] 47)
      have HR6 := Lib.hid hr6; have HW6 := Lib.hid (HW5.out.trans (hb6.mono HW5.out.size))
      clear hr6 hb6
      go_wp2_with fail
      exact bodyPost_ret (v := .tuple #[.slice (some ⟨w5.heap.size, 0, none⟩) 1 1, .int .i64 0]) (by simp [results, Try.results18, go_sem]) rfl ⟨_, rfl, (HALL.out _ HW6.out).2.2.2.2.2, ord_one HFF.out HR6.out⟩
end Go.Proofs.Ytgoojlfpngmdlaa
