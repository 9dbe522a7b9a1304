/- The walk over overlayref19.Blind. Conditions: cars and duties that can be read; slack times that are no more than the greatest number less one. -/
import Derived.Test.YtnnkldidlgiipaaBlind
namespace Go.Proofs.Ytnnkldidlgiipaa
open Go.RowKit
set_option maxHeartbeats 4000000 in
set_option maxRecDepth 100000 in
theorem refBlind_any (b : BldV) (q : Option Addr) (cap : Nat) (car : Int) (s : BelV) (q' : Option Addr) (cap' : Nat) (w : World) (hlen : b.cars.length ≤ 1000) (hlen' : s.du.length ≤ 1000) (hsl : ∀ c ∈ b.cars, -9223372036854775808 ≤ c.sl ∧ c.sl < 9223372036854775807) (hr : RdC w q b.cars) (hd : RdD w q' s.du) :
    Calls Try.prog 37 #[cvB b q cap, .int .i64 car, cvS s q' cap'] w fun e w' => ∃ v, e = .returned v ∧ Below w.heap.size w w' ∧ belE w.heap.size (blindV b car s) (errV (stateB b car s)) v w' := by
  have X0 : Blk (w.alloc (.cells #[.int .i64 b.fl, .int .i64 b.deb, .int .i64 b.room, .int .i64 b.park, .float .f64 b.em, .float .f64 b.fu, .float .f64 b.ov, .slice q b.cars.length cap] 27)) w.heap.size [.int .i64 b.fl, .int .i64 b.deb, .int .i64 b.room, .int .i64 b.park, .float .f64 b.em, .float .f64 b.fu, .float .f64 b.ov, .slice q b.cars.length cap] := by
    have hx := Blk.new w [.int .i64 b.fl, .int .i64 b.deb, .int .i64 b.room, .int .i64 b.park, .float .f64 b.em, .float .f64 b.fu, .float .f64 b.ov, .slice q b.cars.length cap] 27
    exact hx
  replace X0 : Blk ((w.alloc (.cells #[.int .i64 b.fl, .int .i64 b.deb, .int .i64 b.room, .int .i64 b.park, .float .f64 b.em, .float .f64 b.fu, .float .f64 b.ov, .slice q b.cars.length cap] 27)).alloc (.cells #[.int .i64 s.fl, .int .i64 s.dir, .int .i64 s.door, .slice q' s.du.length cap', .int .i64 s.still, .bool s.late] 35)) w.heap.size [.int .i64 b.fl, .int .i64 b.deb, .int .i64 b.room, .int .i64 b.park, .float .f64 b.em, .float .f64 b.fu, .float .f64 b.ov, .slice q b.cars.length cap] := X0.next (below1' _ _)
  replace X0 : Blk (((w.alloc (.cells #[.int .i64 b.fl, .int .i64 b.deb, .int .i64 b.room, .int .i64 b.park, .float .f64 b.em, .float .f64 b.fu, .float .f64 b.ov, .slice q b.cars.length cap] 27)).alloc (.cells #[.int .i64 s.fl, .int .i64 s.dir, .int .i64 s.door, .slice q' s.du.length cap', .int .i64 s.still, .bool s.late] 35)).alloc (.cells #[.int .i64 0, .int .i64 0, .int .i64 0, .slice none 0 0, .int .i64 0, .bool false] 35)) w.heap.size [.int .i64 b.fl, .int .i64 b.deb, .int .i64 b.room, .int .i64 b.park, .float .f64 b.em, .float .f64 b.fu, .float .f64 b.ov, .slice q b.cars.length cap] := X0.next (below1' _ _)
  have X1 : Blk ((w.alloc (.cells #[.int .i64 b.fl, .int .i64 b.deb, .int .i64 b.room, .int .i64 b.park, .float .f64 b.em, .float .f64 b.fu, .float .f64 b.ov, .slice q b.cars.length cap] 27)).alloc (.cells #[.int .i64 s.fl, .int .i64 s.dir, .int .i64 s.door, .slice q' s.du.length cap', .int .i64 s.still, .bool s.late] 35)) (w.heap.size + 1) [.int .i64 s.fl, .int .i64 s.dir, .int .i64 s.door, .slice q' s.du.length cap', .int .i64 s.still, .bool s.late] := by
    have hx := Blk.new (w.alloc (.cells #[.int .i64 b.fl, .int .i64 b.deb, .int .i64 b.room, .int .i64 b.park, .float .f64 b.em, .float .f64 b.fu, .float .f64 b.ov, .slice q b.cars.length cap] 27)) [.int .i64 s.fl, .int .i64 s.dir, .int .i64 s.door, .slice q' s.du.length cap', .int .i64 s.still, .bool s.late] 35
    rw [World.size_alloc] at hx
    exact hx
  replace X1 : Blk (((w.alloc (.cells #[.int .i64 b.fl, .int .i64 b.deb, .int .i64 b.room, .int .i64 b.park, .float .f64 b.em, .float .f64 b.fu, .float .f64 b.ov, .slice q b.cars.length cap] 27)).alloc (.cells #[.int .i64 s.fl, .int .i64 s.dir, .int .i64 s.door, .slice q' s.du.length cap', .int .i64 s.still, .bool s.late] 35)).alloc (.cells #[.int .i64 0, .int .i64 0, .int .i64 0, .slice none 0 0, .int .i64 0, .bool false] 35)) (w.heap.size + 1) [.int .i64 s.fl, .int .i64 s.dir, .int .i64 s.door, .slice q' s.du.length cap', .int .i64 s.still, .bool s.late] := X1.next (below1' _ _)
  have X2 : Blk (((w.alloc (.cells #[.int .i64 b.fl, .int .i64 b.deb, .int .i64 b.room, .int .i64 b.park, .float .f64 b.em, .float .f64 b.fu, .float .f64 b.ov, .slice q b.cars.length cap] 27)).alloc (.cells #[.int .i64 s.fl, .int .i64 s.dir, .int .i64 s.door, .slice q' s.du.length cap', .int .i64 s.still, .bool s.late] 35)).alloc (.cells #[.int .i64 0, .int .i64 0, .int .i64 0, .slice none 0 0, .int .i64 0, .bool false] 35)) (w.heap.size + 1 + 1) [.int .i64 0, .int .i64 0, .int .i64 0, .slice none 0 0, .int .i64 0, .bool false] := by
    have hx := Blk.new ((w.alloc (.cells #[.int .i64 b.fl, .int .i64 b.deb, .int .i64 b.room, .int .i64 b.park, .float .f64 b.em, .float .f64 b.fu, .float .f64 b.ov, .slice q b.cars.length cap] 27)).alloc (.cells #[.int .i64 s.fl, .int .i64 s.dir, .int .i64 s.door, .slice q' s.du.length cap', .int .i64 s.still, .bool s.late] 35)) [.int .i64 0, .int .i64 0, .int .i64 0, .slice none 0 0, .int .i64 0, .bool false] 35
    rw [World.size_alloc, World.size_alloc] at hx
    exact hx
  have XW : Below w.heap.size w (w.alloc (.cells #[.int .i64 b.fl, .int .i64 b.deb, .int .i64 b.room, .int .i64 b.park, .float .f64 b.em, .float .f64 b.fu, .float .f64 b.ov, .slice q b.cars.length cap] 27)) := below1' w _
  replace XW : Below w.heap.size w ((w.alloc (.cells #[.int .i64 b.fl, .int .i64 b.deb, .int .i64 b.room, .int .i64 b.park, .float .f64 b.em, .float .f64 b.fu, .float .f64 b.ov, .slice q b.cars.length cap] 27)).alloc (.cells #[.int .i64 s.fl, .int .i64 s.dir, .int .i64 s.door, .slice q' s.du.length cap', .int .i64 s.still, .bool s.late] 35)) := XW.trans ((below1' _ _).mono XW.size)
  replace XW : Below w.heap.size w (((w.alloc (.cells #[.int .i64 b.fl, .int .i64 b.deb, .int .i64 b.room, .int .i64 b.park, .float .f64 b.em, .float .f64 b.fu, .float .f64 b.ov, .slice q b.cars.length cap] 27)).alloc (.cells #[.int .i64 s.fl, .int .i64 s.dir, .int .i64 s.door, .slice q' s.du.length cap', .int .i64 s.still, .bool s.late] 35)).alloc (.cells #[.int .i64 0, .int .i64 0, .int .i64 0, .slice none 0 0, .int .i64 0, .bool false] 35)) := XW.trans ((below1' _ _).mono XW.size)
  have HWW := Lib.hid XW; have HX0 := Lib.hid X0; have HX1 := Lib.hid X1; have HX2 := Lib.hid X2
  clear XW X0 X1 X2
  have HR := Lib.hid (hr.next HWW.out); have HD := Lib.hid (hd.next HWW.out)
  have HL1 := Lib.hid hlen; have HL2 := Lib.hid hlen'; have HSX := Lib.hid hsl; have hr0 := Lib.hid hr
  clear hr hd hlen hlen'
  go_enter Try.func37, Try.ntmps37
  go_upto_region 1 with fail
  generalize (((w.alloc (.cells #[.int .i64 b.fl, .int .i64 b.deb, .int .i64 b.room, .int .i64 b.park, .float .f64 b.em, .float .f64 b.fu, .float .f64 b.ov, .slice q b.cars.length cap] 27)).alloc (.cells #[.int .i64 s.fl, .int .i64 s.dir, .int .i64 s.door, .slice q' s.du.length cap', .int .i64 s.still, .bool s.late] 35)).alloc (.cells #[.int .i64 0, .int .i64 0, .int .i64 0, .slice none 0 0, .int .i64 0, .bool false] 35)) = w0 at *
  generalize hg2 : w.heap.size + 1 + 1 = g2 at *
  generalize hg1 : w.heap.size + 1 = g1 at *
  have HG1 := Lib.hid hg1; have hq1 : w.heap.size + 1 ≤ g1 := by omega
  have HG2 := Lib.hid hg2; have hq2 : w.heap.size + 2 ≤ g2 := by omega
  clear hg1 hg2
  have HW := Lib.hid (Below.refl w0.heap.size w0)
  have hz0 := HX0.out.lt; have hz1 := HX1.out.lt; have hz2 := HX2.out.lt
  have hg21 : g2 ≠ g1 := by have := HG2.out; omega
  have hG2 : w.heap.size ≤ g2 := by omega
  have hG1 : w.heap.size ≤ g1 := by omega
  have k0 := (HX0.out).cell 0 _ rfl
  have k1 := (HX0.out).cell 1 _ rfl
  have k2 := (HX0.out).cell 2 _ rfl
  have k3 := (HX0.out).cell 3 _ rfl
  have k4 := (HX0.out).cell 4 _ rfl
  have k5 := (HX0.out).cell 5 _ rfl
  have k6 := (HX0.out).cell 6 _ rfl
  have k7 := (HX0.out).cell 7 _ rfl
  have j0 := (HX1.out).cell 0 _ rfl
  have j1 := (HX1.out).cell 1 _ rfl
  have j2 := (HX1.out).cell 2 _ rfl
  have j3 := (HX1.out).cell 3 _ rfl
  have j4 := (HX1.out).cell 4 _ rfl
  have j5 := (HX1.out).cell 5 _ rfl
  have c0 := base_cell HW.out
  go_wp2_with fail
  refine (refIsState_any b q cap car s q' cap' _ HL1.out HL2.out HSX.out HR.out HD.out).mono ?_
  rintro e w1 ⟨rfl, hbn⟩
  have HWn := Lib.hid (HW.out.trans (hbn.mono HW.out.size))
  try clear c0
  clear HW hbn
  have HW := HWn
  clear HWn
  have c0 := base_cell HW.out
  cases e1 : stateB b car s
  · have E1 := Lib.hid e1
    clear e1
    have z0 := (HX2.out).cell 0 _ rfl
    have z1 := (HX2.out).cell 1 _ rfl
    have z2 := (HX2.out).cell 2 _ rfl
    have z3 := (HX2.out).cell 3 _ rfl
    have z4 := (HX2.out).cell 4 _ rfl
    have z5 := (HX2.out).cell 5 _ rfl
    have R1 := HX2.out.later HW.out hz2
    have f0 := R1.fr 0; have f1 := R1.fr 1; have f2 := R1.fr 2; have f3 := R1.fr 3; have f4 := R1.fr 4; have f5 := R1.fr 5
    clear R1
    go_wp2_with fail
    have R8 := (((((((HX2.out.later HW.out hz2).set 0 (.int .i64 0)).set 1 (.int .i64 0)).set 2 (.int .i64 0)).set 3 (.slice none 0 0)).set 4 (.int .i64 0)).set 5 (.bool false))
    have r0 := (R8).cell 0 _ rfl
    have r1 := (R8).cell 1 _ rfl
    have r2 := (R8).cell 2 _ rfl
    have r3 := (R8).cell 3 _ rfl
    have r4 := (R8).cell 4 _ rfl
    have r5 := (R8).cell 5 _ rfl
    exact bodyPost_ret (v := .tuple #[cvS zeroB none 0, .int .i64 1]) (by simp [results, Try.results37, go_sem, zeroB, r0, r1, r2, r3, r4, r5]) rfl ⟨_, rfl, ((((((HWW.out.trans (HW.out.mono HWW.out.size)).setCell (p := ⟨g2, 0, none⟩) hG2 _).setCell (p := ⟨g2, 1, none⟩) hG2 _).setCell (p := ⟨g2, 2, none⟩) hG2 _).setCell (p := ⟨g2, 3, none⟩) hG2 _).setCell (p := ⟨g2, 4, none⟩) hG2 _).setCell (p := ⟨g2, 5, none⟩) hG2 _, ⟨none, 0, by unfold blindV errV; rw [E1.out]; rfl, by unfold blindV; rw [E1.out]; exact fun i d h => by simp [zeroB] at h, fun A h => by cases h⟩⟩
  · have HST := Lib.hid e1
    clear e1
    have HVV : Hid (blindV b car s = ⟨s.fl, s.dir, s.door, (agedV b car s (0#32, 0#32)).du, 0, (agedV b car s (0#32, 0#32)).late⟩) := Lib.hid (by unfold blindV; rw [HST.out, if_pos rfl])
    obtain ⟨V, hV⟩ : ∃ V, V = agedV b car s (0#32, 0#32) := ⟨_, rfl⟩
    have HVX : Hid (V.fl = s.fl ∧ V.dir = s.dir ∧ V.door = s.door ∧ V.still = s.still) := Lib.hid (by rw [hV]; exact ⟨rfl, rfl, rfl, rfl⟩)
    have HV := Lib.hid hV
    have HVV2 : Hid (blindV b car s = ⟨V.fl, V.dir, V.door, V.du, 0, V.late⟩) := Lib.hid (by rw [HVV.out, hV]; rfl)
    clear hV
    go_wp2_with fail
    refine (refAged_any b q cap car s q' cap' (0#32, 0#32) _ HL2.out HST.out ((hr0.out.next HWW.out).next HW.out) (HD.out.next HW.out)).mono ?_
    rintro e w8 ⟨_, rfl, hb8, q9, cap9, rfl, hrd9, hlo9x⟩
    rw [← HV.out] at hrd9
    have hlo9 : ∀ A, q9 = some A → w0.heap.size ≤ A.block := fun A hA => Nat.le_trans HW.out.size (hlo9x A hA)
    have HW3 := Lib.hid (HW.out.trans (hb8.mono HW.out.size))
    have HRD := Lib.hid hrd9
    have hlo1 : ∀ A, q9 = some A → A.block ≠ g1 := fun A hA => by have := hlo9 A hA; omega
    have hlo2 : ∀ A, q9 = some A → A.block ≠ g2 := fun A hA => by have := hlo9 A hA; omega
    have hloW : ∀ A, q9 = some A → w.heap.size ≤ A.block := fun A hA => Nat.le_trans HWW.out.size (hlo9 A hA)
    have HLO1 := Lib.hid hlo1; have HLO2 := Lib.hid hlo2; have HLOW := Lib.hid hloW
    rw [← HV.out]
    clear hlo1 hlo2 hloW hlo9 hlo9x hb8 hrd9 HW c0 k0 k1 k2 k3 k4 k5 k6 k7 j0 j1 j2 j3 j4 j5
    have BS := HX1.out.later HW3.out hz1
    have j0 := (BS).cell 0 _ rfl
    have j1 := (BS).cell 1 _ rfl
    have j2 := (BS).cell 2 _ rfl
    have j3 := (BS).cell 3 _ rfl
    have j4 := (BS).cell 4 _ rfl
    have j5 := (BS).cell 5 _ rfl
    have e0 := BS.fr 0; have e1 := BS.fr 1; have e2 := BS.fr 2; have e3 := BS.fr 3; have e4 := BS.fr 4; have e5 := BS.fr 5
    clear BS
    go_upto_region 4 with fail
    have S4 : Blk ((((((w8.setCell ⟨g1, 0, none⟩ (.int .i64 V.fl)).setCell ⟨g1, 1, none⟩ (.int .i64 V.dir)).setCell ⟨g1, 2, none⟩ (.int .i64 V.door)).setCell ⟨g1, 3, none⟩ (.slice q9 V.du.length cap9)).setCell ⟨g1, 4, none⟩ (.int .i64 V.still)).setCell ⟨g1, 5, none⟩ (.bool V.late)) g1 [.int .i64 V.fl, .int .i64 V.dir, .int .i64 V.door, .slice q9 V.du.length cap9, .int .i64 V.still, .bool V.late] := ((((((HX1.out.later HW3.out hz1).set 0 (.int .i64 V.fl)).set 1 (.int .i64 V.dir)).set 2 (.int .i64 V.door)).set 3 (.slice q9 V.du.length cap9)).set 4 (.int .i64 V.still)).set 5 (.bool V.late)
    have R4 := ((((((HX2.out.later HW3.out hz2).other (i := 0) hg21 (.int .i64 V.fl)).other (i := 1) hg21 (.int .i64 V.dir)).other (i := 2) hg21 (.int .i64 V.door)).other (i := 3) hg21 (.slice q9 V.du.length cap9)).other (i := 4) hg21 (.int .i64 V.still)).other (i := 5) hg21 (.bool V.late)
    have D4 := (((((HRD.out.set (g := g1) (i := 0) (u := .int .i64 V.fl) HLO1.out).set (g := g1) (i := 1) (u := .int .i64 V.dir) HLO1.out).set (g := g1) (i := 2) (u := .int .i64 V.door) HLO1.out).set (g := g1) (i := 3) (u := .slice q9 V.du.length cap9) HLO1.out).set (g := g1) (i := 4) (u := .int .i64 V.still) HLO1.out).set (g := g1) (i := 5) (u := .bool V.late) HLO1.out
    have W4 := ((((((HWW.out.trans (HW3.out.mono HWW.out.size)).setCell (p := ⟨g1, 0, none⟩) hG1 (.int .i64 V.fl)).setCell (p := ⟨g1, 1, none⟩) hG1 (.int .i64 V.dir)).setCell (p := ⟨g1, 2, none⟩) hG1 (.int .i64 V.door)).setCell (p := ⟨g1, 3, none⟩) hG1 (.slice q9 V.du.length cap9)).setCell (p := ⟨g1, 4, none⟩) hG1 (.int .i64 V.still)).setCell (p := ⟨g1, 5, none⟩) hG1 (.bool V.late)
    have HS := Lib.hid S4; have HRS := Lib.hid R4; have HD4 := Lib.hid D4; have HW4 := Lib.hid W4
    clear S4 R4 D4 W4 HW3 HRD j0 j1 j2 j3 j4 j5 e0 e1 e2 e3 e4 e5
    generalize ((((((w8.setCell ⟨g1, 0, none⟩ (.int .i64 V.fl)).setCell ⟨g1, 1, none⟩ (.int .i64 V.dir)).setCell ⟨g1, 2, none⟩ (.int .i64 V.door)).setCell ⟨g1, 3, none⟩ (.slice q9 V.du.length cap9)).setCell ⟨g1, 4, none⟩ (.int .i64 V.still)).setCell ⟨g1, 5, none⟩ (.bool V.late)) = w4 at *
    have j0 := (HS.out).cell 0 _ rfl
    have j1 := (HS.out).cell 1 _ rfl
    have j2 := (HS.out).cell 2 _ rfl
    have j3 := (HS.out).cell 3 _ rfl
    have j4 := (HS.out).cell 4 _ rfl
    have j5 := (HS.out).cell 5 _ rfl
    have e4 := HS.out.fr 4
    go_upto_region 5 with fail
    have HS5 := Lib.hid (HS.out.set 4 (.int .i64 0))
    have HR5 := Lib.hid (HRS.out.other (i := 4) hg21 (.int .i64 0))
    have HD5 := Lib.hid (HD4.out.set (g := g1) (i := 4) (u := .int .i64 0) HLO1.out)
    have HW5 := Lib.hid (HW4.out.setCell (p := ⟨g1, 4, none⟩) hG1 (.int .i64 0))
    clear HS HRS HD4 HW4 j0 j1 j2 j3 j4 j5 e4
    change Hid (Blk _ g1 [.int .i64 V.fl, .int .i64 V.dir, .int .i64 V.door, .slice q9 V.du.length cap9, .int .i64 0, .bool V.late]) at HS5
    generalize w4.setCell ⟨g1, 4, none⟩ (.int .i64 0) = w5 at *
    have j0 := (HS5.out).cell 0 _ rfl
    have j1 := (HS5.out).cell 1 _ rfl
    have j2 := (HS5.out).cell 2 _ rfl
    have j3 := (HS5.out).cell 3 _ rfl
    have j4 := (HS5.out).cell 4 _ rfl
    have j5 := (HS5.out).cell 5 _ rfl
    have z0 := (HR5.out).cell 0 _ rfl
    have z1 := (HR5.out).cell 1 _ rfl
    have z2 := (HR5.out).cell 2 _ rfl
    have z3 := (HR5.out).cell 3 _ rfl
    have z4 := (HR5.out).cell 4 _ rfl
    have z5 := (HR5.out).cell 5 _ rfl
    have f0 := HR5.out.fr 0; have f1 := HR5.out.fr 1; have f2 := HR5.out.fr 2; have f3 := HR5.out.fr 3; have f4 := HR5.out.fr 4; have f5 := HR5.out.fr 5
    go_wp2_with fail
    have R8 := (((((HR5.out.set 0 (.int .i64 V.fl)).set 1 (.int .i64 V.dir)).set 2 (.int .i64 V.door)).set 3 (.slice q9 V.du.length cap9)).set 4 (.int .i64 0)).set 5 (.bool V.late)
    have r0 := (R8).cell 0 _ rfl
    have r1 := (R8).cell 1 _ rfl
    have r2 := (R8).cell 2 _ rfl
    have r3 := (R8).cell 3 _ rfl
    have r4 := (R8).cell 4 _ rfl
    have r5 := (R8).cell 5 _ rfl
    exact bodyPost_ret (v := .tuple #[cvS ⟨V.fl, V.dir, V.door, V.du, 0, V.late⟩ q9 cap9, .int .i64 0]) (by simp [results, Try.results37, go_sem, r0, r1, r2, r3, r4, r5]) rfl ⟨_, rfl, (((((HW5.out.setCell (p := ⟨g2, 0, none⟩) hG2 _).setCell (p := ⟨g2, 1, none⟩) hG2 _).setCell (p := ⟨g2, 2, none⟩) hG2 _).setCell (p := ⟨g2, 3, none⟩) hG2 _).setCell (p := ⟨g2, 4, none⟩) hG2 _).setCell (p := ⟨g2, 5, none⟩) hG2 _, ⟨q9, cap9, by rw [HVV2.out, HST.out]; rfl, by rw [HVV2.out]; exact (((((HD5.out.set HLO2.out).set HLO2.out).set HLO2.out).set HLO2.out).set HLO2.out).set HLO2.out, HLOW.out⟩⟩
end Go.Proofs.Ytnnkldidlgiipaa
