/- The walk over overlaylaw19.same: the code's functions against the reference's. Conditions: cars and duties that can be read, at most 900 duties; slack times that are no more than the greatest number less one. -/
import Derived.Test.YtnnkldidlgiipaaSameC
import Derived.Test.YtnnkldidlgiipaaLawState
import Derived.Test.YtnnkldidlgiipaaInjEq
import Derived.Test.YtnnkldidlgiipaaBlindRef
import Derived.Test.YtnnkldidlgiipaaQuietRef
import Derived.Test.YtnnkldidlgiipaaMade
namespace Go.Proofs.Ytnnkldidlgiipaa
open Go.RowKit
theorem sameB_self (s : BelV) : sameB s s = true := by simp [sameB]
theorem refSame_self (s : BelV) (q : Option Addr) (cap : Nat) (q' : Option Addr) (cap' : Nat) (w : World) (hlen : s.du.length ≤ 1000) (hd : RdD w q s.du) (hd' : RdD w q' s.du) :
    Calls Try.prog 17 #[cvS s q cap, cvS s q' cap'] w fun e w' => e = .returned (.bool true) ∧ Below w.heap.size w w' := by
  have h := refSame_any s q cap s q' cap' w hlen hd hd'
  rw [sameB_self] at h
  exact h
theorem refIsState_true (b : BldV) (q : Option Addr) (cap : Nat) (car : Int) (s : BelV) (q' : Option Addr) (cap' : Nat) (w : World) (hs : stateB b car s = true) (hlen : b.cars.length ≤ 1000) (hlen' : s.du.length ≤ 1000) (hsl : ∀ c ∈ b.cars, -9223372036854775808 ≤ c.sl ∧ c.sl < 9223372036854775807) (hr : RdC w q b.cars) (hd : RdD w q' s.du) :
    Calls Try.prog 35 #[cvB b q cap, .int .i64 car, cvS s q' cap'] w fun e w' => e = .returned (.bool true) ∧ Below w.heap.size w w' := by
  have h := refIsState_any b q cap car s q' cap' w hlen hlen' hsl hr hd
  rw [hs] at h
  exact h
theorem errV_range (b : Bool) : errV b = 0 ∨ errV b = 1 := by cases b <;> simp [errV]
theorem errV_zero {b : Bool} (h : errV b = 0) : b = true := by cases b <;> simp [errV] at h ⊢
theorem blind_len (b : BldV) (car : Int) (s : BelV) : (blindV b car s).du.length ≤ s.du.length := by
  unfold blindV
  split
  · show (agedV b car s (0#32, 0#32)).du.length ≤ _
    unfold agedV
    show (if _ then [] else _ : List Duty).length ≤ _
    split
    · simp
    · exact agedL_len _ _
  · simp [zeroB]
theorem forget_len (b : BldV) (car : Int) (s : BelV) : (forgetV b car s).du.length ≤ 0 := by
  unfold forgetV
  split <;> simp [zeroB]
abbrev cvM (m : MarkV) : Value := .agg #[.int .u32 (m.1.1.toNat : Int), .int .u32 (m.1.2.toNat : Int), .int .i64 m.2.1, .int .i64 m.2.2.1, .int .i64 m.2.2.2]
set_option maxHeartbeats 8000000 in
set_option maxRecDepth 100000 in
theorem lawSame_any (b : BldV) (q : Option Addr) (cap : Nat) (car : Int) (s : BelV) (q' : Option Addr) (cap' : Nat) (m : MarkV) (w : World) (hlen : b.cars.length ≤ 1000) (hlen' : s.du.length ≤ 900) (hsl : ∀ c ∈ b.cars, -9223372036854775808 ≤ c.sl ∧ c.sl < 9223372036854775807) (hr : RdC w q b.cars) (hd : RdD w q' s.du) :
    Calls Try.prog 15 #[cvB b q cap, .int .i64 car, cvS s q' cap', cvM m] w fun e w' => e = .returned (.bool true) ∧ Below w.heap.size w w' := by
  have X0 : Blk (w.alloc (.cells #[.int .i64 b.fl, .int .i64 b.deb, .int .i64 b.room, .int .i64 b.park, .float .f64 b.em, .float .f64 b.fu, .float .f64 b.ov, .slice q b.cars.length cap] 27)) w.heap.size [.int .i64 b.fl, .int .i64 b.deb, .int .i64 b.room, .int .i64 b.park, .float .f64 b.em, .float .f64 b.fu, .float .f64 b.ov, .slice q b.cars.length cap] := by
    have hx := Blk.new w [.int .i64 b.fl, .int .i64 b.deb, .int .i64 b.room, .int .i64 b.park, .float .f64 b.em, .float .f64 b.fu, .float .f64 b.ov, .slice q b.cars.length cap] 27
    exact hx
  replace X0 : Blk ((w.alloc (.cells #[.int .i64 b.fl, .int .i64 b.deb, .int .i64 b.room, .int .i64 b.park, .float .f64 b.em, .float .f64 b.fu, .float .f64 b.ov, .slice q b.cars.length cap] 27)).alloc (.cells #[.int .i64 s.fl, .int .i64 s.dir, .int .i64 s.door, .slice q' s.du.length cap', .int .i64 s.still, .bool s.late] 35)) w.heap.size [.int .i64 b.fl, .int .i64 b.deb, .int .i64 b.room, .int .i64 b.park, .float .f64 b.em, .float .f64 b.fu, .float .f64 b.ov, .slice q b.cars.length cap] := X0.next (below1' _ _)
  replace X0 : Blk (((w.alloc (.cells #[.int .i64 b.fl, .int .i64 b.deb, .int .i64 b.room, .int .i64 b.park, .float .f64 b.em, .float .f64 b.fu, .float .f64 b.ov, .slice q b.cars.length cap] 27)).alloc (.cells #[.int .i64 s.fl, .int .i64 s.dir, .int .i64 s.door, .slice q' s.du.length cap', .int .i64 s.still, .bool s.late] 35)).alloc (.cells #[.int .u32 (m.1.1.toNat : Int), .int .u32 (m.1.2.toNat : Int), .int .i64 m.2.1, .int .i64 m.2.2.1, .int .i64 m.2.2.2] 43)) w.heap.size [.int .i64 b.fl, .int .i64 b.deb, .int .i64 b.room, .int .i64 b.park, .float .f64 b.em, .float .f64 b.fu, .float .f64 b.ov, .slice q b.cars.length cap] := X0.next (below1' _ _)
  have X1 : Blk ((w.alloc (.cells #[.int .i64 b.fl, .int .i64 b.deb, .int .i64 b.room, .int .i64 b.park, .float .f64 b.em, .float .f64 b.fu, .float .f64 b.ov, .slice q b.cars.length cap] 27)).alloc (.cells #[.int .i64 s.fl, .int .i64 s.dir, .int .i64 s.door, .slice q' s.du.length cap', .int .i64 s.still, .bool s.late] 35)) (w.heap.size + 1) [.int .i64 s.fl, .int .i64 s.dir, .int .i64 s.door, .slice q' s.du.length cap', .int .i64 s.still, .bool s.late] := by
    have hx := Blk.new (w.alloc (.cells #[.int .i64 b.fl, .int .i64 b.deb, .int .i64 b.room, .int .i64 b.park, .float .f64 b.em, .float .f64 b.fu, .float .f64 b.ov, .slice q b.cars.length cap] 27)) [.int .i64 s.fl, .int .i64 s.dir, .int .i64 s.door, .slice q' s.du.length cap', .int .i64 s.still, .bool s.late] 35
    rw [World.size_alloc] at hx
    exact hx
  replace X1 : Blk (((w.alloc (.cells #[.int .i64 b.fl, .int .i64 b.deb, .int .i64 b.room, .int .i64 b.park, .float .f64 b.em, .float .f64 b.fu, .float .f64 b.ov, .slice q b.cars.length cap] 27)).alloc (.cells #[.int .i64 s.fl, .int .i64 s.dir, .int .i64 s.door, .slice q' s.du.length cap', .int .i64 s.still, .bool s.late] 35)).alloc (.cells #[.int .u32 (m.1.1.toNat : Int), .int .u32 (m.1.2.toNat : Int), .int .i64 m.2.1, .int .i64 m.2.2.1, .int .i64 m.2.2.2] 43)) (w.heap.size + 1) [.int .i64 s.fl, .int .i64 s.dir, .int .i64 s.door, .slice q' s.du.length cap', .int .i64 s.still, .bool s.late] := X1.next (below1' _ _)
  have X2 : Blk (((w.alloc (.cells #[.int .i64 b.fl, .int .i64 b.deb, .int .i64 b.room, .int .i64 b.park, .float .f64 b.em, .float .f64 b.fu, .float .f64 b.ov, .slice q b.cars.length cap] 27)).alloc (.cells #[.int .i64 s.fl, .int .i64 s.dir, .int .i64 s.door, .slice q' s.du.length cap', .int .i64 s.still, .bool s.late] 35)).alloc (.cells #[.int .u32 (m.1.1.toNat : Int), .int .u32 (m.1.2.toNat : Int), .int .i64 m.2.1, .int .i64 m.2.2.1, .int .i64 m.2.2.2] 43)) (w.heap.size + 1 + 1) [.int .u32 (m.1.1.toNat : Int), .int .u32 (m.1.2.toNat : Int), .int .i64 m.2.1, .int .i64 m.2.2.1, .int .i64 m.2.2.2] := by
    have hx := Blk.new ((w.alloc (.cells #[.int .i64 b.fl, .int .i64 b.deb, .int .i64 b.room, .int .i64 b.park, .float .f64 b.em, .float .f64 b.fu, .float .f64 b.ov, .slice q b.cars.length cap] 27)).alloc (.cells #[.int .i64 s.fl, .int .i64 s.dir, .int .i64 s.door, .slice q' s.du.length cap', .int .i64 s.still, .bool s.late] 35)) [.int .u32 (m.1.1.toNat : Int), .int .u32 (m.1.2.toNat : Int), .int .i64 m.2.1, .int .i64 m.2.2.1, .int .i64 m.2.2.2] 43
    rw [World.size_alloc, World.size_alloc] at hx
    exact hx
  have XW : Below w.heap.size w (w.alloc (.cells #[.int .i64 b.fl, .int .i64 b.deb, .int .i64 b.room, .int .i64 b.park, .float .f64 b.em, .float .f64 b.fu, .float .f64 b.ov, .slice q b.cars.length cap] 27)) := below1' w _
  replace XW : Below w.heap.size w ((w.alloc (.cells #[.int .i64 b.fl, .int .i64 b.deb, .int .i64 b.room, .int .i64 b.park, .float .f64 b.em, .float .f64 b.fu, .float .f64 b.ov, .slice q b.cars.length cap] 27)).alloc (.cells #[.int .i64 s.fl, .int .i64 s.dir, .int .i64 s.door, .slice q' s.du.length cap', .int .i64 s.still, .bool s.late] 35)) := XW.trans ((below1' _ _).mono XW.size)
  replace XW : Below w.heap.size w (((w.alloc (.cells #[.int .i64 b.fl, .int .i64 b.deb, .int .i64 b.room, .int .i64 b.park, .float .f64 b.em, .float .f64 b.fu, .float .f64 b.ov, .slice q b.cars.length cap] 27)).alloc (.cells #[.int .i64 s.fl, .int .i64 s.dir, .int .i64 s.door, .slice q' s.du.length cap', .int .i64 s.still, .bool s.late] 35)).alloc (.cells #[.int .u32 (m.1.1.toNat : Int), .int .u32 (m.1.2.toNat : Int), .int .i64 m.2.1, .int .i64 m.2.2.1, .int .i64 m.2.2.2] 43)) := XW.trans ((below1' _ _).mono XW.size)
  have HWW := Lib.hid XW; have HX0 := Lib.hid X0; have HX1 := Lib.hid X1; have HX2 := Lib.hid X2
  clear XW X0 X1 X2
  have HR := Lib.hid (hr.next HWW.out); have HD := Lib.hid (hd.next HWW.out)
  have HL1 := Lib.hid hlen; have HL2 : Hid (s.du.length ≤ 1000) := Lib.hid (by omega); have HL9 := Lib.hid hlen'; have HSX := Lib.hid hsl
  clear hr hd hlen hlen' hsl
  go_enter Try.func15, Try.ntmps15
  go_upto_region 1 with fail
  generalize (((w.alloc (.cells #[.int .i64 b.fl, .int .i64 b.deb, .int .i64 b.room, .int .i64 b.park, .float .f64 b.em, .float .f64 b.fu, .float .f64 b.ov, .slice q b.cars.length cap] 27)).alloc (.cells #[.int .i64 s.fl, .int .i64 s.dir, .int .i64 s.door, .slice q' s.du.length cap', .int .i64 s.still, .bool s.late] 35)).alloc (.cells #[.int .u32 (m.1.1.toNat : Int), .int .u32 (m.1.2.toNat : Int), .int .i64 m.2.1, .int .i64 m.2.2.1, .int .i64 m.2.2.2] 43)) = w0 at *
  generalize hg2 : w.heap.size + 1 + 1 = g2 at *
  generalize hg1 : w.heap.size + 1 = g1 at *
  have HG1 := Lib.hid hg1; have hq1 : w.heap.size + 1 ≤ g1 := by omega
  have HG2 := Lib.hid hg2; have hq2 : w.heap.size + 2 ≤ g2 := by omega
  clear hg1 hg2
  have HW := Lib.hid (Below.refl w0.heap.size w0)
  have hz0 := HX0.out.lt; have hz1 := HX1.out.lt; have hz2 := HX2.out.lt
  have hA1 : (observeV b car s m.2).du.length ≤ 1000 := Nat.le_trans (obs_len _ _ _ _) HL2.out
  have hA2 : (injectV b car s m.1).du.length ≤ 1000 := Nat.le_trans (inj_len _ _ _ _) (by omega)
  have hA3 : (blindV b car s).du.length ≤ 1000 := Nat.le_trans (blind_len _ _ _) HL2.out
  have hA4 : (forgetV b car s).du.length ≤ 1000 := Nat.le_trans (forget_len _ _ _) (by omega)
  have hS1 : errV (obsOk b car s m.2) = 0 → stateB b car (observeV b car s m.2) = true := fun h => observe_state _ _ _ _ (errV_zero h)
  have hS2 : errV (stateB b car s) = 0 → stateB b car (injectV b car s m.1) = true := fun h => inject_state _ _ _ _ (errV_zero h)
  have HO1 : Hid (∀ W, Below w0.heap.size w0 W → Calls Try.prog 10 #[cvB b q cap, .int .i64 car, cvS s q' cap', .agg #[.int .i64 m.2.1, .int .i64 m.2.2.1, .int .i64 m.2.2.2]] W fun e w' => ∃ v, e = .returned v ∧ Below W.heap.size W w' ∧ belE W.heap.size (observeV b car s m.2) (errV (obsOk b car s m.2)) v w') := by
    refine Lib.hid fun W hW => ?_
    have h := observe_any b q cap car s q' cap' m.2 W HL1.out HL2.out (HR.out.next hW) (HD.out.next hW)
    exact h
  have HO2 : Hid (∀ W, Below w0.heap.size w0 W → Calls Try.prog 33 #[cvB b q cap, .int .i64 car, cvS s q' cap', .agg #[.int .i64 m.2.1, .int .i64 m.2.2.1, .int .i64 m.2.2.2]] W fun e w' => ∃ v, e = .returned v ∧ Below W.heap.size W w' ∧ belE W.heap.size (observeV b car s m.2) (errV (obsOk b car s m.2)) v w') := by
    refine Lib.hid fun W hW => ?_
    have h := refObserve_any b q cap car s q' cap' m.2 W HL1.out HL2.out HSX.out (HR.out.next hW) (HD.out.next hW)
    exact h
  have HO3 : Hid (∀ W, Below w0.heap.size w0 W → Calls Try.prog 12 #[cvB b q cap, .int .i64 car, cvS s q' cap', cv m.1] W fun e w' => ∃ v, e = .returned v ∧ Below W.heap.size W w' ∧ belE W.heap.size (injectV b car s m.1) (errV (stateB b car s)) v w') := by
    refine Lib.hid fun W hW => ?_
    have h := inject_any b q cap car s q' cap' m.1 W HL1.out HL9.out (HR.out.next hW) (HD.out.next hW)
    rw [injectW_eq] at h
    exact h
  have HO4 : Hid (∀ W, Below w0.heap.size w0 W → Calls Try.prog 34 #[cvB b q cap, .int .i64 car, cvS s q' cap', cv m.1] W fun e w' => ∃ v, e = .returned v ∧ Below W.heap.size W w' ∧ belE W.heap.size (injectV b car s m.1) (errV (stateB b car s)) v w') := by
    refine Lib.hid fun W hW => ?_
    have h := refInject_any b q cap car s q' cap' m.1 W HL1.out HL2.out HSX.out (HR.out.next hW) (HD.out.next hW)
    exact h
  have HO5 : Hid (∀ W, Below w0.heap.size w0 W → Calls Try.prog 36 #[cvB b q cap, .int .i64 car, cvS s q' cap'] W fun e w' => ∃ v, e = .returned v ∧ Below W.heap.size W w' ∧ belE W.heap.size (blindV b car s) (errV (stateB b car s)) v w') := by
    refine Lib.hid fun W hW => ?_
    have h := blind_any b q cap car s q' cap' W HL1.out HL2.out (HR.out.next hW) (HD.out.next hW)
    exact h
  have HO6 : Hid (∀ W, Below w0.heap.size w0 W → Calls Try.prog 37 #[cvB b q cap, .int .i64 car, cvS s q' cap'] W fun e w' => ∃ v, e = .returned v ∧ Below W.heap.size W w' ∧ belE W.heap.size (blindV b car s) (errV (stateB b car s)) v w') := by
    refine Lib.hid fun W hW => ?_
    have h := refBlind_any b q cap car s q' cap' W HL1.out HL2.out HSX.out (HR.out.next hW) (HD.out.next hW)
    exact h
  have HO7 : Hid (∀ W, Below w0.heap.size w0 W → Calls Try.prog 38 #[cvB b q cap, .int .i64 car, cvS s q' cap'] W fun e w' => ∃ v, e = .returned v ∧ Below W.heap.size W w' ∧ belE W.heap.size (forgetV b car s) (errV (stateB b car s)) v w') := by
    refine Lib.hid fun W hW => ?_
    have h := forget_any b q cap car s q' cap' W HL1.out HL2.out (HR.out.next hW) (HD.out.next hW)
    exact h
  have HO8 : Hid (∀ W, Below w0.heap.size w0 W → Calls Try.prog 39 #[cvB b q cap, .int .i64 car, cvS s q' cap'] W fun e w' => ∃ v, e = .returned v ∧ Below W.heap.size W w' ∧ belE W.heap.size (forgetV b car s) (errV (stateB b car s)) v w') := by
    refine Lib.hid fun W hW => ?_
    have h := refForget_any b q cap car s q' cap' W HL1.out HL2.out HSX.out (HR.out.next hW) (HD.out.next hW)
    exact h
  generalize observeV b car s m.2 = V1 at *
  generalize injectV b car s m.1 = V2 at *
  generalize blindV b car s = V3 at *
  generalize forgetV b car s = V4 at *
  generalize errV (obsOk b car s m.2) = E1 at *
  generalize errV (stateB b car s) = E2 at *
  have HA1 := Lib.hid hA1
  have HA2 := Lib.hid hA2
  have HA3 := Lib.hid hA3
  have HA4 := Lib.hid hA4
  have HS1 := Lib.hid hS1; have HS2 := Lib.hid hS2
  clear hA1 hA2 hA3 hA4 hS1 hS2
  have k0 := (HX0.out).cell 0 _ rfl
  have k1 := (HX0.out).cell 1 _ rfl
  have k2 := (HX0.out).cell 2 _ rfl
  have k3 := (HX0.out).cell 3 _ rfl
  have k4 := (HX0.out).cell 4 _ rfl
  have k5 := (HX0.out).cell 5 _ rfl
  have k6 := (HX0.out).cell 6 _ rfl
  have k7 := (HX0.out).cell 7 _ rfl
  have j0 := (HX1.out).cell 0 _ rfl
  have j1 := (HX1.out).cell 1 _ rfl
  have j2 := (HX1.out).cell 2 _ rfl
  have j3 := (HX1.out).cell 3 _ rfl
  have j4 := (HX1.out).cell 4 _ rfl
  have j5 := (HX1.out).cell 5 _ rfl
  have p0 := (HX2.out).cell 0 _ rfl
  have p1 := (HX2.out).cell 1 _ rfl
  have p2 := (HX2.out).cell 2 _ rfl
  have p3 := (HX2.out).cell 3 _ rfl
  have p4 := (HX2.out).cell 4 _ rfl
  have c0 := base_cell HW.out
  go_wp2_with fail
  refine (HO1.out _ HW.out).mono ?_
  rintro e w1 ⟨_, rfl, hb, q1, cap1, rfl, hrd, hlo⟩
  have HWn := Lib.hid (HW.out.trans (hb.mono HW.out.size))
  clear HW c0
  have B := Blk.new w1 [.int .i64 V1.fl, .int .i64 V1.dir, .int .i64 V1.door, .slice q1 V1.du.length cap1, .int .i64 V1.still, .bool V1.late] 35
  have hbn := below1' w1 (.cells #[.int .i64 V1.fl, .int .i64 V1.dir, .int .i64 V1.door, .slice q1 V1.du.length cap1, .int .i64 V1.still, .bool V1.late] 35)
  change Blk (w1.alloc (.cells #[.int .i64 V1.fl, .int .i64 V1.dir, .int .i64 V1.door, .slice q1 V1.du.length cap1, .int .i64 V1.still, .bool V1.late] 35)) _ _ at B
  have HB1 := Lib.hid B
  have HD1 := Lib.hid (hrd.next hbn)
  have HW := Lib.hid (HWn.out.trans (hbn.mono HWn.out.size))
  have hge1 : w0.heap.size ≤ w1.heap.size := HWn.out.size
  clear hb hrd hlo B hbn HWn HO1
  have c0 := base_cell HW.out
  go_upto_region 2 with fail
  generalize w1.alloc (.cells #[.int .i64 V1.fl, .int .i64 V1.dir, .int .i64 V1.door, .slice q1 V1.du.length cap1, .int .i64 V1.still, .bool V1.late] 35) = y1 at *
  generalize w1.heap.size = g9 at *
  go_wp2_with fail
  refine (HO2.out _ HW.out).mono ?_
  rintro e w2 ⟨_, rfl, hb, q2, cap2, rfl, hrd, hlo⟩
  have HWn := Lib.hid (HW.out.trans (hb.mono HW.out.size))
  clear HW c0
  have B := Blk.new w2 [.int .i64 V1.fl, .int .i64 V1.dir, .int .i64 V1.door, .slice q2 V1.du.length cap2, .int .i64 V1.still, .bool V1.late] 35
  have hbn := below1' w2 (.cells #[.int .i64 V1.fl, .int .i64 V1.dir, .int .i64 V1.door, .slice q2 V1.du.length cap2, .int .i64 V1.still, .bool V1.late] 35)
  change Blk (w2.alloc (.cells #[.int .i64 V1.fl, .int .i64 V1.dir, .int .i64 V1.door, .slice q2 V1.du.length cap2, .int .i64 V1.still, .bool V1.late] 35)) _ _ at B
  have HB2 := Lib.hid B
  have HD2 := Lib.hid (hrd.next hbn)
  have HW := Lib.hid (HWn.out.trans (hbn.mono HWn.out.size))
  have hge2 : w0.heap.size ≤ w2.heap.size := HWn.out.size
  have hlt12 : g9 < w2.heap.size := Nat.lt_of_lt_of_le HB1.out.lt hb.size
  have HBn := Lib.hid ((HB1.out.next hb).next hbn); have HDn := Lib.hid ((HD1.out.next hb).next hbn); clear HB1 HD1; have HB1 := HBn; have HD1 := HDn; clear HBn HDn
  clear hb hrd hlo B hbn HWn HO2
  have c0 := base_cell HW.out
  go_upto_region 3 with fail
  generalize w2.alloc (.cells #[.int .i64 V1.fl, .int .i64 V1.dir, .int .i64 V1.door, .slice q2 V1.du.length cap2, .int .i64 V1.still, .bool V1.late] 35) = y2 at *
  generalize w2.heap.size = g11 at *
  go_wp2_with fail
  refine (HO3.out _ HW.out).mono ?_
  rintro e w3 ⟨_, rfl, hb, q3, cap3, rfl, hrd, hlo⟩
  have HWn := Lib.hid (HW.out.trans (hb.mono HW.out.size))
  clear HW c0
  have B := Blk.new w3 [.int .i64 V2.fl, .int .i64 V2.dir, .int .i64 V2.door, .slice q3 V2.du.length cap3, .int .i64 V2.still, .bool V2.late] 35
  have hbn := below1' w3 (.cells #[.int .i64 V2.fl, .int .i64 V2.dir, .int .i64 V2.door, .slice q3 V2.du.length cap3, .int .i64 V2.still, .bool V2.late] 35)
  change Blk (w3.alloc (.cells #[.int .i64 V2.fl, .int .i64 V2.dir, .int .i64 V2.door, .slice q3 V2.du.length cap3, .int .i64 V2.still, .bool V2.late] 35)) _ _ at B
  have HB3 := Lib.hid B
  have HD3 := Lib.hid (hrd.next hbn)
  have HW := Lib.hid (HWn.out.trans (hbn.mono HWn.out.size))
  have hge3 : w0.heap.size ≤ w3.heap.size := HWn.out.size
  have hlt13 : g9 < w3.heap.size := Nat.lt_of_lt_of_le HB1.out.lt hb.size
  have hlt23 : g11 < w3.heap.size := Nat.lt_of_lt_of_le HB2.out.lt hb.size
  have HBn := Lib.hid ((HB1.out.next hb).next hbn); have HDn := Lib.hid ((HD1.out.next hb).next hbn); clear HB1 HD1; have HB1 := HBn; have HD1 := HDn; clear HBn HDn
  have HBn := Lib.hid ((HB2.out.next hb).next hbn); have HDn := Lib.hid ((HD2.out.next hb).next hbn); clear HB2 HD2; have HB2 := HBn; have HD2 := HDn; clear HBn HDn
  clear hb hrd hlo B hbn HWn HO3
  have c0 := base_cell HW.out
  go_upto_region 4 with fail
  generalize w3.alloc (.cells #[.int .i64 V2.fl, .int .i64 V2.dir, .int .i64 V2.door, .slice q3 V2.du.length cap3, .int .i64 V2.still, .bool V2.late] 35) = y3 at *
  generalize w3.heap.size = g13 at *
  go_wp2_with fail
  refine (HO4.out _ HW.out).mono ?_
  rintro e w4 ⟨_, rfl, hb, q4, cap4, rfl, hrd, hlo⟩
  have HWn := Lib.hid (HW.out.trans (hb.mono HW.out.size))
  clear HW c0
  have B := Blk.new w4 [.int .i64 V2.fl, .int .i64 V2.dir, .int .i64 V2.door, .slice q4 V2.du.length cap4, .int .i64 V2.still, .bool V2.late] 35
  have hbn := below1' w4 (.cells #[.int .i64 V2.fl, .int .i64 V2.dir, .int .i64 V2.door, .slice q4 V2.du.length cap4, .int .i64 V2.still, .bool V2.late] 35)
  change Blk (w4.alloc (.cells #[.int .i64 V2.fl, .int .i64 V2.dir, .int .i64 V2.door, .slice q4 V2.du.length cap4, .int .i64 V2.still, .bool V2.late] 35)) _ _ at B
  have HB4 := Lib.hid B
  have HD4 := Lib.hid (hrd.next hbn)
  have HW := Lib.hid (HWn.out.trans (hbn.mono HWn.out.size))
  have hge4 : w0.heap.size ≤ w4.heap.size := HWn.out.size
  have hlt14 : g9 < w4.heap.size := Nat.lt_of_lt_of_le HB1.out.lt hb.size
  have hlt24 : g11 < w4.heap.size := Nat.lt_of_lt_of_le HB2.out.lt hb.size
  have hlt34 : g13 < w4.heap.size := Nat.lt_of_lt_of_le HB3.out.lt hb.size
  have HBn := Lib.hid ((HB1.out.next hb).next hbn); have HDn := Lib.hid ((HD1.out.next hb).next hbn); clear HB1 HD1; have HB1 := HBn; have HD1 := HDn; clear HBn HDn
  have HBn := Lib.hid ((HB2.out.next hb).next hbn); have HDn := Lib.hid ((HD2.out.next hb).next hbn); clear HB2 HD2; have HB2 := HBn; have HD2 := HDn; clear HBn HDn
  have HBn := Lib.hid ((HB3.out.next hb).next hbn); have HDn := Lib.hid ((HD3.out.next hb).next hbn); clear HB3 HD3; have HB3 := HBn; have HD3 := HDn; clear HBn HDn
  clear hb hrd hlo B hbn HWn HO4
  have c0 := base_cell HW.out
  go_upto_region 5 with fail
  generalize w4.alloc (.cells #[.int .i64 V2.fl, .int .i64 V2.dir, .int .i64 V2.door, .slice q4 V2.du.length cap4, .int .i64 V2.still, .bool V2.late] 35) = y4 at *
  generalize w4.heap.size = g15 at *
  go_cut [94] from 53 to 94 (fun v94 wx => v94 = .bool false ∧ Below y4.heap.size y4 wx)
  case first =>
    clear c0 k0 k1 k2 k3 k4 k5 k6 k7 j0 j1 j2 j3 j4 j5 p0 p1 p2 p3 p4 HO5 HO6 HO7 HO8
    have K0 := HX0.out.later HW.out hz0
    have HZ := Lib.hid K0
    have hz : w.heap.size < y4.heap.size := HZ.out.lt
    clear K0
    have k0 := (HZ.out).cell 0 _ rfl
    have k1 := (HZ.out).cell 1 _ rfl
    have k2 := (HZ.out).cell 2 _ rfl
    have k3 := (HZ.out).cell 3 _ rfl
    have k4 := (HZ.out).cell 4 _ rfl
    have k5 := (HZ.out).cell 5 _ rfl
    have k6 := (HZ.out).cell 6 _ rfl
    have k7 := (HZ.out).cell 7 _ rfl
    have x0 := (HB1.out).cell 0 _ rfl
    have x1 := (HB1.out).cell 1 _ rfl
    have x2 := (HB1.out).cell 2 _ rfl
    have x3 := (HB1.out).cell 3 _ rfl
    have x4 := (HB1.out).cell 4 _ rfl
    have x5 := (HB1.out).cell 5 _ rfl
    have hh1 := HB1.out.lt
    have y0 := (HB2.out).cell 0 _ rfl
    have y1 := (HB2.out).cell 1 _ rfl
    have y2 := (HB2.out).cell 2 _ rfl
    have y3 := (HB2.out).cell 3 _ rfl
    have y4 := (HB2.out).cell 4 _ rfl
    have y5 := (HB2.out).cell 5 _ rfl
    have hh2 := HB2.out.lt
    have z0 := (HB3.out).cell 0 _ rfl
    have z1 := (HB3.out).cell 1 _ rfl
    have z2 := (HB3.out).cell 2 _ rfl
    have z3 := (HB3.out).cell 3 _ rfl
    have z4 := (HB3.out).cell 4 _ rfl
    have z5 := (HB3.out).cell 5 _ rfl
    have hh3 := HB3.out.lt
    have u0 := (HB4.out).cell 0 _ rfl
    have u1 := (HB4.out).cell 1 _ rfl
    have u2 := (HB4.out).cell 2 _ rfl
    have u3 := (HB4.out).cell 3 _ rfl
    have u4 := (HB4.out).cell 4 _ rfl
    have u5 := (HB4.out).cell 5 _ rfl
    have hh4 := HB4.out.lt
    go_wp2_with fail
    refine (refSame_self V1 q1 cap1 q2 cap2 _ HA1.out HD1.out HD2.out).mono ?_
    rintro e x1 ⟨rfl, hb⟩
    have HY1 := Lib.hid hb
    have c1 := base_cell hb
    clear hb
    go_wp2_with fail
    refine (refSame_self V2 q3 cap3 q4 cap4 _ HA2.out (HD3.out.next HY1.out) (HD4.out.next HY1.out)).mono ?_
    rintro e x2 ⟨rfl, hb⟩
    have HY := Lib.hid (HY1.out.trans (hb.mono HY1.out.size))
    clear hb c1 HY1
    have c1 := base_cell HY.out
    by_cases d1 : E1 = 0
    · have e1 : (E1 == 0) = true := by simpa using d1
      have HT1 := Lib.hid (HS1.out d1)
      clear d1
      go_wp2_with fail
      refine (refIsState_true b q cap car V1 q1 cap1 _ HT1.out HL1.out HA1.out HSX.out ((HR.out.next HW.out).next HY.out) (HD1.out.next HY.out)).mono ?_
      rintro e x3 ⟨rfl, hb⟩
      have HY3 := Lib.hid (HY.out.trans (hb.mono HY.out.size))
      clear hb c1
      have c1 := base_cell HY3.out
      by_cases d2 : E2 = 0
      · have e2 : (E2 == 0) = true := by simpa using d2
        have HT2 := Lib.hid (HS2.out d2)
        clear d2
        go_wp2_with fail
        refine (refIsState_true b q cap car V2 q3 cap3 _ HT2.out HL1.out HA2.out HSX.out ((HR.out.next HW.out).next HY3.out) (HD3.out.next HY3.out)).mono ?_
        rintro e x4 ⟨rfl, hb⟩
        have HY4 := Lib.hid (HY3.out.trans (hb.mono HY3.out.size))
        clear hb c1
        go_wp2_with fail
        go_meet
        exact ⟨rfl, HY4.out⟩
      · have e2 : (E2 == 0) = false := by simpa using d2
        clear d2
        go_wp2_with fail
        go_meet
        exact ⟨rfl, HY3.out⟩
    · have e1 : (E1 == 0) = false := by simpa using d1
      clear d1
      by_cases d2 : E2 = 0
      · have e2 : (E2 == 0) = true := by simpa using d2
        have HT2 := Lib.hid (HS2.out d2)
        clear d2
        go_wp2_with fail
        refine (refIsState_true b q cap car V2 q3 cap3 _ HT2.out HL1.out HA2.out HSX.out ((HR.out.next HW.out).next HY.out) (HD3.out.next HY.out)).mono ?_
        rintro e x4 ⟨rfl, hb⟩
        have HY4 := Lib.hid (HY.out.trans (hb.mono HY.out.size))
        clear hb c1
        go_wp2_with fail
        go_meet
        exact ⟨rfl, HY4.out⟩
      · have e2 : (E2 == 0) = false := by simpa using d2
        clear d2
        go_wp2_with fail
        go_meet
        exact ⟨rfl, HY.out⟩
  case rest =>
    obtain ⟨rfl, hb⟩ := hcut
    generalize hwx : wc = z0 at *
    clear hwx c0
    have HWn := Lib.hid (HW.out.trans (hb.mono HW.out.size))
    clear HW
    have HW := HWn
    clear HWn
    have HBn := Lib.hid (HB1.out.next hb); have HDn := Lib.hid (HD1.out.next hb); clear HB1 HD1; have HB1 := HBn; have HD1 := HDn; clear HBn HDn
    have HBn := Lib.hid (HB2.out.next hb); have HDn := Lib.hid (HD2.out.next hb); clear HB2 HD2; have HB2 := HBn; have HD2 := HDn; clear HBn HDn
    have HBn := Lib.hid (HB3.out.next hb); have HDn := Lib.hid (HD3.out.next hb); clear HB3 HD3; have HB3 := HBn; have HD3 := HDn; clear HBn HDn
    have HBn := Lib.hid (HB4.out.next hb); have HDn := Lib.hid (HD4.out.next hb); clear HB4 HD4; have HB4 := HBn; have HD4 := HDn; clear HBn HDn
    clear hb
    have c0 := base_cell HW.out
    go_wp2_with fail
    refine (HO5.out _ HW.out).mono ?_
    rintro e w5 ⟨_, rfl, hb, q5, cap5, rfl, hrd, hlo⟩
    have HWn := Lib.hid (HW.out.trans (hb.mono HW.out.size))
    have hn1 : ∀ A, q5 = some A → A.block ≠ g9 := fun A hA => by have h1 := hlo A hA; have h2 := HB1.out.lt; omega
    have hn2 : ∀ A, q5 = some A → A.block ≠ g11 := fun A hA => by have h1 := hlo A hA; have h2 := HB2.out.lt; omega
    have hn3 : ∀ A, q5 = some A → A.block ≠ g13 := fun A hA => by have h1 := hlo A hA; have h2 := HB3.out.lt; omega
    have hn4 : ∀ A, q5 = some A → A.block ≠ g15 := fun A hA => by have h1 := hlo A hA; have h2 := HB4.out.lt; omega
    have HBn := Lib.hid (HB1.out.next hb); have HDn := Lib.hid (HD1.out.next hb); clear HB1 HD1; have HB1 := HBn; have HD1 := HDn; clear HBn HDn
    have HBn := Lib.hid (HB2.out.next hb); have HDn := Lib.hid (HD2.out.next hb); clear HB2 HD2; have HB2 := HBn; have HD2 := HDn; clear HBn HDn
    have HBn := Lib.hid (HB3.out.next hb); have HDn := Lib.hid (HD3.out.next hb); clear HB3 HD3; have HB3 := HBn; have HD3 := HDn; clear HBn HDn
    have HBn := Lib.hid (HB4.out.next hb); have HDn := Lib.hid (HD4.out.next hb); clear HB4 HD4; have HB4 := HBn; have HD4 := HDn; clear HBn HDn
    have HNq := Lib.hid hrd
    clear HW c0 hb hrd hlo HO5
    have HW := HWn
    clear HWn
    have c0 := base_cell HW.out
    have hl1 := HB1.out.lt
    have f0 := HB1.out.fr 0
    have f1 := HB1.out.fr 1
    have f2 := HB1.out.fr 2
    have f3 := HB1.out.fr 3
    have f4 := HB1.out.fr 4
    have f5 := HB1.out.fr 5
    have x0 := (HB1.out).cell 0 _ rfl
    have x1 := (HB1.out).cell 1 _ rfl
    have x2 := (HB1.out).cell 2 _ rfl
    have x3 := (HB1.out).cell 3 _ rfl
    have x4 := (HB1.out).cell 4 _ rfl
    have x5 := (HB1.out).cell 5 _ rfl
    go_upto_region 8 with fail
    have B : Blk ((((((w5.setCell ⟨g9, 0, none⟩ (.int .i64 V3.fl)).setCell ⟨g9, 1, none⟩ (.int .i64 V3.dir)).setCell ⟨g9, 2, none⟩ (.int .i64 V3.door)).setCell ⟨g9, 3, none⟩ (.slice q5 V3.du.length cap5)).setCell ⟨g9, 4, none⟩ (.int .i64 V3.still)).setCell ⟨g9, 5, none⟩ (.bool V3.late)) g9 [.int .i64 V3.fl, .int .i64 V3.dir, .int .i64 V3.door, .slice q5 V3.du.length cap5, .int .i64 V3.still, .bool V3.late] := ((((((HB1.out.set 0 (.int .i64 V3.fl)).set 1 (.int .i64 V3.dir)).set 2 (.int .i64 V3.door)).set 3 (.slice q5 V3.du.length cap5)).set 4 (.int .i64 V3.still)).set 5 (.bool V3.late))
    have WW : Below w0.heap.size w0 ((((((w5.setCell ⟨g9, 0, none⟩ (.int .i64 V3.fl)).setCell ⟨g9, 1, none⟩ (.int .i64 V3.dir)).setCell ⟨g9, 2, none⟩ (.int .i64 V3.door)).setCell ⟨g9, 3, none⟩ (.slice q5 V3.du.length cap5)).setCell ⟨g9, 4, none⟩ (.int .i64 V3.still)).setCell ⟨g9, 5, none⟩ (.bool V3.late)) := ((((((HW.out.setCell (p := ⟨g9, 0, none⟩) hge1 (.int .i64 V3.fl)).setCell (p := ⟨g9, 1, none⟩) hge1 (.int .i64 V3.dir)).setCell (p := ⟨g9, 2, none⟩) hge1 (.int .i64 V3.door)).setCell (p := ⟨g9, 3, none⟩) hge1 (.slice q5 V3.du.length cap5)).setCell (p := ⟨g9, 4, none⟩) hge1 (.int .i64 V3.still)).setCell (p := ⟨g9, 5, none⟩) hge1 (.bool V3.late))
    have hx2 : g11 ≠ g9 := by omega
    have BB2 := ((((((HB2.out.other (i := 0) hx2 (.int .i64 V3.fl)).other (i := 1) hx2 (.int .i64 V3.dir)).other (i := 2) hx2 (.int .i64 V3.door)).other (i := 3) hx2 (.slice q5 V3.du.length cap5)).other (i := 4) hx2 (.int .i64 V3.still)).other (i := 5) hx2 (.bool V3.late))
    have hx3 : g13 ≠ g9 := by omega
    have BB3 := ((((((HB3.out.other (i := 0) hx3 (.int .i64 V3.fl)).other (i := 1) hx3 (.int .i64 V3.dir)).other (i := 2) hx3 (.int .i64 V3.door)).other (i := 3) hx3 (.slice q5 V3.du.length cap5)).other (i := 4) hx3 (.int .i64 V3.still)).other (i := 5) hx3 (.bool V3.late))
    have hx4 : g15 ≠ g9 := by omega
    have BB4 := ((((((HB4.out.other (i := 0) hx4 (.int .i64 V3.fl)).other (i := 1) hx4 (.int .i64 V3.dir)).other (i := 2) hx4 (.int .i64 V3.door)).other (i := 3) hx4 (.slice q5 V3.du.length cap5)).other (i := 4) hx4 (.int .i64 V3.still)).other (i := 5) hx4 (.bool V3.late))
    have HBn := Lib.hid B; have HWn := Lib.hid WW; clear B WW HW c0 f0 f1 f2 f3 f4 f5 x0 x1 x2 x3 x4 x5; have HW := HWn; clear HWn
    have HDn := Lib.hid ((((((HNq.out.set (g := g9) (i := 0) (u := .int .i64 V3.fl) hn1).set (g := g9) (i := 1) (u := .int .i64 V3.dir) hn1).set (g := g9) (i := 2) (u := .int .i64 V3.door) hn1).set (g := g9) (i := 3) (u := .slice q5 V3.du.length cap5) hn1).set (g := g9) (i := 4) (u := .int .i64 V3.still) hn1).set (g := g9) (i := 5) (u := .bool V3.late) hn1)
    clear HNq HD1
    have HD1 := HDn; clear HDn
    clear HB1; have HB1 := HBn; clear HBn
    clear HB2; have HB2 := Lib.hid BB2; clear BB2 hx2
    clear HB3; have HB3 := Lib.hid BB3; clear BB3 hx3
    clear HB4; have HB4 := Lib.hid BB4; clear BB4 hx4
    have HNE1_1 := Lib.hid hn1; clear hn1
    have HNE1_2 := Lib.hid hn2; clear hn2
    have HNE1_3 := Lib.hid hn3; clear hn3
    have HNE1_4 := Lib.hid hn4; clear hn4
    change Hid (Blk ((((((w5.setCell ⟨g9, 0, none⟩ (.int .i64 V3.fl)).setCell ⟨g9, 1, none⟩ (.int .i64 V3.dir)).setCell ⟨g9, 2, none⟩ (.int .i64 V3.door)).setCell ⟨g9, 3, none⟩ (.slice q5 V3.du.length cap5)).setCell ⟨g9, 4, none⟩ (.int .i64 V3.still)).setCell ⟨g9, 5, none⟩ (.bool V3.late)) g9 [.int .i64 V3.fl, .int .i64 V3.dir, .int .i64 V3.door, .slice q5 V3.du.length cap5, .int .i64 V3.still, .bool V3.late]) at HB1
    generalize ((((((w5.setCell ⟨g9, 0, none⟩ (.int .i64 V3.fl)).setCell ⟨g9, 1, none⟩ (.int .i64 V3.dir)).setCell ⟨g9, 2, none⟩ (.int .i64 V3.door)).setCell ⟨g9, 3, none⟩ (.slice q5 V3.du.length cap5)).setCell ⟨g9, 4, none⟩ (.int .i64 V3.still)).setCell ⟨g9, 5, none⟩ (.bool V3.late)) = y5 at *
    have c0 := base_cell HW.out
    go_wp2_with fail
    refine (HO6.out _ HW.out).mono ?_
    rintro e w6 ⟨_, rfl, hb, q6, cap6, rfl, hrd, hlo⟩
    have HWn := Lib.hid (HW.out.trans (hb.mono HW.out.size))
    have hn1 : ∀ A, q6 = some A → A.block ≠ g9 := fun A hA => by have h1 := hlo A hA; have h2 := HB1.out.lt; omega
    have hn2 : ∀ A, q6 = some A → A.block ≠ g11 := fun A hA => by have h1 := hlo A hA; have h2 := HB2.out.lt; omega
    have hn3 : ∀ A, q6 = some A → A.block ≠ g13 := fun A hA => by have h1 := hlo A hA; have h2 := HB3.out.lt; omega
    have hn4 : ∀ A, q6 = some A → A.block ≠ g15 := fun A hA => by have h1 := hlo A hA; have h2 := HB4.out.lt; omega
    have HBn := Lib.hid (HB1.out.next hb); have HDn := Lib.hid (HD1.out.next hb); clear HB1 HD1; have HB1 := HBn; have HD1 := HDn; clear HBn HDn
    have HBn := Lib.hid (HB2.out.next hb); clear HB2; have HB2 := HBn; clear HBn
    have HBn := Lib.hid (HB3.out.next hb); clear HB3; have HB3 := HBn; clear HBn
    have HBn := Lib.hid (HB4.out.next hb); clear HB4; have HB4 := HBn; clear HBn
    have HNq := Lib.hid hrd
    clear HW c0 hb hrd hlo HO6
    have HW := HWn
    clear HWn
    have c0 := base_cell HW.out
    have hl2 := HB2.out.lt
    have f0 := HB2.out.fr 0
    have f1 := HB2.out.fr 1
    have f2 := HB2.out.fr 2
    have f3 := HB2.out.fr 3
    have f4 := HB2.out.fr 4
    have f5 := HB2.out.fr 5
    have x0 := (HB2.out).cell 0 _ rfl
    have x1 := (HB2.out).cell 1 _ rfl
    have x2 := (HB2.out).cell 2 _ rfl
    have x3 := (HB2.out).cell 3 _ rfl
    have x4 := (HB2.out).cell 4 _ rfl
    have x5 := (HB2.out).cell 5 _ rfl
    go_upto_region 9 with fail
    have B : Blk ((((((w6.setCell ⟨g11, 0, none⟩ (.int .i64 V3.fl)).setCell ⟨g11, 1, none⟩ (.int .i64 V3.dir)).setCell ⟨g11, 2, none⟩ (.int .i64 V3.door)).setCell ⟨g11, 3, none⟩ (.slice q6 V3.du.length cap6)).setCell ⟨g11, 4, none⟩ (.int .i64 V3.still)).setCell ⟨g11, 5, none⟩ (.bool V3.late)) g11 [.int .i64 V3.fl, .int .i64 V3.dir, .int .i64 V3.door, .slice q6 V3.du.length cap6, .int .i64 V3.still, .bool V3.late] := ((((((HB2.out.set 0 (.int .i64 V3.fl)).set 1 (.int .i64 V3.dir)).set 2 (.int .i64 V3.door)).set 3 (.slice q6 V3.du.length cap6)).set 4 (.int .i64 V3.still)).set 5 (.bool V3.late))
    have WW : Below w0.heap.size w0 ((((((w6.setCell ⟨g11, 0, none⟩ (.int .i64 V3.fl)).setCell ⟨g11, 1, none⟩ (.int .i64 V3.dir)).setCell ⟨g11, 2, none⟩ (.int .i64 V3.door)).setCell ⟨g11, 3, none⟩ (.slice q6 V3.du.length cap6)).setCell ⟨g11, 4, none⟩ (.int .i64 V3.still)).setCell ⟨g11, 5, none⟩ (.bool V3.late)) := ((((((HW.out.setCell (p := ⟨g11, 0, none⟩) hge2 (.int .i64 V3.fl)).setCell (p := ⟨g11, 1, none⟩) hge2 (.int .i64 V3.dir)).setCell (p := ⟨g11, 2, none⟩) hge2 (.int .i64 V3.door)).setCell (p := ⟨g11, 3, none⟩) hge2 (.slice q6 V3.du.length cap6)).setCell (p := ⟨g11, 4, none⟩) hge2 (.int .i64 V3.still)).setCell (p := ⟨g11, 5, none⟩) hge2 (.bool V3.late))
    have hx1 : g9 ≠ g11 := by omega
    have BB1 := ((((((HB1.out.other (i := 0) hx1 (.int .i64 V3.fl)).other (i := 1) hx1 (.int .i64 V3.dir)).other (i := 2) hx1 (.int .i64 V3.door)).other (i := 3) hx1 (.slice q6 V3.du.length cap6)).other (i := 4) hx1 (.int .i64 V3.still)).other (i := 5) hx1 (.bool V3.late))
    have hx3 : g13 ≠ g11 := by omega
    have BB3 := ((((((HB3.out.other (i := 0) hx3 (.int .i64 V3.fl)).other (i := 1) hx3 (.int .i64 V3.dir)).other (i := 2) hx3 (.int .i64 V3.door)).other (i := 3) hx3 (.slice q6 V3.du.length cap6)).other (i := 4) hx3 (.int .i64 V3.still)).other (i := 5) hx3 (.bool V3.late))
    have hx4 : g15 ≠ g11 := by omega
    have BB4 := ((((((HB4.out.other (i := 0) hx4 (.int .i64 V3.fl)).other (i := 1) hx4 (.int .i64 V3.dir)).other (i := 2) hx4 (.int .i64 V3.door)).other (i := 3) hx4 (.slice q6 V3.du.length cap6)).other (i := 4) hx4 (.int .i64 V3.still)).other (i := 5) hx4 (.bool V3.late))
    have HBn := Lib.hid B; have HWn := Lib.hid WW; clear B WW HW c0 f0 f1 f2 f3 f4 f5 x0 x1 x2 x3 x4 x5; have HW := HWn; clear HWn
    have HDn := Lib.hid ((((((HNq.out.set (g := g11) (i := 0) (u := .int .i64 V3.fl) hn2).set (g := g11) (i := 1) (u := .int .i64 V3.dir) hn2).set (g := g11) (i := 2) (u := .int .i64 V3.door) hn2).set (g := g11) (i := 3) (u := .slice q6 V3.du.length cap6) hn2).set (g := g11) (i := 4) (u := .int .i64 V3.still) hn2).set (g := g11) (i := 5) (u := .bool V3.late) hn2)
    have HDx1 := Lib.hid ((((((HD1.out.set (g := g11) (i := 0) (u := .int .i64 V3.fl) HNE1_2.out).set (g := g11) (i := 1) (u := .int .i64 V3.dir) HNE1_2.out).set (g := g11) (i := 2) (u := .int .i64 V3.door) HNE1_2.out).set (g := g11) (i := 3) (u := .slice q6 V3.du.length cap6) HNE1_2.out).set (g := g11) (i := 4) (u := .int .i64 V3.still) HNE1_2.out).set (g := g11) (i := 5) (u := .bool V3.late) HNE1_2.out)
    clear HNq
    have HD2 := HDn; clear HDn
    clear HD1; have HD1 := HDx1; clear HDx1
    clear HB2; have HB2 := HBn; clear HBn
    clear HB1; have HB1 := Lib.hid BB1; clear BB1 hx1
    clear HB3; have HB3 := Lib.hid BB3; clear BB3 hx3
    clear HB4; have HB4 := Lib.hid BB4; clear BB4 hx4
    have HNE2_1 := Lib.hid hn1; clear hn1
    have HNE2_2 := Lib.hid hn2; clear hn2
    have HNE2_3 := Lib.hid hn3; clear hn3
    have HNE2_4 := Lib.hid hn4; clear hn4
    change Hid (Blk ((((((w6.setCell ⟨g11, 0, none⟩ (.int .i64 V3.fl)).setCell ⟨g11, 1, none⟩ (.int .i64 V3.dir)).setCell ⟨g11, 2, none⟩ (.int .i64 V3.door)).setCell ⟨g11, 3, none⟩ (.slice q6 V3.du.length cap6)).setCell ⟨g11, 4, none⟩ (.int .i64 V3.still)).setCell ⟨g11, 5, none⟩ (.bool V3.late)) g11 [.int .i64 V3.fl, .int .i64 V3.dir, .int .i64 V3.door, .slice q6 V3.du.length cap6, .int .i64 V3.still, .bool V3.late]) at HB2
    generalize ((((((w6.setCell ⟨g11, 0, none⟩ (.int .i64 V3.fl)).setCell ⟨g11, 1, none⟩ (.int .i64 V3.dir)).setCell ⟨g11, 2, none⟩ (.int .i64 V3.door)).setCell ⟨g11, 3, none⟩ (.slice q6 V3.du.length cap6)).setCell ⟨g11, 4, none⟩ (.int .i64 V3.still)).setCell ⟨g11, 5, none⟩ (.bool V3.late)) = y6 at *
    have c0 := base_cell HW.out
    go_wp2_with fail
    refine (HO7.out _ HW.out).mono ?_
    rintro e w7 ⟨_, rfl, hb, q7, cap7, rfl, hrd, hlo⟩
    have HWn := Lib.hid (HW.out.trans (hb.mono HW.out.size))
    have hn1 : ∀ A, q7 = some A → A.block ≠ g9 := fun A hA => by have h1 := hlo A hA; have h2 := HB1.out.lt; omega
    have hn2 : ∀ A, q7 = some A → A.block ≠ g11 := fun A hA => by have h1 := hlo A hA; have h2 := HB2.out.lt; omega
    have hn3 : ∀ A, q7 = some A → A.block ≠ g13 := fun A hA => by have h1 := hlo A hA; have h2 := HB3.out.lt; omega
    have hn4 : ∀ A, q7 = some A → A.block ≠ g15 := fun A hA => by have h1 := hlo A hA; have h2 := HB4.out.lt; omega
    have HBn := Lib.hid (HB1.out.next hb); have HDn := Lib.hid (HD1.out.next hb); clear HB1 HD1; have HB1 := HBn; have HD1 := HDn; clear HBn HDn
    have HBn := Lib.hid (HB2.out.next hb); have HDn := Lib.hid (HD2.out.next hb); clear HB2 HD2; have HB2 := HBn; have HD2 := HDn; clear HBn HDn
    have HBn := Lib.hid (HB3.out.next hb); clear HB3; have HB3 := HBn; clear HBn
    have HBn := Lib.hid (HB4.out.next hb); clear HB4; have HB4 := HBn; clear HBn
    have HNq := Lib.hid hrd
    clear HW c0 hb hrd hlo HO7
    have HW := HWn
    clear HWn
    have c0 := base_cell HW.out
    have hl3 := HB3.out.lt
    have f0 := HB3.out.fr 0
    have f1 := HB3.out.fr 1
    have f2 := HB3.out.fr 2
    have f3 := HB3.out.fr 3
    have f4 := HB3.out.fr 4
    have f5 := HB3.out.fr 5
    have x0 := (HB3.out).cell 0 _ rfl
    have x1 := (HB3.out).cell 1 _ rfl
    have x2 := (HB3.out).cell 2 _ rfl
    have x3 := (HB3.out).cell 3 _ rfl
    have x4 := (HB3.out).cell 4 _ rfl
    have x5 := (HB3.out).cell 5 _ rfl
    go_upto_region 10 with fail
    have B : Blk ((((((w7.setCell ⟨g13, 0, none⟩ (.int .i64 V4.fl)).setCell ⟨g13, 1, none⟩ (.int .i64 V4.dir)).setCell ⟨g13, 2, none⟩ (.int .i64 V4.door)).setCell ⟨g13, 3, none⟩ (.slice q7 V4.du.length cap7)).setCell ⟨g13, 4, none⟩ (.int .i64 V4.still)).setCell ⟨g13, 5, none⟩ (.bool V4.late)) g13 [.int .i64 V4.fl, .int .i64 V4.dir, .int .i64 V4.door, .slice q7 V4.du.length cap7, .int .i64 V4.still, .bool V4.late] := ((((((HB3.out.set 0 (.int .i64 V4.fl)).set 1 (.int .i64 V4.dir)).set 2 (.int .i64 V4.door)).set 3 (.slice q7 V4.du.length cap7)).set 4 (.int .i64 V4.still)).set 5 (.bool V4.late))
    have WW : Below w0.heap.size w0 ((((((w7.setCell ⟨g13, 0, none⟩ (.int .i64 V4.fl)).setCell ⟨g13, 1, none⟩ (.int .i64 V4.dir)).setCell ⟨g13, 2, none⟩ (.int .i64 V4.door)).setCell ⟨g13, 3, none⟩ (.slice q7 V4.du.length cap7)).setCell ⟨g13, 4, none⟩ (.int .i64 V4.still)).setCell ⟨g13, 5, none⟩ (.bool V4.late)) := ((((((HW.out.setCell (p := ⟨g13, 0, none⟩) hge3 (.int .i64 V4.fl)).setCell (p := ⟨g13, 1, none⟩) hge3 (.int .i64 V4.dir)).setCell (p := ⟨g13, 2, none⟩) hge3 (.int .i64 V4.door)).setCell (p := ⟨g13, 3, none⟩) hge3 (.slice q7 V4.du.length cap7)).setCell (p := ⟨g13, 4, none⟩) hge3 (.int .i64 V4.still)).setCell (p := ⟨g13, 5, none⟩) hge3 (.bool V4.late))
    have hx1 : g9 ≠ g13 := by omega
    have BB1 := ((((((HB1.out.other (i := 0) hx1 (.int .i64 V4.fl)).other (i := 1) hx1 (.int .i64 V4.dir)).other (i := 2) hx1 (.int .i64 V4.door)).other (i := 3) hx1 (.slice q7 V4.du.length cap7)).other (i := 4) hx1 (.int .i64 V4.still)).other (i := 5) hx1 (.bool V4.late))
    have hx2 : g11 ≠ g13 := by omega
    have BB2 := ((((((HB2.out.other (i := 0) hx2 (.int .i64 V4.fl)).other (i := 1) hx2 (.int .i64 V4.dir)).other (i := 2) hx2 (.int .i64 V4.door)).other (i := 3) hx2 (.slice q7 V4.du.length cap7)).other (i := 4) hx2 (.int .i64 V4.still)).other (i := 5) hx2 (.bool V4.late))
    have hx4 : g15 ≠ g13 := by omega
    have BB4 := ((((((HB4.out.other (i := 0) hx4 (.int .i64 V4.fl)).other (i := 1) hx4 (.int .i64 V4.dir)).other (i := 2) hx4 (.int .i64 V4.door)).other (i := 3) hx4 (.slice q7 V4.du.length cap7)).other (i := 4) hx4 (.int .i64 V4.still)).other (i := 5) hx4 (.bool V4.late))
    have HBn := Lib.hid B; have HWn := Lib.hid WW; clear B WW HW c0 f0 f1 f2 f3 f4 f5 x0 x1 x2 x3 x4 x5; have HW := HWn; clear HWn
    have HDn := Lib.hid ((((((HNq.out.set (g := g13) (i := 0) (u := .int .i64 V4.fl) hn3).set (g := g13) (i := 1) (u := .int .i64 V4.dir) hn3).set (g := g13) (i := 2) (u := .int .i64 V4.door) hn3).set (g := g13) (i := 3) (u := .slice q7 V4.du.length cap7) hn3).set (g := g13) (i := 4) (u := .int .i64 V4.still) hn3).set (g := g13) (i := 5) (u := .bool V4.late) hn3)
    have HDx1 := Lib.hid ((((((HD1.out.set (g := g13) (i := 0) (u := .int .i64 V4.fl) HNE1_3.out).set (g := g13) (i := 1) (u := .int .i64 V4.dir) HNE1_3.out).set (g := g13) (i := 2) (u := .int .i64 V4.door) HNE1_3.out).set (g := g13) (i := 3) (u := .slice q7 V4.du.length cap7) HNE1_3.out).set (g := g13) (i := 4) (u := .int .i64 V4.still) HNE1_3.out).set (g := g13) (i := 5) (u := .bool V4.late) HNE1_3.out)
    have HDx2 := Lib.hid ((((((HD2.out.set (g := g13) (i := 0) (u := .int .i64 V4.fl) HNE2_3.out).set (g := g13) (i := 1) (u := .int .i64 V4.dir) HNE2_3.out).set (g := g13) (i := 2) (u := .int .i64 V4.door) HNE2_3.out).set (g := g13) (i := 3) (u := .slice q7 V4.du.length cap7) HNE2_3.out).set (g := g13) (i := 4) (u := .int .i64 V4.still) HNE2_3.out).set (g := g13) (i := 5) (u := .bool V4.late) HNE2_3.out)
    clear HNq
    have HD3 := HDn; clear HDn
    clear HD1; have HD1 := HDx1; clear HDx1
    clear HB3; have HB3 := HBn; clear HBn
    clear HD2; have HD2 := HDx2; clear HDx2
    clear HB1; have HB1 := Lib.hid BB1; clear BB1 hx1
    clear HB2; have HB2 := Lib.hid BB2; clear BB2 hx2
    clear HB4; have HB4 := Lib.hid BB4; clear BB4 hx4
    have HNE3_1 := Lib.hid hn1; clear hn1
    have HNE3_2 := Lib.hid hn2; clear hn2
    have HNE3_3 := Lib.hid hn3; clear hn3
    have HNE3_4 := Lib.hid hn4; clear hn4
    change Hid (Blk ((((((w7.setCell ⟨g13, 0, none⟩ (.int .i64 V4.fl)).setCell ⟨g13, 1, none⟩ (.int .i64 V4.dir)).setCell ⟨g13, 2, none⟩ (.int .i64 V4.door)).setCell ⟨g13, 3, none⟩ (.slice q7 V4.du.length cap7)).setCell ⟨g13, 4, none⟩ (.int .i64 V4.still)).setCell ⟨g13, 5, none⟩ (.bool V4.late)) g13 [.int .i64 V4.fl, .int .i64 V4.dir, .int .i64 V4.door, .slice q7 V4.du.length cap7, .int .i64 V4.still, .bool V4.late]) at HB3
    generalize ((((((w7.setCell ⟨g13, 0, none⟩ (.int .i64 V4.fl)).setCell ⟨g13, 1, none⟩ (.int .i64 V4.dir)).setCell ⟨g13, 2, none⟩ (.int .i64 V4.door)).setCell ⟨g13, 3, none⟩ (.slice q7 V4.du.length cap7)).setCell ⟨g13, 4, none⟩ (.int .i64 V4.still)).setCell ⟨g13, 5, none⟩ (.bool V4.late)) = y7 at *
    have c0 := base_cell HW.out
    go_wp2_with fail
    refine (HO8.out _ HW.out).mono ?_
    rintro e w8 ⟨_, rfl, hb, q8, cap8, rfl, hrd, hlo⟩
    have HWn := Lib.hid (HW.out.trans (hb.mono HW.out.size))
    have hn1 : ∀ A, q8 = some A → A.block ≠ g9 := fun A hA => by have h1 := hlo A hA; have h2 := HB1.out.lt; omega
    have hn2 : ∀ A, q8 = some A → A.block ≠ g11 := fun A hA => by have h1 := hlo A hA; have h2 := HB2.out.lt; omega
    have hn3 : ∀ A, q8 = some A → A.block ≠ g13 := fun A hA => by have h1 := hlo A hA; have h2 := HB3.out.lt; omega
    have hn4 : ∀ A, q8 = some A → A.block ≠ g15 := fun A hA => by have h1 := hlo A hA; have h2 := HB4.out.lt; omega
    have HBn := Lib.hid (HB1.out.next hb); have HDn := Lib.hid (HD1.out.next hb); clear HB1 HD1; have HB1 := HBn; have HD1 := HDn; clear HBn HDn
    have HBn := Lib.hid (HB2.out.next hb); have HDn := Lib.hid (HD2.out.next hb); clear HB2 HD2; have HB2 := HBn; have HD2 := HDn; clear HBn HDn
    have HBn := Lib.hid (HB3.out.next hb); have HDn := Lib.hid (HD3.out.next hb); clear HB3 HD3; have HB3 := HBn; have HD3 := HDn; clear HBn HDn
    have HBn := Lib.hid (HB4.out.next hb); clear HB4; have HB4 := HBn; clear HBn
    have HNq := Lib.hid hrd
    clear HW c0 hb hrd hlo HO8
    have HW := HWn
    clear HWn
    have c0 := base_cell HW.out
    have hl4 := HB4.out.lt
    have f0 := HB4.out.fr 0
    have f1 := HB4.out.fr 1
    have f2 := HB4.out.fr 2
    have f3 := HB4.out.fr 3
    have f4 := HB4.out.fr 4
    have f5 := HB4.out.fr 5
    have x0 := (HB4.out).cell 0 _ rfl
    have x1 := (HB4.out).cell 1 _ rfl
    have x2 := (HB4.out).cell 2 _ rfl
    have x3 := (HB4.out).cell 3 _ rfl
    have x4 := (HB4.out).cell 4 _ rfl
    have x5 := (HB4.out).cell 5 _ rfl
    go_upto_region 11 with fail
    have B : Blk ((((((w8.setCell ⟨g15, 0, none⟩ (.int .i64 V4.fl)).setCell ⟨g15, 1, none⟩ (.int .i64 V4.dir)).setCell ⟨g15, 2, none⟩ (.int .i64 V4.door)).setCell ⟨g15, 3, none⟩ (.slice q8 V4.du.length cap8)).setCell ⟨g15, 4, none⟩ (.int .i64 V4.still)).setCell ⟨g15, 5, none⟩ (.bool V4.late)) g15 [.int .i64 V4.fl, .int .i64 V4.dir, .int .i64 V4.door, .slice q8 V4.du.length cap8, .int .i64 V4.still, .bool V4.late] := ((((((HB4.out.set 0 (.int .i64 V4.fl)).set 1 (.int .i64 V4.dir)).set 2 (.int .i64 V4.door)).set 3 (.slice q8 V4.du.length cap8)).set 4 (.int .i64 V4.still)).set 5 (.bool V4.late))
    have WW : Below w0.heap.size w0 ((((((w8.setCell ⟨g15, 0, none⟩ (.int .i64 V4.fl)).setCell ⟨g15, 1, none⟩ (.int .i64 V4.dir)).setCell ⟨g15, 2, none⟩ (.int .i64 V4.door)).setCell ⟨g15, 3, none⟩ (.slice q8 V4.du.length cap8)).setCell ⟨g15, 4, none⟩ (.int .i64 V4.still)).setCell ⟨g15, 5, none⟩ (.bool V4.late)) := ((((((HW.out.setCell (p := ⟨g15, 0, none⟩) hge4 (.int .i64 V4.fl)).setCell (p := ⟨g15, 1, none⟩) hge4 (.int .i64 V4.dir)).setCell (p := ⟨g15, 2, none⟩) hge4 (.int .i64 V4.door)).setCell (p := ⟨g15, 3, none⟩) hge4 (.slice q8 V4.du.length cap8)).setCell (p := ⟨g15, 4, none⟩) hge4 (.int .i64 V4.still)).setCell (p := ⟨g15, 5, none⟩) hge4 (.bool V4.late))
    have hx1 : g9 ≠ g15 := by omega
    have BB1 := ((((((HB1.out.other (i := 0) hx1 (.int .i64 V4.fl)).other (i := 1) hx1 (.int .i64 V4.dir)).other (i := 2) hx1 (.int .i64 V4.door)).other (i := 3) hx1 (.slice q8 V4.du.length cap8)).other (i := 4) hx1 (.int .i64 V4.still)).other (i := 5) hx1 (.bool V4.late))
    have hx2 : g11 ≠ g15 := by omega
    have BB2 := ((((((HB2.out.other (i := 0) hx2 (.int .i64 V4.fl)).other (i := 1) hx2 (.int .i64 V4.dir)).other (i := 2) hx2 (.int .i64 V4.door)).other (i := 3) hx2 (.slice q8 V4.du.length cap8)).other (i := 4) hx2 (.int .i64 V4.still)).other (i := 5) hx2 (.bool V4.late))
    have hx3 : g13 ≠ g15 := by omega
    have BB3 := ((((((HB3.out.other (i := 0) hx3 (.int .i64 V4.fl)).other (i := 1) hx3 (.int .i64 V4.dir)).other (i := 2) hx3 (.int .i64 V4.door)).other (i := 3) hx3 (.slice q8 V4.du.length cap8)).other (i := 4) hx3 (.int .i64 V4.still)).other (i := 5) hx3 (.bool V4.late))
    have HBn := Lib.hid B; have HWn := Lib.hid WW; clear B WW HW c0 f0 f1 f2 f3 f4 f5 x0 x1 x2 x3 x4 x5; have HW := HWn; clear HWn
    have HDn := Lib.hid ((((((HNq.out.set (g := g15) (i := 0) (u := .int .i64 V4.fl) hn4).set (g := g15) (i := 1) (u := .int .i64 V4.dir) hn4).set (g := g15) (i := 2) (u := .int .i64 V4.door) hn4).set (g := g15) (i := 3) (u := .slice q8 V4.du.length cap8) hn4).set (g := g15) (i := 4) (u := .int .i64 V4.still) hn4).set (g := g15) (i := 5) (u := .bool V4.late) hn4)
    have HDx1 := Lib.hid ((((((HD1.out.set (g := g15) (i := 0) (u := .int .i64 V4.fl) HNE1_4.out).set (g := g15) (i := 1) (u := .int .i64 V4.dir) HNE1_4.out).set (g := g15) (i := 2) (u := .int .i64 V4.door) HNE1_4.out).set (g := g15) (i := 3) (u := .slice q8 V4.du.length cap8) HNE1_4.out).set (g := g15) (i := 4) (u := .int .i64 V4.still) HNE1_4.out).set (g := g15) (i := 5) (u := .bool V4.late) HNE1_4.out)
    have HDx2 := Lib.hid ((((((HD2.out.set (g := g15) (i := 0) (u := .int .i64 V4.fl) HNE2_4.out).set (g := g15) (i := 1) (u := .int .i64 V4.dir) HNE2_4.out).set (g := g15) (i := 2) (u := .int .i64 V4.door) HNE2_4.out).set (g := g15) (i := 3) (u := .slice q8 V4.du.length cap8) HNE2_4.out).set (g := g15) (i := 4) (u := .int .i64 V4.still) HNE2_4.out).set (g := g15) (i := 5) (u := .bool V4.late) HNE2_4.out)
    have HDx3 := Lib.hid ((((((HD3.out.set (g := g15) (i := 0) (u := .int .i64 V4.fl) HNE3_4.out).set (g := g15) (i := 1) (u := .int .i64 V4.dir) HNE3_4.out).set (g := g15) (i := 2) (u := .int .i64 V4.door) HNE3_4.out).set (g := g15) (i := 3) (u := .slice q8 V4.du.length cap8) HNE3_4.out).set (g := g15) (i := 4) (u := .int .i64 V4.still) HNE3_4.out).set (g := g15) (i := 5) (u := .bool V4.late) HNE3_4.out)
    clear HNq
    have HD4 := HDn; clear HDn
    clear HD1; have HD1 := HDx1; clear HDx1
    clear HB4; have HB4 := HBn; clear HBn
    clear HD2; have HD2 := HDx2; clear HDx2
    clear HD3; have HD3 := HDx3; clear HDx3
    clear HB1; have HB1 := Lib.hid BB1; clear BB1 hx1
    clear HB2; have HB2 := Lib.hid BB2; clear BB2 hx2
    clear HB3; have HB3 := Lib.hid BB3; clear BB3 hx3
    have HNE4_1 := Lib.hid hn1; clear hn1
    have HNE4_2 := Lib.hid hn2; clear hn2
    have HNE4_3 := Lib.hid hn3; clear hn3
    have HNE4_4 := Lib.hid hn4; clear hn4
    change Hid (Blk ((((((w8.setCell ⟨g15, 0, none⟩ (.int .i64 V4.fl)).setCell ⟨g15, 1, none⟩ (.int .i64 V4.dir)).setCell ⟨g15, 2, none⟩ (.int .i64 V4.door)).setCell ⟨g15, 3, none⟩ (.slice q8 V4.du.length cap8)).setCell ⟨g15, 4, none⟩ (.int .i64 V4.still)).setCell ⟨g15, 5, none⟩ (.bool V4.late)) g15 [.int .i64 V4.fl, .int .i64 V4.dir, .int .i64 V4.door, .slice q8 V4.du.length cap8, .int .i64 V4.still, .bool V4.late]) at HB4
    generalize ((((((w8.setCell ⟨g15, 0, none⟩ (.int .i64 V4.fl)).setCell ⟨g15, 1, none⟩ (.int .i64 V4.dir)).setCell ⟨g15, 2, none⟩ (.int .i64 V4.door)).setCell ⟨g15, 3, none⟩ (.slice q8 V4.du.length cap8)).setCell ⟨g15, 4, none⟩ (.int .i64 V4.still)).setCell ⟨g15, 5, none⟩ (.bool V4.late)) = y8 at *
    clear HS1 HS2
    have HRz := Lib.hid (HR.out.next HW.out); have HDz := Lib.hid (HD.out.next HW.out)
    have k0 := ((HX0.out.later HW.out hz0)).reg 0 _ rfl
    have k1 := ((HX0.out.later HW.out hz0)).reg 1 _ rfl
    have k2 := ((HX0.out.later HW.out hz0)).reg 2 _ rfl
    have k3 := ((HX0.out.later HW.out hz0)).reg 3 _ rfl
    have k4 := ((HX0.out.later HW.out hz0)).reg 4 _ rfl
    have k5 := ((HX0.out.later HW.out hz0)).reg 5 _ rfl
    have k6 := ((HX0.out.later HW.out hz0)).reg 6 _ rfl
    have k7 := ((HX0.out.later HW.out hz0)).reg 7 _ rfl
    have j0 := ((HX1.out.later HW.out hz1)).reg 0 _ rfl
    have j1 := ((HX1.out.later HW.out hz1)).reg 1 _ rfl
    have j2 := ((HX1.out.later HW.out hz1)).reg 2 _ rfl
    have j3 := ((HX1.out.later HW.out hz1)).reg 3 _ rfl
    have j4 := ((HX1.out.later HW.out hz1)).reg 4 _ rfl
    have j5 := ((HX1.out.later HW.out hz1)).reg 5 _ rfl
    have x0 := (HB1.out).reg 0 _ rfl
    have x1 := (HB1.out).reg 1 _ rfl
    have x2 := (HB1.out).reg 2 _ rfl
    have x3 := (HB1.out).reg 3 _ rfl
    have x4 := (HB1.out).reg 4 _ rfl
    have x5 := (HB1.out).reg 5 _ rfl
    have y0 := (HB2.out).reg 0 _ rfl
    have y1 := (HB2.out).reg 1 _ rfl
    have y2 := (HB2.out).reg 2 _ rfl
    have y3 := (HB2.out).reg 3 _ rfl
    have y4 := (HB2.out).reg 4 _ rfl
    have y5 := (HB2.out).reg 5 _ rfl
    have z0 := (HB3.out).reg 0 _ rfl
    have z1 := (HB3.out).reg 1 _ rfl
    have z2 := (HB3.out).reg 2 _ rfl
    have z3 := (HB3.out).reg 3 _ rfl
    have z4 := (HB3.out).reg 4 _ rfl
    have z5 := (HB3.out).reg 5 _ rfl
    have u0 := (HB4.out).reg 0 _ rfl
    have u1 := (HB4.out).reg 1 _ rfl
    have u2 := (HB4.out).reg 2 _ rfl
    have u3 := (HB4.out).reg 3 _ rfl
    have u4 := (HB4.out).reg 4 _ rfl
    have u5 := (HB4.out).reg 5 _ rfl
    have HI1 : Hid (∀ W, Below y8.heap.size y8 W → Calls Try.prog 23 #[cvB b q cap, .int .i64 car, cvS s q' cap'] W fun e w' => e = .returned (.bool (stateB b car s)) ∧ Below W.heap.size W w') := Lib.hid fun W hW => isState_any b q cap car s q' cap' W HL1.out HL2.out (HRz.out.next hW) (HDz.out.next hW)
    have HI2 : Hid (∀ W, Below y8.heap.size y8 W → Calls Try.prog 35 #[cvB b q cap, .int .i64 car, cvS s q' cap'] W fun e w' => e = .returned (.bool (stateB b car s)) ∧ Below W.heap.size W w') := Lib.hid fun W hW => refIsState_any b q cap car s q' cap' W HL1.out HL2.out HSX.out (HRz.out.next hW) (HDz.out.next hW)
    have HI3 : Hid (∀ W, Below y8.heap.size y8 W → Calls Try.prog 11 #[cvB b q cap, .int .i64 car, cvS s q' cap'] W fun e w' => e = .returned (.bool (quietB b car s)) ∧ Below W.heap.size W w') := Lib.hid fun W hW => quiet_any b q cap car s q' cap' W HL1.out HL2.out (HRz.out.next hW) (HDz.out.next hW)
    have HI4 : Hid (∀ W, Below y8.heap.size y8 W → Calls Try.prog 40 #[cvB b q cap, .int .i64 car, cvS s q' cap'] W fun e w' => e = .returned (.bool (quietB b car s)) ∧ Below W.heap.size W w') := Lib.hid fun W hW => refQuiet_any b q cap car s q' cap' W HL1.out HL2.out HSX.out (HRz.out.next hW) (HDz.out.next hW)
    generalize stateB b car s = sb at *
    generalize quietB b car s = qb at *
    (refine Grow.wp_region Grow.noPlan Grow.noPlan_stable (by kernel_rfl) (by kernel_rfl) ?_; intro opsq Hopsq)
    repeat (first | (refine Grow.lex_move rfl ?_ rfl ?_; (· first | exact Grow.wanted_none | (rw [Hopsq.out]; rfl)); intro K hK; simp only [Grow.put_lit, Grow.setAt, Grow.eval_lit, Grow.ev]; refine hK _ _ ?_; clear hK K) | (refine Grow.lex_assign rfl ?_ rfl ?_; (· first | exact Grow.wanted_none | (rw [Hopsq.out]; rfl)); intro K hK; simp only [Grow.put_lit, Grow.setAt, Grow.eval_lit, Grow.ev]; refine hK _ _ ?_; clear hK K) | (refine Grow.lex_plain rfl rfl ?_ rfl ?_; (· first | exact Grow.wanted_none | (rw [Hopsq.out]; rfl)); apply Exists.intro; refine ⟨fun wq hCq _ => ?_, ?_⟩; (· (go_wp2_with fail; refine ⟨rfl, Below.refl _ _, ?_⟩; simp only [Grow.getD_lit, Grow.nth]; rfl)); intro K hK; simp only [Grow.put_lit, Grow.setAt]; refine hK _ _ ?_; clear hK K) | (refine Grow.lex_nilCheck rfl rfl ?_ rfl ?_; (· first | exact Grow.wanted_none | (rw [Hopsq.out]; rfl)); intro K hK; simp only [Grow.put_lit, Grow.setAt]; refine hK _ _ ?_; clear hK K) | (refine Grow.lex_skip ?_ ?_; (· (rw [Hopsq.out]; rfl)); intro K hK; simp only [Grow.put_lit, Grow.setAt]; refine hK _ _ ?_; clear hK K))
    (refine Grow.lex_call ?_ rfl ?_; (· first | exact Grow.wanted_none | (rw [Hopsq.out]; rfl)); apply Exists.intro; apply Exists.intro; refine ⟨fun wq => ?_, ?_⟩; (· (go_simp; exact ⟨rfl, rfl⟩)); apply Exists.intro; refine ⟨fun wq hCq hKq => ?_, ?_⟩; (· exact refSame_self V3 q5 cap5 q6 cap6 _ HA3.out (HD1.out.next (Grow.Cl.base hCq)) (HD2.out.next (Grow.Cl.base hCq))); intro K hK; simp only [Grow.put_lit, Grow.setAt]; refine hK _ _ ?_; clear hK K)
    repeat (first | (refine Grow.lex_move rfl ?_ rfl ?_; (· first | exact Grow.wanted_none | (rw [Hopsq.out]; rfl)); intro K hK; simp only [Grow.put_lit, Grow.setAt, Grow.eval_lit, Grow.ev]; refine hK _ _ ?_; clear hK K) | (refine Grow.lex_assign rfl ?_ rfl ?_; (· first | exact Grow.wanted_none | (rw [Hopsq.out]; rfl)); intro K hK; simp only [Grow.put_lit, Grow.setAt, Grow.eval_lit, Grow.ev]; refine hK _ _ ?_; clear hK K) | (refine Grow.lex_plain rfl rfl ?_ rfl ?_; (· first | exact Grow.wanted_none | (rw [Hopsq.out]; rfl)); apply Exists.intro; refine ⟨fun wq hCq _ => ?_, ?_⟩; (· (go_wp2_with fail; refine ⟨rfl, Below.refl _ _, ?_⟩; simp only [Grow.getD_lit, Grow.nth]; rfl)); intro K hK; simp only [Grow.put_lit, Grow.setAt]; refine hK _ _ ?_; clear hK K) | (refine Grow.lex_nilCheck rfl rfl ?_ rfl ?_; (· first | exact Grow.wanted_none | (rw [Hopsq.out]; rfl)); intro K hK; simp only [Grow.put_lit, Grow.setAt]; refine hK _ _ ?_; clear hK K) | (refine Grow.lex_skip ?_ ?_; (· (rw [Hopsq.out]; rfl)); intro K hK; simp only [Grow.put_lit, Grow.setAt]; refine hK _ _ ?_; clear hK K))
    (refine Grow.lex_call ?_ rfl ?_; (· first | exact Grow.wanted_none | (rw [Hopsq.out]; rfl)); apply Exists.intro; apply Exists.intro; refine ⟨fun wq => ?_, ?_⟩; (· (go_simp; exact ⟨rfl, rfl⟩)); apply Exists.intro; refine ⟨fun wq hCq hKq => ?_, ?_⟩; (· exact refSame_self V4 q7 cap7 q8 cap8 _ HA4.out (HD3.out.next (Grow.Cl.base hCq)) (HD4.out.next (Grow.Cl.base hCq))); intro K hK; simp only [Grow.put_lit, Grow.setAt]; refine hK _ _ ?_; clear hK K)
    repeat (first | (refine Grow.lex_move rfl ?_ rfl ?_; (· first | exact Grow.wanted_none | (rw [Hopsq.out]; rfl)); intro K hK; simp only [Grow.put_lit, Grow.setAt, Grow.eval_lit, Grow.ev]; refine hK _ _ ?_; clear hK K) | (refine Grow.lex_assign rfl ?_ rfl ?_; (· first | exact Grow.wanted_none | (rw [Hopsq.out]; rfl)); intro K hK; simp only [Grow.put_lit, Grow.setAt, Grow.eval_lit, Grow.ev]; refine hK _ _ ?_; clear hK K) | (refine Grow.lex_plain rfl rfl ?_ rfl ?_; (· first | exact Grow.wanted_none | (rw [Hopsq.out]; rfl)); apply Exists.intro; refine ⟨fun wq hCq _ => ?_, ?_⟩; (· (go_wp2_with fail; refine ⟨rfl, Below.refl _ _, ?_⟩; simp only [Grow.getD_lit, Grow.nth]; rfl)); intro K hK; simp only [Grow.put_lit, Grow.setAt]; refine hK _ _ ?_; clear hK K) | (refine Grow.lex_nilCheck rfl rfl ?_ rfl ?_; (· first | exact Grow.wanted_none | (rw [Hopsq.out]; rfl)); intro K hK; simp only [Grow.put_lit, Grow.setAt]; refine hK _ _ ?_; clear hK K) | (refine Grow.lex_skip ?_ ?_; (· (rw [Hopsq.out]; rfl)); intro K hK; simp only [Grow.put_lit, Grow.setAt]; refine hK _ _ ?_; clear hK K))
    (refine Grow.lex_call ?_ rfl ?_; (· first | exact Grow.wanted_none | (rw [Hopsq.out]; rfl)); apply Exists.intro; apply Exists.intro; refine ⟨fun wq => ?_, ?_⟩; (· (go_simp; exact ⟨rfl, rfl⟩)); apply Exists.intro; refine ⟨fun wq hCq hKq => ?_, ?_⟩; (· exact HI1.out _ (Grow.Cl.base hCq)); intro K hK; simp only [Grow.put_lit, Grow.setAt]; refine hK _ _ ?_; clear hK K)
    repeat (first | (refine Grow.lex_move rfl ?_ rfl ?_; (· first | exact Grow.wanted_none | (rw [Hopsq.out]; rfl)); intro K hK; simp only [Grow.put_lit, Grow.setAt, Grow.eval_lit, Grow.ev]; refine hK _ _ ?_; clear hK K) | (refine Grow.lex_assign rfl ?_ rfl ?_; (· first | exact Grow.wanted_none | (rw [Hopsq.out]; rfl)); intro K hK; simp only [Grow.put_lit, Grow.setAt, Grow.eval_lit, Grow.ev]; refine hK _ _ ?_; clear hK K) | (refine Grow.lex_plain rfl rfl ?_ rfl ?_; (· first | exact Grow.wanted_none | (rw [Hopsq.out]; rfl)); apply Exists.intro; refine ⟨fun wq hCq _ => ?_, ?_⟩; (· (go_wp2_with fail; refine ⟨rfl, Below.refl _ _, ?_⟩; simp only [Grow.getD_lit, Grow.nth]; rfl)); intro K hK; simp only [Grow.put_lit, Grow.setAt]; refine hK _ _ ?_; clear hK K) | (refine Grow.lex_nilCheck rfl rfl ?_ rfl ?_; (· first | exact Grow.wanted_none | (rw [Hopsq.out]; rfl)); intro K hK; simp only [Grow.put_lit, Grow.setAt]; refine hK _ _ ?_; clear hK K) | (refine Grow.lex_skip ?_ ?_; (· (rw [Hopsq.out]; rfl)); intro K hK; simp only [Grow.put_lit, Grow.setAt]; refine hK _ _ ?_; clear hK K))
    (refine Grow.lex_call ?_ rfl ?_; (· first | exact Grow.wanted_none | (rw [Hopsq.out]; rfl)); apply Exists.intro; apply Exists.intro; refine ⟨fun wq => ?_, ?_⟩; (· (go_simp; exact ⟨rfl, rfl⟩)); apply Exists.intro; refine ⟨fun wq hCq hKq => ?_, ?_⟩; (· exact HI2.out _ (Grow.Cl.base hCq)); intro K hK; simp only [Grow.put_lit, Grow.setAt]; refine hK _ _ ?_; clear hK K)
    repeat (first | (refine Grow.lex_move rfl ?_ rfl ?_; (· first | exact Grow.wanted_none | (rw [Hopsq.out]; rfl)); intro K hK; simp only [Grow.put_lit, Grow.setAt, Grow.eval_lit, Grow.ev]; refine hK _ _ ?_; clear hK K) | (refine Grow.lex_assign rfl ?_ rfl ?_; (· first | exact Grow.wanted_none | (rw [Hopsq.out]; rfl)); intro K hK; simp only [Grow.put_lit, Grow.setAt, Grow.eval_lit, Grow.ev]; refine hK _ _ ?_; clear hK K) | (refine Grow.lex_plain rfl rfl ?_ rfl ?_; (· first | exact Grow.wanted_none | (rw [Hopsq.out]; rfl)); apply Exists.intro; refine ⟨fun wq hCq _ => ?_, ?_⟩; (· (go_wp2_with fail; refine ⟨rfl, Below.refl _ _, ?_⟩; simp only [Grow.getD_lit, Grow.nth]; rfl)); intro K hK; simp only [Grow.put_lit, Grow.setAt]; refine hK _ _ ?_; clear hK K) | (refine Grow.lex_nilCheck rfl rfl ?_ rfl ?_; (· first | exact Grow.wanted_none | (rw [Hopsq.out]; rfl)); intro K hK; simp only [Grow.put_lit, Grow.setAt]; refine hK _ _ ?_; clear hK K) | (refine Grow.lex_skip ?_ ?_; (· (rw [Hopsq.out]; rfl)); intro K hK; simp only [Grow.put_lit, Grow.setAt]; refine hK _ _ ?_; clear hK K))
    (refine Grow.lex_call ?_ rfl ?_; (· first | exact Grow.wanted_none | (rw [Hopsq.out]; rfl)); apply Exists.intro; apply Exists.intro; refine ⟨fun wq => ?_, ?_⟩; (· (go_simp; exact ⟨rfl, rfl⟩)); apply Exists.intro; refine ⟨fun wq hCq hKq => ?_, ?_⟩; (· exact HI3.out _ (Grow.Cl.base hCq)); intro K hK; simp only [Grow.put_lit, Grow.setAt]; refine hK _ _ ?_; clear hK K)
    repeat (first | (refine Grow.lex_move rfl ?_ rfl ?_; (· first | exact Grow.wanted_none | (rw [Hopsq.out]; rfl)); intro K hK; simp only [Grow.put_lit, Grow.setAt, Grow.eval_lit, Grow.ev]; refine hK _ _ ?_; clear hK K) | (refine Grow.lex_assign rfl ?_ rfl ?_; (· first | exact Grow.wanted_none | (rw [Hopsq.out]; rfl)); intro K hK; simp only [Grow.put_lit, Grow.setAt, Grow.eval_lit, Grow.ev]; refine hK _ _ ?_; clear hK K) | (refine Grow.lex_plain rfl rfl ?_ rfl ?_; (· first | exact Grow.wanted_none | (rw [Hopsq.out]; rfl)); apply Exists.intro; refine ⟨fun wq hCq _ => ?_, ?_⟩; (· (go_wp2_with fail; refine ⟨rfl, Below.refl _ _, ?_⟩; simp only [Grow.getD_lit, Grow.nth]; rfl)); intro K hK; simp only [Grow.put_lit, Grow.setAt]; refine hK _ _ ?_; clear hK K) | (refine Grow.lex_nilCheck rfl rfl ?_ rfl ?_; (· first | exact Grow.wanted_none | (rw [Hopsq.out]; rfl)); intro K hK; simp only [Grow.put_lit, Grow.setAt]; refine hK _ _ ?_; clear hK K) | (refine Grow.lex_skip ?_ ?_; (· (rw [Hopsq.out]; rfl)); intro K hK; simp only [Grow.put_lit, Grow.setAt]; refine hK _ _ ?_; clear hK K))
    (refine Grow.lex_call ?_ rfl ?_; (· first | exact Grow.wanted_none | (rw [Hopsq.out]; rfl)); apply Exists.intro; apply Exists.intro; refine ⟨fun wq => ?_, ?_⟩; (· (go_simp; exact ⟨rfl, rfl⟩)); apply Exists.intro; refine ⟨fun wq hCq hKq => ?_, ?_⟩; (· exact HI4.out _ (Grow.Cl.base hCq)); intro K hK; simp only [Grow.put_lit, Grow.setAt]; refine hK _ _ ?_; clear hK K)
    repeat (first | (refine Grow.lex_move rfl ?_ rfl ?_; (· first | exact Grow.wanted_none | (rw [Hopsq.out]; rfl)); intro K hK; simp only [Grow.put_lit, Grow.setAt, Grow.eval_lit, Grow.ev]; refine hK _ _ ?_; clear hK K) | (refine Grow.lex_assign rfl ?_ rfl ?_; (· first | exact Grow.wanted_none | (rw [Hopsq.out]; rfl)); intro K hK; simp only [Grow.put_lit, Grow.setAt, Grow.eval_lit, Grow.ev]; refine hK _ _ ?_; clear hK K) | (refine Grow.lex_plain rfl rfl ?_ rfl ?_; (· first | exact Grow.wanted_none | (rw [Hopsq.out]; rfl)); apply Exists.intro; refine ⟨fun wq hCq _ => ?_, ?_⟩; (· (go_wp2_with fail; refine ⟨rfl, Below.refl _ _, ?_⟩; simp only [Grow.getD_lit, Grow.nth]; rfl)); intro K hK; simp only [Grow.put_lit, Grow.setAt]; refine hK _ _ ?_; clear hK K) | (refine Grow.lex_nilCheck rfl rfl ?_ rfl ?_; (· first | exact Grow.wanted_none | (rw [Hopsq.out]; rfl)); intro K hK; simp only [Grow.put_lit, Grow.setAt]; refine hK _ _ ?_; clear hK K) | (refine Grow.lex_skip ?_ ?_; (· (rw [Hopsq.out]; rfl)); intro K hK; simp only [Grow.put_lit, Grow.setAt]; refine hK _ _ ?_; clear hK K))
    (refine Grow.lex_nil ?_; intro wz hbz _; replace hbz := Grow.Cl.base hbz; clear Hopsq opsq)
    go_wp2_with fail
    go_ret
    exact ⟨by simp, HWW.out.trans ((HW.out.trans (hbz.mono HW.out.size)).mono HWW.out.size)⟩
end Go.Proofs.Ytnnkldidlgiipaa
