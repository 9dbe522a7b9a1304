/- The walk over overlayref19.Observe. Conditions: cars and duties that can be read; slack times that are no more than the greatest number less one. -/
import Derived.Test.YtnnkldidlgiipaaAged
import Derived.Test.YtnnkldidlgiipaaShows
import Derived.RegionTactic
namespace Go.Proofs.Ytnnkldidlgiipaa
open Go.RowKit
def stillV (s : BelV) (o : ObsV) : Int := if 0 ≤ o.1 ∧ o.2.2 = 2 ∧ o.2.1 = 0 then min (s.still + 1) 1000000 else 0
def zeroB : BelV := ⟨0, 0, 0, [], 0, false⟩
def obsOk (b : BldV) (car : Int) (s : BelV) (o : ObsV) : Bool := stateB b car s && obsB b.fl o
def observeV (b : BldV) (car : Int) (s : BelV) (o : ObsV) : BelV :=
  if obsOk b car s o then ⟨if 0 ≤ o.1 then o.1 else s.fl, o.2.1, o.2.2, (agedV b car s (showsV b.fl o)).du, stillV s o, (agedV b car s (showsV b.fl o)).late⟩ else zeroB
def errV (ok : Bool) : Int := if ok then 0 else 1
/-- A belief and an error. -/
def belE (lo : Nat) (V : BelV) (e : Int) (v : Value) (w : World) : Prop := ∃ q cap, v = .tuple #[cvS V q cap, .int .i64 e] ∧ RdD w q V.du ∧ ∀ A, q = some A → lo ≤ A.block
structure Keep (w : World) (g2 g3 : Nat) (q9 : Option Addr) (o : ObsV) (V : BelV) (wx : World) : Prop where
  res : Blk wx g3 [.int .i64 0, .int .i64 0, .int .i64 0, .slice none 0 0, .int .i64 0, .bool false]
  obs : Blk wx g2 [.int .i64 o.1, .int .i64 o.2.1, .int .i64 o.2.2]
  rd : RdD wx q9 V.du
  bel : Below w.heap.size w wx
theorem Keep.set {w wx : World} {g1 g2 g3 : Nat} {q9 : Option Addr} {o : ObsV} {V : BelV} (h : Keep w g2 g3 q9 o V wx) (h3 : g3 ≠ g1) (h2 : g2 ≠ g1) (hl : ∀ A, q9 = some A → A.block ≠ g1) (hg : w.heap.size ≤ g1) (i : Nat) (u : Value) : Keep w g2 g3 q9 o V (wx.setCell ⟨g1, i, none⟩ u) :=
  ⟨h.res.other h3 u, h.obs.other h2 u, h.rd.set hl, h.bel.setCell (p := ⟨g1, i, none⟩) hg u⟩
theorem Blk.drew {W : World} {b : Nat} {xs : List Value} (h : Blk W b xs) : Blk W.drew b xs := h
theorem Keep.drew {w wx : World} {g2 g3 : Nat} {q9 : Option Addr} {o : ObsV} {V : BelV} (h : Keep w g2 g3 q9 o V wx) : Keep w g2 g3 q9 o V wx.drew :=
  ⟨h.res, h.obs, h.rd, ⟨h.bel.os, h.bel.tape, h.bel.output, h.bel.size, h.bel.block⟩⟩
set_option maxHeartbeats 4000000 in
set_option maxRecDepth 100000 in
theorem refObserve_any (b : BldV) (q : Option Addr) (cap : Nat) (car : Int) (s : BelV) (q' : Option Addr) (cap' : Nat) (o : ObsV) (w : World) (hlen : b.cars.length ≤ 1000) (hlen' : s.du.length ≤ 1000) (hsl : ∀ c ∈ b.cars, -9223372036854775808 ≤ c.sl ∧ c.sl < 9223372036854775807) (hr : RdC w q b.cars) (hd : RdD w q' s.du) :
    Calls Try.prog 33 #[cvB b q cap, .int .i64 car, cvS s q' cap', .agg #[.int .i64 o.1, .int .i64 o.2.1, .int .i64 o.2.2]] w fun e w' => ∃ v, e = .returned v ∧ Below w.heap.size w w' ∧ belE w.heap.size (observeV b car s o) (errV (obsOk b car s o)) v w' := by
  have X0 : Blk (w.alloc (.cells #[.int .i64 b.fl, .int .i64 b.deb, .int .i64 b.room, .int .i64 b.park, .float .f64 b.em, .float .f64 b.fu, .float .f64 b.ov, .slice q b.cars.length cap] 27)) w.heap.size [.int .i64 b.fl, .int .i64 b.deb, .int .i64 b.room, .int .i64 b.park, .float .f64 b.em, .float .f64 b.fu, .float .f64 b.ov, .slice q b.cars.length cap] := by
    have hx := Blk.new w [.int .i64 b.fl, .int .i64 b.deb, .int .i64 b.room, .int .i64 b.park, .float .f64 b.em, .float .f64 b.fu, .float .f64 b.ov, .slice q b.cars.length cap] 27
    exact hx
  replace X0 : Blk ((w.alloc (.cells #[.int .i64 b.fl, .int .i64 b.deb, .int .i64 b.room, .int .i64 b.park, .float .f64 b.em, .float .f64 b.fu, .float .f64 b.ov, .slice q b.cars.length cap] 27)).alloc (.cells #[.int .i64 s.fl, .int .i64 s.dir, .int .i64 s.door, .slice q' s.du.length cap', .int .i64 s.still, .bool s.late] 35)) w.heap.size [.int .i64 b.fl, .int .i64 b.deb, .int .i64 b.room, .int .i64 b.park, .float .f64 b.em, .float .f64 b.fu, .float .f64 b.ov, .slice q b.cars.length cap] := X0.next (below1' _ _)
  replace X0 : Blk (((w.alloc (.cells #[.int .i64 b.fl, .int .i64 b.deb, .int .i64 b.room, .int .i64 b.park, .float .f64 b.em, .float .f64 b.fu, .float .f64 b.ov, .slice q b.cars.length cap] 27)).alloc (.cells #[.int .i64 s.fl, .int .i64 s.dir, .int .i64 s.door, .slice q' s.du.length cap', .int .i64 s.still, .bool s.late] 35)).alloc (.cells #[.int .i64 o.1, .int .i64 o.2.1, .int .i64 o.2.2] 41)) w.heap.size [.int .i64 b.fl, .int .i64 b.deb, .int .i64 b.room, .int .i64 b.park, .float .f64 b.em, .float .f64 b.fu, .float .f64 b.ov, .slice q b.cars.length cap] := X0.next (below1' _ _)
  replace X0 : Blk ((((w.alloc (.cells #[.int .i64 b.fl, .int .i64 b.deb, .int .i64 b.room, .int .i64 b.park, .float .f64 b.em, .float .f64 b.fu, .float .f64 b.ov, .slice q b.cars.length cap] 27)).alloc (.cells #[.int .i64 s.fl, .int .i64 s.dir, .int .i64 s.door, .slice q' s.du.length cap', .int .i64 s.still, .bool s.late] 35)).alloc (.cells #[.int .i64 o.1, .int .i64 o.2.1, .int .i64 o.2.2] 41)).alloc (.cells #[.int .i64 0, .int .i64 0, .int .i64 0, .slice none 0 0, .int .i64 0, .bool false] 35)) w.heap.size [.int .i64 b.fl, .int .i64 b.deb, .int .i64 b.room, .int .i64 b.park, .float .f64 b.em, .float .f64 b.fu, .float .f64 b.ov, .slice q b.cars.length cap] := X0.next (below1' _ _)
  have X1 : Blk ((w.alloc (.cells #[.int .i64 b.fl, .int .i64 b.deb, .int .i64 b.room, .int .i64 b.park, .float .f64 b.em, .float .f64 b.fu, .float .f64 b.ov, .slice q b.cars.length cap] 27)).alloc (.cells #[.int .i64 s.fl, .int .i64 s.dir, .int .i64 s.door, .slice q' s.du.length cap', .int .i64 s.still, .bool s.late] 35)) (w.heap.size + 1) [.int .i64 s.fl, .int .i64 s.dir, .int .i64 s.door, .slice q' s.du.length cap', .int .i64 s.still, .bool s.late] := by
    have hx := Blk.new (w.alloc (.cells #[.int .i64 b.fl, .int .i64 b.deb, .int .i64 b.room, .int .i64 b.park, .float .f64 b.em, .float .f64 b.fu, .float .f64 b.ov, .slice q b.cars.length cap] 27)) [.int .i64 s.fl, .int .i64 s.dir, .int .i64 s.door, .slice q' s.du.length cap', .int .i64 s.still, .bool s.late] 35
    rw [World.size_alloc] at hx
    exact hx
  replace X1 : Blk (((w.alloc (.cells #[.int .i64 b.fl, .int .i64 b.deb, .int .i64 b.room, .int .i64 b.park, .float .f64 b.em, .float .f64 b.fu, .float .f64 b.ov, .slice q b.cars.length cap] 27)).alloc (.cells #[.int .i64 s.fl, .int .i64 s.dir, .int .i64 s.door, .slice q' s.du.length cap', .int .i64 s.still, .bool s.late] 35)).alloc (.cells #[.int .i64 o.1, .int .i64 o.2.1, .int .i64 o.2.2] 41)) (w.heap.size + 1) [.int .i64 s.fl, .int .i64 s.dir, .int .i64 s.door, .slice q' s.du.length cap', .int .i64 s.still, .bool s.late] := X1.next (below1' _ _)
  replace X1 : Blk ((((w.alloc (.cells #[.int .i64 b.fl, .int .i64 b.deb, .int .i64 b.room, .int .i64 b.park, .float .f64 b.em, .float .f64 b.fu, .float .f64 b.ov, .slice q b.cars.length cap] 27)).alloc (.cells #[.int .i64 s.fl, .int .i64 s.dir, .int .i64 s.door, .slice q' s.du.length cap', .int .i64 s.still, .bool s.late] 35)).alloc (.cells #[.int .i64 o.1, .int .i64 o.2.1, .int .i64 o.2.2] 41)).alloc (.cells #[.int .i64 0, .int .i64 0, .int .i64 0, .slice none 0 0, .int .i64 0, .bool false] 35)) (w.heap.size + 1) [.int .i64 s.fl, .int .i64 s.dir, .int .i64 s.door, .slice q' s.du.length cap', .int .i64 s.still, .bool s.late] := X1.next (below1' _ _)
  have X2 : Blk (((w.alloc (.cells #[.int .i64 b.fl, .int .i64 b.deb, .int .i64 b.room, .int .i64 b.park, .float .f64 b.em, .float .f64 b.fu, .float .f64 b.ov, .slice q b.cars.length cap] 27)).alloc (.cells #[.int .i64 s.fl, .int .i64 s.dir, .int .i64 s.door, .slice q' s.du.length cap', .int .i64 s.still, .bool s.late] 35)).alloc (.cells #[.int .i64 o.1, .int .i64 o.2.1, .int .i64 o.2.2] 41)) (w.heap.size + 1 + 1) [.int .i64 o.1, .int .i64 o.2.1, .int .i64 o.2.2] := by
    have hx := Blk.new ((w.alloc (.cells #[.int .i64 b.fl, .int .i64 b.deb, .int .i64 b.room, .int .i64 b.park, .float .f64 b.em, .float .f64 b.fu, .float .f64 b.ov, .slice q b.cars.length cap] 27)).alloc (.cells #[.int .i64 s.fl, .int .i64 s.dir, .int .i64 s.door, .slice q' s.du.length cap', .int .i64 s.still, .bool s.late] 35)) [.int .i64 o.1, .int .i64 o.2.1, .int .i64 o.2.2] 41
    rw [World.size_alloc, World.size_alloc] at hx
    exact hx
  replace X2 : Blk ((((w.alloc (.cells #[.int .i64 b.fl, .int .i64 b.deb, .int .i64 b.room, .int .i64 b.park, .float .f64 b.em, .float .f64 b.fu, .float .f64 b.ov, .slice q b.cars.length cap] 27)).alloc (.cells #[.int .i64 s.fl, .int .i64 s.dir, .int .i64 s.door, .slice q' s.du.length cap', .int .i64 s.still, .bool s.late] 35)).alloc (.cells #[.int .i64 o.1, .int .i64 o.2.1, .int .i64 o.2.2] 41)).alloc (.cells #[.int .i64 0, .int .i64 0, .int .i64 0, .slice none 0 0, .int .i64 0, .bool false] 35)) (w.heap.size + 1 + 1) [.int .i64 o.1, .int .i64 o.2.1, .int .i64 o.2.2] := X2.next (below1' _ _)
  have X3 : Blk ((((w.alloc (.cells #[.int .i64 b.fl, .int .i64 b.deb, .int .i64 b.room, .int .i64 b.park, .float .f64 b.em, .float .f64 b.fu, .float .f64 b.ov, .slice q b.cars.length cap] 27)).alloc (.cells #[.int .i64 s.fl, .int .i64 s.dir, .int .i64 s.door, .slice q' s.du.length cap', .int .i64 s.still, .bool s.late] 35)).alloc (.cells #[.int .i64 o.1, .int .i64 o.2.1, .int .i64 o.2.2] 41)).alloc (.cells #[.int .i64 0, .int .i64 0, .int .i64 0, .slice none 0 0, .int .i64 0, .bool false] 35)) (w.heap.size + 1 + 1 + 1) [.int .i64 0, .int .i64 0, .int .i64 0, .slice none 0 0, .int .i64 0, .bool false] := by
    have hx := Blk.new (((w.alloc (.cells #[.int .i64 b.fl, .int .i64 b.deb, .int .i64 b.room, .int .i64 b.park, .float .f64 b.em, .float .f64 b.fu, .float .f64 b.ov, .slice q b.cars.length cap] 27)).alloc (.cells #[.int .i64 s.fl, .int .i64 s.dir, .int .i64 s.door, .slice q' s.du.length cap', .int .i64 s.still, .bool s.late] 35)).alloc (.cells #[.int .i64 o.1, .int .i64 o.2.1, .int .i64 o.2.2] 41)) [.int .i64 0, .int .i64 0, .int .i64 0, .slice none 0 0, .int .i64 0, .bool false] 35
    rw [World.size_alloc, World.size_alloc, World.size_alloc] at hx
    exact hx
  have XW : Below w.heap.size w (w.alloc (.cells #[.int .i64 b.fl, .int .i64 b.deb, .int .i64 b.room, .int .i64 b.park, .float .f64 b.em, .float .f64 b.fu, .float .f64 b.ov, .slice q b.cars.length cap] 27)) := below1' w _
  replace XW : Below w.heap.size w ((w.alloc (.cells #[.int .i64 b.fl, .int .i64 b.deb, .int .i64 b.room, .int .i64 b.park, .float .f64 b.em, .float .f64 b.fu, .float .f64 b.ov, .slice q b.cars.length cap] 27)).alloc (.cells #[.int .i64 s.fl, .int .i64 s.dir, .int .i64 s.door, .slice q' s.du.length cap', .int .i64 s.still, .bool s.late] 35)) := XW.trans ((below1' _ _).mono XW.size)
  replace XW : Below w.heap.size w (((w.alloc (.cells #[.int .i64 b.fl, .int .i64 b.deb, .int .i64 b.room, .int .i64 b.park, .float .f64 b.em, .float .f64 b.fu, .float .f64 b.ov, .slice q b.cars.length cap] 27)).alloc (.cells #[.int .i64 s.fl, .int .i64 s.dir, .int .i64 s.door, .slice q' s.du.length cap', .int .i64 s.still, .bool s.late] 35)).alloc (.cells #[.int .i64 o.1, .int .i64 o.2.1, .int .i64 o.2.2] 41)) := XW.trans ((below1' _ _).mono XW.size)
  replace XW : Below w.heap.size w ((((w.alloc (.cells #[.int .i64 b.fl, .int .i64 b.deb, .int .i64 b.room, .int .i64 b.park, .float .f64 b.em, .float .f64 b.fu, .float .f64 b.ov, .slice q b.cars.length cap] 27)).alloc (.cells #[.int .i64 s.fl, .int .i64 s.dir, .int .i64 s.door, .slice q' s.du.length cap', .int .i64 s.still, .bool s.late] 35)).alloc (.cells #[.int .i64 o.1, .int .i64 o.2.1, .int .i64 o.2.2] 41)).alloc (.cells #[.int .i64 0, .int .i64 0, .int .i64 0, .slice none 0 0, .int .i64 0, .bool false] 35)) := XW.trans ((below1' _ _).mono XW.size)
  have HWW := Lib.hid XW; have HX0 := Lib.hid X0; have HX1 := Lib.hid X1; have HX2 := Lib.hid X2; have HX3 := Lib.hid X3
  clear XW X0 X1 X2 X3
  have HR := Lib.hid (hr.next HWW.out); have HD := Lib.hid (hd.next HWW.out); have HSL := Lib.hid hsl
  have HL1 := Lib.hid hlen; have HL2 := Lib.hid hlen'
  clear hr hd hsl hlen hlen'
  go_enter Try.func33, Try.ntmps33
  go_upto_region 1 with fail
  generalize ((((w.alloc (.cells #[.int .i64 b.fl, .int .i64 b.deb, .int .i64 b.room, .int .i64 b.park, .float .f64 b.em, .float .f64 b.fu, .float .f64 b.ov, .slice q b.cars.length cap] 27)).alloc (.cells #[.int .i64 s.fl, .int .i64 s.dir, .int .i64 s.door, .slice q' s.du.length cap', .int .i64 s.still, .bool s.late] 35)).alloc (.cells #[.int .i64 o.1, .int .i64 o.2.1, .int .i64 o.2.2] 41)).alloc (.cells #[.int .i64 0, .int .i64 0, .int .i64 0, .slice none 0 0, .int .i64 0, .bool false] 35)) = w0 at *
  generalize hg3 : w.heap.size + 1 + 1 + 1 = g3 at *
  generalize hg2 : w.heap.size + 1 + 1 = g2 at *
  generalize hg1 : w.heap.size + 1 = g1 at *
  have HG1 := Lib.hid hg1; have hq1 : w.heap.size + 1 ≤ g1 := by omega
  have HG2 := Lib.hid hg2; have hq2 : w.heap.size + 2 ≤ g2 := by omega
  have HG3 := Lib.hid hg3; have hq3 : w.heap.size + 3 ≤ g3 := by omega
  clear hg1 hg2 hg3
  have HW := Lib.hid (Below.refl w0.heap.size w0)
  have hz0 := HX0.out.lt; have hz1 := HX1.out.lt; have hz2 := HX2.out.lt; have hz3 := HX3.out.lt
  have hg13 : g3 ≠ g1 := by have := HG2.out; have := HG3.out; omega
  have hg12 : g2 ≠ g1 := by have := HG2.out; omega
  have hG3 : w.heap.size ≤ g3 := by omega
  have hG1 : w.heap.size ≤ g1 := by omega
  have k0 := (HX0.out).cell 0 _ rfl
  have k1 := (HX0.out).cell 1 _ rfl
  have k2 := (HX0.out).cell 2 _ rfl
  have k3 := (HX0.out).cell 3 _ rfl
  have k4 := (HX0.out).cell 4 _ rfl
  have k5 := (HX0.out).cell 5 _ rfl
  have k6 := (HX0.out).cell 6 _ rfl
  have k7 := (HX0.out).cell 7 _ rfl
  have j0 := (HX1.out).cell 0 _ rfl
  have j1 := (HX1.out).cell 1 _ rfl
  have j2 := (HX1.out).cell 2 _ rfl
  have j3 := (HX1.out).cell 3 _ rfl
  have j4 := (HX1.out).cell 4 _ rfl
  have j5 := (HX1.out).cell 5 _ rfl
  have m0 := (HX2.out).cell 0 _ rfl
  have m1 := (HX2.out).cell 1 _ rfl
  have m2 := (HX2.out).cell 2 _ rfl
  have c0 := base_cell HW.out
  go_wp2_with fail
  refine (refIsState_any b q cap car s q' cap' _ HL1.out HL2.out HSL.out HR.out HD.out).mono ?_
  rintro e w1 ⟨rfl, hbn⟩
  have HWn := Lib.hid (HW.out.trans (hbn.mono HW.out.size))
  try clear c0
  clear HW hbn
  have HW := HWn
  clear HWn
  have c0 := base_cell HW.out
  have hbad : ∀ wr, Below w0.heap.size w0 wr → obsOk b car s o = false → Blk ((((((wr.setCell ⟨g3, 0, none⟩ (.int .i64 0)).setCell ⟨g3, 1, none⟩ (.int .i64 0)).setCell ⟨g3, 2, none⟩ (.int .i64 0)).setCell ⟨g3, 3, none⟩ (.slice none 0 0)).setCell ⟨g3, 4, none⟩ (.int .i64 0)).setCell ⟨g3, 5, none⟩ (.bool false)) g3 [.int .i64 0, .int .i64 0, .int .i64 0, .slice none 0 0, .int .i64 0, .bool false] ∧
      Below w.heap.size w ((((((wr.setCell ⟨g3, 0, none⟩ (.int .i64 0)).setCell ⟨g3, 1, none⟩ (.int .i64 0)).setCell ⟨g3, 2, none⟩ (.int .i64 0)).setCell ⟨g3, 3, none⟩ (.slice none 0 0)).setCell ⟨g3, 4, none⟩ (.int .i64 0)).setCell ⟨g3, 5, none⟩ (.bool false)) ∧ belE w.heap.size (observeV b car s o) (errV (obsOk b car s o)) (.tuple #[cvS zeroB none 0, .int .i64 1]) ((((((wr.setCell ⟨g3, 0, none⟩ (.int .i64 0)).setCell ⟨g3, 1, none⟩ (.int .i64 0)).setCell ⟨g3, 2, none⟩ (.int .i64 0)).setCell ⟨g3, 3, none⟩ (.slice none 0 0)).setCell ⟨g3, 4, none⟩ (.int .i64 0)).setCell ⟨g3, 5, none⟩ (.bool false)) := by
    intro wr hb ho
    refine ⟨((((((HX3.out.later hb hz3).set 0 _).set 1 _).set 2 _).set 3 _).set 4 _).set 5 _, ((((((HWW.out.trans (hb.mono HWW.out.size)).setCell (p := ⟨g3, 0, none⟩) hG3 _).setCell (p := ⟨g3, 1, none⟩) hG3 _).setCell (p := ⟨g3, 2, none⟩) hG3 _).setCell (p := ⟨g3, 3, none⟩) hG3 _).setCell (p := ⟨g3, 4, none⟩) hG3 _).setCell (p := ⟨g3, 5, none⟩) hG3 _, none, 0, ?_, ?_, fun A h => by cases h⟩
    · unfold observeV errV; rw [ho]; rfl
    · unfold observeV; rw [ho]; exact fun i d h => by simp [zeroB] at h
  have HBAD := Lib.hid hbad
  clear hbad
  cases e1 : stateB b car s
  · have E1 : Hid (obsOk b car s o = false) := Lib.hid (by unfold obsOk; rw [e1]; rfl)
    clear e1
    have z0 := (HX3.out).cell 0 _ rfl
    have z1 := (HX3.out).cell 1 _ rfl
    have z2 := (HX3.out).cell 2 _ rfl
    have z3 := (HX3.out).cell 3 _ rfl
    have z4 := (HX3.out).cell 4 _ rfl
    have z5 := (HX3.out).cell 5 _ rfl
    have R1 := HX3.out.later HW.out hz3
    have f0 := R1.fr 0; have f1 := R1.fr 1; have f2 := R1.fr 2; have f3 := R1.fr 3; have f4 := R1.fr 4; have f5 := R1.fr 5
    clear R1
    go_wp2_with fail
    obtain ⟨R8, hbf, hbe⟩ := HBAD.out w1 HW.out E1.out
    have r0 := (R8).cell 0 _ rfl
    have r1 := (R8).cell 1 _ rfl
    have r2 := (R8).cell 2 _ rfl
    have r3 := (R8).cell 3 _ rfl
    have r4 := (R8).cell 4 _ rfl
    have r5 := (R8).cell 5 _ rfl
    exact bodyPost_ret (v := .tuple #[cvS zeroB none 0, .int .i64 1]) (by simp [results, Try.results33, go_sem, zeroB, r0, r1, r2, r3, r4, r5]) rfl ⟨_, rfl, hbf, hbe⟩
  · have HST := Lib.hid e1
    clear e1
    go_wp2_with fail
    refine (refIsObs_any b.fl o _).mono ?_
    rintro e w2 ⟨rfl, hbn⟩
    have HWn := Lib.hid (HW.out.trans (hbn.mono HW.out.size))
    try clear c0
    clear HW hbn
    have HW := HWn
    clear HWn
    have c0 := base_cell HW.out
    cases e2 : obsB b.fl o
    · have E1 : Hid (obsOk b car s o = false) := Lib.hid (by unfold obsOk; rw [e2, Bool.and_false])
      clear e2
      have z0 := (HX3.out).cell 0 _ rfl
      have z1 := (HX3.out).cell 1 _ rfl
      have z2 := (HX3.out).cell 2 _ rfl
      have z3 := (HX3.out).cell 3 _ rfl
      have z4 := (HX3.out).cell 4 _ rfl
      have z5 := (HX3.out).cell 5 _ rfl
      have R1 := HX3.out.later HW.out hz3
      have f0 := R1.fr 0; have f1 := R1.fr 1; have f2 := R1.fr 2; have f3 := R1.fr 3; have f4 := R1.fr 4; have f5 := R1.fr 5
      clear R1
      go_wp2_with fail
      obtain ⟨R8, hbf, hbe⟩ := HBAD.out w2 HW.out E1.out
      have r0 := (R8).cell 0 _ rfl
      have r1 := (R8).cell 1 _ rfl
      have r2 := (R8).cell 2 _ rfl
      have r3 := (R8).cell 3 _ rfl
      have r4 := (R8).cell 4 _ rfl
      have r5 := (R8).cell 5 _ rfl
      exact bodyPost_ret (v := .tuple #[cvS zeroB none 0, .int .i64 1]) (by simp [results, Try.results33, go_sem, zeroB, r0, r1, r2, r3, r4, r5]) rfl ⟨_, rfl, hbf, hbe⟩
    · have E1 : Hid (obsOk b car s o = true) := Lib.hid (by unfold obsOk; rw [e2, HST.out]; rfl)
      clear e2 HBAD
      obtain ⟨V, hV⟩ : ∃ V, V = agedV b car s (showsV b.fl o) := ⟨_, rfl⟩
      have HV := Lib.hid hV
      have hVf : V.fl = s.fl ∧ V.still = s.still := by rw [hV]; exact ⟨rfl, rfl⟩
      have HVF := Lib.hid hVf
      have hlo : w0.heap.size ≤ w2.heap.size := HW.out.size
      clear hV hVf
      go_upto_region 3 with fail
      clear c0 k0 k1 k2 k3 k4 k5 k6 k7 j0 j1 j2 j3 j4 j5 m0 m1 m2
      have t0 := ((HX0.out.later HW.out hz0)).reg 0 _ rfl
      have t1 := ((HX0.out.later HW.out hz0)).reg 1 _ rfl
      have t2 := ((HX0.out.later HW.out hz0)).reg 2 _ rfl
      have t3 := ((HX0.out.later HW.out hz0)).reg 3 _ rfl
      have t4 := ((HX0.out.later HW.out hz0)).reg 4 _ rfl
      have t5 := ((HX0.out.later HW.out hz0)).reg 5 _ rfl
      have t6 := ((HX0.out.later HW.out hz0)).reg 6 _ rfl
      have t7 := ((HX0.out.later HW.out hz0)).reg 7 _ rfl
      have u0 := ((HX1.out.later HW.out hz1)).reg 0 _ rfl
      have u1 := ((HX1.out.later HW.out hz1)).reg 1 _ rfl
      have u2 := ((HX1.out.later HW.out hz1)).reg 2 _ rfl
      have u3 := ((HX1.out.later HW.out hz1)).reg 3 _ rfl
      have u4 := ((HX1.out.later HW.out hz1)).reg 4 _ rfl
      have u5 := ((HX1.out.later HW.out hz1)).reg 5 _ rfl
      have v0 := ((HX2.out.later HW.out hz2)).reg 0 _ rfl
      have v1 := ((HX2.out.later HW.out hz2)).reg 1 _ rfl
      have v2 := ((HX2.out.later HW.out hz2)).reg 2 _ rfl
      refine Grow.wp_region_tail 8 (belPlan 7 w0.heap.size V) (belPlan_stable 7 _ V) (by kernel_rfl) (by kernel_rfl) ?_
      intro opsq Hopsq
      simp only [List.take_succ_cons, List.take_zero, List.drop_succ_cons, List.drop_zero]
      repeat (first | (refine Grow.lex_move rfl ?_ rfl ?_; (· first | exact Grow.wanted_none | (rw [Hopsq.out]; rfl)); intro K hK; simp only [Grow.put_lit, Grow.setAt, Grow.eval_lit, Grow.ev]; refine hK _ _ ?_; clear hK K) | (refine Grow.lex_assign rfl ?_ rfl ?_; (· first | exact Grow.wanted_none | (rw [Hopsq.out]; rfl)); intro K hK; simp only [Grow.put_lit, Grow.setAt, Grow.eval_lit, Grow.ev]; refine hK _ _ ?_; clear hK K) | (refine Grow.lex_plain rfl rfl ?_ rfl ?_; (· first | exact Grow.wanted_none | (rw [Hopsq.out]; rfl)); apply Exists.intro; refine ⟨fun wq hCq _ => ?_, ?_⟩; (· (go_wp2_with fail; refine ⟨rfl, Below.refl _ _, ?_⟩; simp only [Grow.getD_lit, Grow.nth]; rfl)); intro K hK; simp only [Grow.put_lit, Grow.setAt]; refine hK _ _ ?_; clear hK K) | (refine Grow.lex_nilCheck rfl rfl ?_ rfl ?_; (· first | exact Grow.wanted_none | (rw [Hopsq.out]; rfl)); intro K hK; simp only [Grow.put_lit, Grow.setAt]; refine hK _ _ ?_; clear hK K) | (refine Grow.lex_skip ?_ ?_; (· (rw [Hopsq.out]; rfl)); intro K hK; simp only [Grow.put_lit, Grow.setAt]; refine hK _ _ ?_; clear hK K))
      (refine Grow.lex_call ?_ rfl ?_; (· first | exact Grow.wanted_none | (rw [Hopsq.out]; rfl)); apply Exists.intro; apply Exists.intro; refine ⟨fun wq => ?_, ?_⟩; (· (go_simp; exact ⟨rfl, rfl⟩)); apply Exists.intro; refine ⟨fun wq hCq hKq => ?_, ?_⟩; (· exact refShows_any b.fl o _); intro K hK; simp only [Grow.put_lit, Grow.setAt]; refine hK _ _ ?_; clear hK K)
      repeat (first | (refine Grow.lex_move rfl ?_ rfl ?_; (· first | exact Grow.wanted_none | (rw [Hopsq.out]; rfl)); intro K hK; simp only [Grow.put_lit, Grow.setAt, Grow.eval_lit, Grow.ev]; refine hK _ _ ?_; clear hK K) | (refine Grow.lex_assign rfl ?_ rfl ?_; (· first | exact Grow.wanted_none | (rw [Hopsq.out]; rfl)); intro K hK; simp only [Grow.put_lit, Grow.setAt, Grow.eval_lit, Grow.ev]; refine hK _ _ ?_; clear hK K) | (refine Grow.lex_plain rfl rfl ?_ rfl ?_; (· first | exact Grow.wanted_none | (rw [Hopsq.out]; rfl)); apply Exists.intro; refine ⟨fun wq hCq _ => ?_, ?_⟩; (· (go_wp2_with fail; refine ⟨rfl, Below.refl _ _, ?_⟩; simp only [Grow.getD_lit, Grow.nth]; rfl)); intro K hK; simp only [Grow.put_lit, Grow.setAt]; refine hK _ _ ?_; clear hK K) | (refine Grow.lex_nilCheck rfl rfl ?_ rfl ?_; (· first | exact Grow.wanted_none | (rw [Hopsq.out]; rfl)); intro K hK; simp only [Grow.put_lit, Grow.setAt]; refine hK _ _ ?_; clear hK K) | (refine Grow.lex_skip ?_ ?_; (· (rw [Hopsq.out]; rfl)); intro K hK; simp only [Grow.put_lit, Grow.setAt]; refine hK _ _ ?_; clear hK K))
      (refine Grow.lex_callR (r := (belR w0.heap.size V)) ?_ rfl ?_; (· first | exact Grow.wanted_none | (rw [Hopsq.out]; rfl)); apply Exists.intro; apply Exists.intro; refine ⟨fun wq => ?_, ?_, ?_⟩; (· (go_simp; exact ⟨rfl, rfl⟩)); (· (intro wq hCq hKq; exact (refAged_any b q cap car s q' cap' (showsV b.fl o) _ HL2.out HST.out ((HR.out.next HW.out).next (Grow.Cl.base hCq)) ((HD.out.next HW.out).next (Grow.Cl.base hCq))).mono (fun e w' ⟨v, he, hb, hR⟩ => ⟨v, he, hb, by rw [HV.out]; exact belR_lo hR (Nat.le_trans hlo (Grow.Cl.base hCq).size)⟩))); intro v9 hWq; clear hWq; intro K hK; simp only [Grow.put_lit, Grow.setAt]; refine hK _ _ ?_; clear hK K)
      refine Grow.lex_nil ?_
      intro w8 hb8 hTq
      obtain ⟨_, q9, cap9, hv9, hrd9, hlo9⟩ := Grow.Holds.of_upd hTq
      subst hv9
      replace hb8 := Grow.Cl.base hb8
      clear hTq Hopsq opsq
      clear t0 t1 t2 t3 t4 t5 t6 t7 u0 u1 u2 u3 u4 u5 v0 v1 v2
      have HW3 := Lib.hid (HW.out.trans (hb8.mono HW.out.size))
      have HRD := Lib.hid hrd9
      have hlo1 : ∀ A, q9 = some A → A.block ≠ g1 := fun A hA => by have := hlo9 A hA; omega
      have hlo3 : ∀ A, q9 = some A → A.block ≠ g3 := fun A hA => by have := hlo9 A hA; omega
      have hloW : ∀ A, q9 = some A → w.heap.size ≤ A.block := fun A hA => Nat.le_trans HWW.out.size (hlo9 A hA)
      have HLO1 := Lib.hid hlo1; have HLO3 := Lib.hid hlo3; have HLOW := Lib.hid hloW
      clear hlo1 hlo3 hloW hlo9
      clear hb8 hrd9 HW
      have BS := HX1.out.later HW3.out hz1
      have j0 := (BS).cell 0 _ rfl
      have j1 := (BS).cell 1 _ rfl
      have j2 := (BS).cell 2 _ rfl
      have j3 := (BS).cell 3 _ rfl
      have j4 := (BS).cell 4 _ rfl
      have j5 := (BS).cell 5 _ rfl
      have e0 := BS.fr 0; have e1 := BS.fr 1; have e2 := BS.fr 2; have e3 := BS.fr 3; have e4 := BS.fr 4; have e5 := BS.fr 5
      clear BS
      go_upto_region 4 with fail
      have S4 : Blk ((((((w8.setCell ⟨g1, 0, none⟩ (.int .i64 V.fl)).setCell ⟨g1, 1, none⟩ (.int .i64 V.dir)).setCell ⟨g1, 2, none⟩ (.int .i64 V.door)).setCell ⟨g1, 3, none⟩ (.slice q9 V.du.length cap9)).setCell ⟨g1, 4, none⟩ (.int .i64 V.still)).setCell ⟨g1, 5, none⟩ (.bool V.late)) g1 [.int .i64 V.fl, .int .i64 V.dir, .int .i64 V.door, .slice q9 V.du.length cap9, .int .i64 V.still, .bool V.late] := (((((((HX1.out.later HW3.out hz1).set 0 (.int .i64 V.fl)).set 1 (.int .i64 V.dir)).set 2 (.int .i64 V.door)).set 3 (.slice q9 V.du.length cap9)).set 4 (.int .i64 V.still)).set 5 (.bool V.late))
      have K4 : Keep w g2 g3 q9 o V ((((((w8.setCell ⟨g1, 0, none⟩ (.int .i64 V.fl)).setCell ⟨g1, 1, none⟩ (.int .i64 V.dir)).setCell ⟨g1, 2, none⟩ (.int .i64 V.door)).setCell ⟨g1, 3, none⟩ (.slice q9 V.du.length cap9)).setCell ⟨g1, 4, none⟩ (.int .i64 V.still)).setCell ⟨g1, 5, none⟩ (.bool V.late)) := (((((((⟨HX3.out.later HW3.out hz3, HX2.out.later HW3.out hz2, HRD.out, HWW.out.trans (HW3.out.mono HWW.out.size)⟩ : Keep w g2 g3 q9 o V w8).set hg13 hg12 HLO1.out hG1 0 (.int .i64 V.fl)).set hg13 hg12 HLO1.out hG1 1 (.int .i64 V.dir)).set hg13 hg12 HLO1.out hG1 2 (.int .i64 V.door)).set hg13 hg12 HLO1.out hG1 3 (.slice q9 V.du.length cap9)).set hg13 hg12 HLO1.out hG1 4 (.int .i64 V.still)).set hg13 hg12 HLO1.out hG1 5 (.bool V.late))
      have HS := Lib.hid S4; have HK := Lib.hid K4
      clear S4 K4 HW3 HRD j0 j1 j2 j3 j4 j5 e0 e1 e2 e3 e4 e5
      generalize ((((((w8.setCell ⟨g1, 0, none⟩ (.int .i64 V.fl)).setCell ⟨g1, 1, none⟩ (.int .i64 V.dir)).setCell ⟨g1, 2, none⟩ (.int .i64 V.door)).setCell ⟨g1, 3, none⟩ (.slice q9 V.du.length cap9)).setCell ⟨g1, 4, none⟩ (.int .i64 V.still)).setCell ⟨g1, 5, none⟩ (.bool V.late)) = w4 at *
      have HF : Hid ((if 0 ≤ o.1 then o.1 else V.fl) = (if 0 ≤ o.1 then o.1 else V.fl)) := Lib.hid rfl
      have m0 := (HK.out.obs).cell 0 _ rfl
      have m1 := (HK.out.obs).cell 1 _ rfl
      have m2 := (HK.out.obs).cell 2 _ rfl
      go_upto_if 33 with fail
      go_cut [] from 31 to 36 (fun wx => Blk wx g1 [.int .i64 (if 0 ≤ o.1 then o.1 else V.fl), .int .i64 V.dir, .int .i64 V.door, .slice q9 V.du.length cap9, .int .i64 V.still, .bool V.late] ∧ Keep w g2 g3 q9 o V wx)
      case first =>
        by_cases h0 : 0 ≤ o.1
        · have B := HS.out
          have z0 := B.cell 0 _ rfl
          have f0 := B.fr 0
          clear B
          go_wp2_with fail
          go_meet
          rw [if_pos (by omega)]
          exact ⟨HS.out.set 0 _, HK.out.set hg13 hg12 HLO1.out hG1 0 _⟩
        · have h0' : o.1 < 0 := by omega
          go_wp2_with fail
          go_meet
          rw [if_neg (by omega)]
          exact ⟨HS.out, HK.out⟩
      case rest =>
        obtain ⟨S5, K5⟩ := hcut
        generalize hwx : wc = w5 at *
        clear hwx m0 m1 m2 HS HK
        generalize hf1 : (if 0 ≤ o.1 then o.1 else V.fl) = f1 at *
        have HF1 := Lib.hid hf1
        clear hf1
        have HS := Lib.hid S5; have HK := Lib.hid K5
        clear S5 K5
        go_upto_region 6 with fail
        go_cut [] from 37 to 42 (fun wx => Blk wx g1 [.int .i64 f1, .int .i64 o.2.1, .int .i64 o.2.2, .slice q9 V.du.length cap9, .int .i64 V.still, .bool V.late] ∧ Keep w g2 g3 q9 o V wx)
        case first =>
          have m1 := HK.out.obs.cell 1 _ rfl
          have m2 := HK.out.obs.cell 2 _ rfl
          have z1 := HS.out.cell 1 _ rfl
          have z2 := HS.out.cell 2 _ rfl
          have f1 := HS.out.fr 1; have f2 := HS.out.fr 2
          go_region
          all_goals
            go_wp2_with fail
            go_meet
            exact ⟨((HS.out.set 1 (.int .i64 o.2.1)).set 2 (.int .i64 o.2.2)).drew, ((HK.out.set hg13 hg12 HLO1.out hG1 1 (.int .i64 o.2.1)).set hg13 hg12 HLO1.out hG1 2 (.int .i64 o.2.2)).drew⟩
        case rest =>
          obtain ⟨S6, K6⟩ := hcut
          generalize hwx : wc = w6 at *
          clear hwx HS HK
          have HS := Lib.hid S6; have HK := Lib.hid K6
          clear S6 K6
          have m0 := (HK.out.obs).cell 0 _ rfl
          have m1 := (HK.out.obs).cell 1 _ rfl
          have m2 := (HK.out.obs).cell 2 _ rfl
          have hst : s.still ≤ 1000000 ∧ 0 ≤ s.still := by
            have h := HST.out
            simp only [stateB, headB, Bool.and_eq_true] at h
            have := (inR_iff _ _ _).1 h.1.1.2
            omega
          have hst2 : V.still ≤ 1000000 ∧ 0 ≤ V.still := by rw [HVF.out.2]; exact hst
          obtain ⟨hv1, hv2⟩ := hst2
          clear hst
          have HSV : Hid (stillV s o = if 0 ≤ o.1 ∧ o.2.2 = 2 ∧ o.2.1 = 0 then min (V.still + 1) 1000000 else 0) := Lib.hid (by rw [HVF.out.2]; rfl)
          go_upto_region 7 with fail
          go_cut [55] from 43 to 54 (fun v wx => v = .bool (decide (0 ≤ o.1 ∧ o.2.2 = 2 ∧ o.2.1 = 0)) ∧ wx = w6)
          case first =>
            by_cases h1 : 0 ≤ o.1
            · by_cases h2 : o.2.2 = 2
              · by_cases h3 : o.2.1 = 0
                · have q2 : (o.2.2 == 2) = true := by simpa using h2
                  have q3 : (o.2.1 == 0) = true := by simpa using h3
                  have HE : Hid (decide (0 ≤ o.1 ∧ o.2.2 = 2 ∧ o.2.1 = 0) = true) := Lib.hid (decide_eq_true ⟨h1, h2, h3⟩)
                  clear h2 h3
                  go_wp2_with fail
                  go_meet
                  exact ⟨by rw [HE.out], rfl⟩
                · have q2 : (o.2.2 == 2) = true := by simpa using h2
                  have q3 : (o.2.1 == 0) = false := by simpa using h3
                  have HE : Hid (decide (0 ≤ o.1 ∧ o.2.2 = 2 ∧ o.2.1 = 0) = false) := Lib.hid (decide_eq_false fun h => h3 h.2.2)
                  clear h2 h3
                  go_wp2_with fail
                  go_meet
                  exact ⟨by rw [HE.out], rfl⟩
              · have q2 : (o.2.2 == 2) = false := by simpa using h2
                have HE : Hid (decide (0 ≤ o.1 ∧ o.2.2 = 2 ∧ o.2.1 = 0) = false) := Lib.hid (decide_eq_false fun h => h2 h.2.1)
                clear h2
                go_wp2_with fail
                go_meet
                exact ⟨by rw [HE.out], rfl⟩
            · have HE : Hid (decide (0 ≤ o.1 ∧ o.2.2 = 2 ∧ o.2.1 = 0) = false) := Lib.hid (decide_eq_false fun h => h1 h.1)
              have h1' : o.1 < 0 := by omega
              go_wp2_with fail
              go_meet
              exact ⟨by rw [HE.out], rfl⟩
          case rest =>
          obtain ⟨rfl, rfl⟩ := hcut
          generalize htb : decide (0 ≤ o.1 ∧ o.2.2 = 2 ∧ o.2.1 = 0) = tb at *
          have HTB := Lib.hid htb
          clear htb
          go_upto_if 55 with fail
          go_cut [] from 56 to 61 (fun wx => Blk wx g1 [.int .i64 f1, .int .i64 o.2.1, .int .i64 o.2.2, .slice q9 V.du.length cap9, .int .i64 (stillV s o), .bool V.late] ∧ Keep w g2 g3 q9 o V wx)
          case first =>
            have z4 := HS.out.cell 4 _ rfl
            have f4 := HS.out.fr 4
            cases tb
            · have HE : Hid (stillV s o = 0) := Lib.hid (by rw [HSV.out, if_neg (of_decide_eq_false HTB.out)])
              go_wp2_with fail
              go_meet
              rw [HE.out]
              exact ⟨HS.out.set 4 _, HK.out.set hg13 hg12 HLO1.out hG1 4 _⟩
            · have HE : Hid (stillV s o = min (V.still + 1) 1000000) := Lib.hid (by rw [HSV.out, if_pos (of_decide_eq_true HTB.out)])
              go_wp2_with fail
              all_goals
                go_meet
                rw [HE.out]
                first
                  | (rw [show min (V.still + 1) 1000000 = 1000000 by omega]; exact ⟨HS.out.set 4 _, HK.out.set hg13 hg12 HLO1.out hG1 4 _⟩)
                  | (rw [show min (V.still + 1) 1000000 = V.still + 1 by omega]; exact ⟨HS.out.set 4 _, HK.out.set hg13 hg12 HLO1.out hG1 4 _⟩)
          case rest =>
            obtain ⟨S7, K7⟩ := hcut
            generalize hwx : wc = w7 at *
            clear hwx HS HK m0 m1 m2
            have HS := Lib.hid S7; have HK := Lib.hid K7
            clear S7 K7 HSV
            have HSE : Hid (observeV b car s o = ⟨f1, o.2.1, o.2.2, V.du, stillV s o, V.late⟩) := by
              refine Lib.hid ?_
              unfold observeV
              rw [E1.out, if_pos rfl, ← HV.out, ← HF1.out, HVF.out.1]
            generalize stillV s o = st at *
            have j0 := (HS.out).cell 0 _ rfl
            have j1 := (HS.out).cell 1 _ rfl
            have j2 := (HS.out).cell 2 _ rfl
            have j3 := (HS.out).cell 3 _ rfl
            have j4 := (HS.out).cell 4 _ rfl
            have j5 := (HS.out).cell 5 _ rfl
            have z0 := (HK.out.res).cell 0 _ rfl
            have z1 := (HK.out.res).cell 1 _ rfl
            have z2 := (HK.out.res).cell 2 _ rfl
            have z3 := (HK.out.res).cell 3 _ rfl
            have z4 := (HK.out.res).cell 4 _ rfl
            have z5 := (HK.out.res).cell 5 _ rfl
            have f0 := HK.out.res.fr 0; have f1' := HK.out.res.fr 1; have f2 := HK.out.res.fr 2; have f3 := HK.out.res.fr 3; have f4 := HK.out.res.fr 4; have f5 := HK.out.res.fr 5
            go_wp2_with fail
            have R8 := ((((((HK.out.res.set 0 (.int .i64 f1)).set 1 (.int .i64 o.2.1)).set 2 (.int .i64 o.2.2)).set 3 (.slice q9 V.du.length cap9)).set 4 (.int .i64 st)).set 5 (.bool V.late))
            have r0 := (R8).cell 0 _ rfl
            have r1 := (R8).cell 1 _ rfl
            have r2 := (R8).cell 2 _ rfl
            have r3 := (R8).cell 3 _ rfl
            have r4 := (R8).cell 4 _ rfl
            have r5 := (R8).cell 5 _ rfl
            exact bodyPost_ret (v := .tuple #[cvS ⟨f1, o.2.1, o.2.2, V.du, st, V.late⟩ q9 cap9, .int .i64 0]) (by simp [results, Try.results33, go_sem, r0, r1, r2, r3, r4, r5]) rfl ⟨_, rfl, ((((((HK.out.bel.setCell (p := ⟨g3, 0, none⟩) hG3 _).setCell (p := ⟨g3, 1, none⟩) hG3 _).setCell (p := ⟨g3, 2, none⟩) hG3 _).setCell (p := ⟨g3, 3, none⟩) hG3 _).setCell (p := ⟨g3, 4, none⟩) hG3 _).setCell (p := ⟨g3, 5, none⟩) hG3 _), ⟨q9, cap9, by rw [HSE.out, E1.out]; rfl, by rw [HSE.out]; exact (((((HK.out.rd.set HLO3.out).set HLO3.out).set HLO3.out).set HLO3.out).set HLO3.out).set HLO3.out, HLOW.out⟩⟩
end Go.Proofs.Ytnnkldidlgiipaa
