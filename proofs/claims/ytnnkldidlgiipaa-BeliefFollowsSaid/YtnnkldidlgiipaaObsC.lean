/- The walk over belief.Observe. Conditions: cars and duties that can be read. -/
import Derived.Test.YtnnkldidlgiipaaAgedC
import Derived.Test.YtnnkldidlgiipaaIndic
import Derived.Test.YtnnkldidlgiipaaMade
import Derived.Test.YtnnkldidlgiipaaGrowRest
namespace Go.Proofs.Ytnnkldidlgiipaa
open Go.RowKit
theorem agedT_stable (lo : Nat) (L : List Duty) (late : Bool) (v : Value) : Grow.Stable (agedT lo L late v) := by
  intro w w' hw hb
  obtain ⟨q, cap, hv, hr, hl⟩ := hw
  exact ⟨q, cap, hv, hr.next hb, hl⟩
theorem agedT_lo {lo lo' : Nat} {L : List Duty} {late : Bool} {v : Value} {w : World} (h : agedT lo L late v w) (hl : lo' ≤ lo) : agedT lo' L late v w := by
  obtain ⟨q, cap, hv, hT, hlo⟩ := h
  exact ⟨q, cap, hv, hT, fun A hA => Nat.le_trans hl (hlo A hA)⟩
theorem agedT_form {lo : Nat} {L : List Duty} {late : Bool} {v : Value} {w : World} (h : agedT lo L late v w) : ∃ q cap, v = .tuple #[.slice q L.length cap, .bool late] := by
  obtain ⟨q, cap, hv, _⟩ := h
  exact ⟨q, cap, hv⟩
theorem agedT_out {lo cap : Nat} {L : List Duty} {late : Bool} {q : Option Addr} {w : World} (h : agedT lo L late (.tuple #[.slice q L.length cap, .bool late]) w) : RdD w q L ∧ ∀ A, q = some A → lo ≤ A.block := by
  obtain ⟨q', cap', hv, hr, hl⟩ := h
  obtain ⟨rfl, rfl⟩ : q = q' ∧ cap = cap' := by simpa using hv
  exact ⟨hr, hl⟩
set_option maxHeartbeats 4000000 in
set_option maxRecDepth 100000 in
theorem observe_any (b : BldV) (q : Option Addr) (cap : Nat) (car : Int) (s : BelV) (q' : Option Addr) (cap' : Nat) (o : ObsV) (w : World) (hlen : b.cars.length ≤ 1000) (hlen' : s.du.length ≤ 1000) (hr : RdC w q b.cars) (hd : RdD w q' s.du) :
    Calls Try.prog 10 #[cvB b q cap, .int .i64 car, cvS s q' cap', .agg #[.int .i64 o.1, .int .i64 o.2.1, .int .i64 o.2.2]] w fun e w' => ∃ v, e = .returned v ∧ Below w.heap.size w w' ∧ belE w.heap.size (observeV b car s o) (errV (obsOk b car s o)) v w' := by
  have X0 : Blk (w.alloc (.cells #[.int .i64 b.fl, .int .i64 b.deb, .int .i64 b.room, .int .i64 b.park, .float .f64 b.em, .float .f64 b.fu, .float .f64 b.ov, .slice q b.cars.length cap] 27)) w.heap.size [.int .i64 b.fl, .int .i64 b.deb, .int .i64 b.room, .int .i64 b.park, .float .f64 b.em, .float .f64 b.fu, .float .f64 b.ov, .slice q b.cars.length cap] := by
    have hx := Blk.new w [.int .i64 b.fl, .int .i64 b.deb, .int .i64 b.room, .int .i64 b.park, .float .f64 b.em, .float .f64 b.fu, .float .f64 b.ov, .slice q b.cars.length cap] 27
    exact hx
  replace X0 : Blk ((w.alloc (.cells #[.int .i64 b.fl, .int .i64 b.deb, .int .i64 b.room, .int .i64 b.park, .float .f64 b.em, .float .f64 b.fu, .float .f64 b.ov, .slice q b.cars.length cap] 27)).alloc (.cells #[.int .i64 s.fl, .int .i64 s.dir, .int .i64 s.door, .slice q' s.du.length cap', .int .i64 s.still, .bool s.late] 35)) w.heap.size [.int .i64 b.fl, .int .i64 b.deb, .int .i64 b.room, .int .i64 b.park, .float .f64 b.em, .float .f64 b.fu, .float .f64 b.ov, .slice q b.cars.length cap] := X0.next (below1' _ _)
  replace X0 : Blk (((w.alloc (.cells #[.int .i64 b.fl, .int .i64 b.deb, .int .i64 b.room, .int .i64 b.park, .float .f64 b.em, .float .f64 b.fu, .float .f64 b.ov, .slice q b.cars.length cap] 27)).alloc (.cells #[.int .i64 s.fl, .int .i64 s.dir, .int .i64 s.door, .slice q' s.du.length cap', .int .i64 s.still, .bool s.late] 35)).alloc (.cells #[.int .i64 o.1, .int .i64 o.2.1, .int .i64 o.2.2] 41)) w.heap.size [.int .i64 b.fl, .int .i64 b.deb, .int .i64 b.room, .int .i64 b.park, .float .f64 b.em, .float .f64 b.fu, .float .f64 b.ov, .slice q b.cars.length cap] := X0.next (below1' _ _)
  replace X0 : Blk ((((w.alloc (.cells #[.int .i64 b.fl, .int .i64 b.deb, .int .i64 b.room, .int .i64 b.park, .float .f64 b.em, .float .f64 b.fu, .float .f64 b.ov, .slice q b.cars.length cap] 27)).alloc (.cells #[.int .i64 s.fl, .int .i64 s.dir, .int .i64 s.door, .slice q' s.du.length cap', .int .i64 s.still, .bool s.late] 35)).alloc (.cells #[.int .i64 o.1, .int .i64 o.2.1, .int .i64 o.2.2] 41)).alloc (.cells #[.int .i64 0, .int .i64 0, .int .i64 0, .slice none 0 0, .int .i64 0, .bool false] 35)) w.heap.size [.int .i64 b.fl, .int .i64 b.deb, .int .i64 b.room, .int .i64 b.park, .float .f64 b.em, .float .f64 b.fu, .float .f64 b.ov, .slice q b.cars.length cap] := X0.next (below1' _ _)
  have X1 : Blk ((w.alloc (.cells #[.int .i64 b.fl, .int .i64 b.deb, .int .i64 b.room, .int .i64 b.park, .float .f64 b.em, .float .f64 b.fu, .float .f64 b.ov, .slice q b.cars.length cap] 27)).alloc (.cells #[.int .i64 s.fl, .int .i64 s.dir, .int .i64 s.door, .slice q' s.du.length cap', .int .i64 s.still, .bool s.late] 35)) (w.heap.size + 1) [.int .i64 s.fl, .int .i64 s.dir, .int .i64 s.door, .slice q' s.du.length cap', .int .i64 s.still, .bool s.late] := by
    have hx := Blk.new (w.alloc (.cells #[.int .i64 b.fl, .int .i64 b.deb, .int .i64 b.room, .int .i64 b.park, .float .f64 b.em, .float .f64 b.fu, .float .f64 b.ov, .slice q b.cars.length cap] 27)) [.int .i64 s.fl, .int .i64 s.dir, .int .i64 s.door, .slice q' s.du.length cap', .int .i64 s.still, .bool s.late] 35
    rw [World.size_alloc] at hx
    exact hx
  replace X1 : Blk (((w.alloc (.cells #[.int .i64 b.fl, .int .i64 b.deb, .int .i64 b.room, .int .i64 b.park, .float .f64 b.em, .float .f64 b.fu, .float .f64 b.ov, .slice q b.cars.length cap] 27)).alloc (.cells #[.int .i64 s.fl, .int .i64 s.dir, .int .i64 s.door, .slice q' s.du.length cap', .int .i64 s.still, .bool s.late] 35)).alloc (.cells #[.int .i64 o.1, .int .i64 o.2.1, .int .i64 o.2.2] 41)) (w.heap.size + 1) [.int .i64 s.fl, .int .i64 s.dir, .int .i64 s.door, .slice q' s.du.length cap', .int .i64 s.still, .bool s.late] := X1.next (below1' _ _)
  replace X1 : Blk ((((w.alloc (.cells #[.int .i64 b.fl, .int .i64 b.deb, .int .i64 b.room, .int .i64 b.park, .float .f64 b.em, .float .f64 b.fu, .float .f64 b.ov, .slice q b.cars.length cap] 27)).alloc (.cells #[.int .i64 s.fl, .int .i64 s.dir, .int .i64 s.door, .slice q' s.du.length cap', .int .i64 s.still, .bool s.late] 35)).alloc (.cells #[.int .i64 o.1, .int .i64 o.2.1, .int .i64 o.2.2] 41)).alloc (.cells #[.int .i64 0, .int .i64 0, .int .i64 0, .slice none 0 0, .int .i64 0, .bool false] 35)) (w.heap.size + 1) [.int .i64 s.fl, .int .i64 s.dir, .int .i64 s.door, .slice q' s.du.length cap', .int .i64 s.still, .bool s.late] := X1.next (below1' _ _)
  have X2 : Blk (((w.alloc (.cells #[.int .i64 b.fl, .int .i64 b.deb, .int .i64 b.room, .int .i64 b.park, .float .f64 b.em, .float .f64 b.fu, .float .f64 b.ov, .slice q b.cars.length cap] 27)).alloc (.cells #[.int .i64 s.fl, .int .i64 s.dir, .int .i64 s.door, .slice q' s.du.length cap', .int .i64 s.still, .bool s.late] 35)).alloc (.cells #[.int .i64 o.1, .int .i64 o.2.1, .int .i64 o.2.2] 41)) (w.heap.size + 1 + 1) [.int .i64 o.1, .int .i64 o.2.1, .int .i64 o.2.2] := by
    have hx := Blk.new ((w.alloc (.cells #[.int .i64 b.fl, .int .i64 b.deb, .int .i64 b.room, .int .i64 b.park, .float .f64 b.em, .float .f64 b.fu, .float .f64 b.ov, .slice q b.cars.length cap] 27)).alloc (.cells #[.int .i64 s.fl, .int .i64 s.dir, .int .i64 s.door, .slice q' s.du.length cap', .int .i64 s.still, .bool s.late] 35)) [.int .i64 o.1, .int .i64 o.2.1, .int .i64 o.2.2] 41
    rw [World.size_alloc, World.size_alloc] at hx
    exact hx
  replace X2 : Blk ((((w.alloc (.cells #[.int .i64 b.fl, .int .i64 b.deb, .int .i64 b.room, .int .i64 b.park, .float .f64 b.em, .float .f64 b.fu, .float .f64 b.ov, .slice q b.cars.length cap] 27)).alloc (.cells #[.int .i64 s.fl, .int .i64 s.dir, .int .i64 s.door, .slice q' s.du.length cap', .int .i64 s.still, .bool s.late] 35)).alloc (.cells #[.int .i64 o.1, .int .i64 o.2.1, .int .i64 o.2.2] 41)).alloc (.cells #[.int .i64 0, .int .i64 0, .int .i64 0, .slice none 0 0, .int .i64 0, .bool false] 35)) (w.heap.size + 1 + 1) [.int .i64 o.1, .int .i64 o.2.1, .int .i64 o.2.2] := X2.next (below1' _ _)
  have X3 : Blk ((((w.alloc (.cells #[.int .i64 b.fl, .int .i64 b.deb, .int .i64 b.room, .int .i64 b.park, .float .f64 b.em, .float .f64 b.fu, .float .f64 b.ov, .slice q b.cars.length cap] 27)).alloc (.cells #[.int .i64 s.fl, .int .i64 s.dir, .int .i64 s.door, .slice q' s.du.length cap', .int .i64 s.still, .bool s.late] 35)).alloc (.cells #[.int .i64 o.1, .int .i64 o.2.1, .int .i64 o.2.2] 41)).alloc (.cells #[.int .i64 0, .int .i64 0, .int .i64 0, .slice none 0 0, .int .i64 0, .bool false] 35)) (w.heap.size + 1 + 1 + 1) [.int .i64 0, .int .i64 0, .int .i64 0, .slice none 0 0, .int .i64 0, .bool false] := by
    have hx := Blk.new (((w.alloc (.cells #[.int .i64 b.fl, .int .i64 b.deb, .int .i64 b.room, .int .i64 b.park, .float .f64 b.em, .float .f64 b.fu, .float .f64 b.ov, .slice q b.cars.length cap] 27)).alloc (.cells #[.int .i64 s.fl, .int .i64 s.dir, .int .i64 s.door, .slice q' s.du.length cap', .int .i64 s.still, .bool s.late] 35)).alloc (.cells #[.int .i64 o.1, .int .i64 o.2.1, .int .i64 o.2.2] 41)) [.int .i64 0, .int .i64 0, .int .i64 0, .slice none 0 0, .int .i64 0, .bool false] 35
    rw [World.size_alloc, World.size_alloc, World.size_alloc] at hx
    exact hx
  have XW : Below w.heap.size w (w.alloc (.cells #[.int .i64 b.fl, .int .i64 b.deb, .int .i64 b.room, .int .i64 b.park, .float .f64 b.em, .float .f64 b.fu, .float .f64 b.ov, .slice q b.cars.length cap] 27)) := below1' w _
  replace XW : Below w.heap.size w ((w.alloc (.cells #[.int .i64 b.fl, .int .i64 b.deb, .int .i64 b.room, .int .i64 b.park, .float .f64 b.em, .float .f64 b.fu, .float .f64 b.ov, .slice q b.cars.length cap] 27)).alloc (.cells #[.int .i64 s.fl, .int .i64 s.dir, .int .i64 s.door, .slice q' s.du.length cap', .int .i64 s.still, .bool s.late] 35)) := XW.trans ((below1' _ _).mono XW.size)
  replace XW : Below w.heap.size w (((w.alloc (.cells #[.int .i64 b.fl, .int .i64 b.deb, .int .i64 b.room, .int .i64 b.park, .float .f64 b.em, .float .f64 b.fu, .float .f64 b.ov, .slice q b.cars.length cap] 27)).alloc (.cells #[.int .i64 s.fl, .int .i64 s.dir, .int .i64 s.door, .slice q' s.du.length cap', .int .i64 s.still, .bool s.late] 35)).alloc (.cells #[.int .i64 o.1, .int .i64 o.2.1, .int .i64 o.2.2] 41)) := XW.trans ((below1' _ _).mono XW.size)
  replace XW : Below w.heap.size w ((((w.alloc (.cells #[.int .i64 b.fl, .int .i64 b.deb, .int .i64 b.room, .int .i64 b.park, .float .f64 b.em, .float .f64 b.fu, .float .f64 b.ov, .slice q b.cars.length cap] 27)).alloc (.cells #[.int .i64 s.fl, .int .i64 s.dir, .int .i64 s.door, .slice q' s.du.length cap', .int .i64 s.still, .bool s.late] 35)).alloc (.cells #[.int .i64 o.1, .int .i64 o.2.1, .int .i64 o.2.2] 41)).alloc (.cells #[.int .i64 0, .int .i64 0, .int .i64 0, .slice none 0 0, .int .i64 0, .bool false] 35)) := XW.trans ((below1' _ _).mono XW.size)
  have HWW := Lib.hid XW; have HX0 := Lib.hid X0; have HX1 := Lib.hid X1; have HX2 := Lib.hid X2; have HX3 := Lib.hid X3
  clear XW X0 X1 X2 X3
  have HR := Lib.hid (hr.next HWW.out); have HD := Lib.hid (hd.next HWW.out)
  have HL1 := Lib.hid hlen; have HL2 := Lib.hid hlen'
  clear hr hd hlen hlen'
  go_enter Try.func10, Try.ntmps10
  go_upto_region 1 with fail
  generalize ((((w.alloc (.cells #[.int .i64 b.fl, .int .i64 b.deb, .int .i64 b.room, .int .i64 b.park, .float .f64 b.em, .float .f64 b.fu, .float .f64 b.ov, .slice q b.cars.length cap] 27)).alloc (.cells #[.int .i64 s.fl, .int .i64 s.dir, .int .i64 s.door, .slice q' s.du.length cap', .int .i64 s.still, .bool s.late] 35)).alloc (.cells #[.int .i64 o.1, .int .i64 o.2.1, .int .i64 o.2.2] 41)).alloc (.cells #[.int .i64 0, .int .i64 0, .int .i64 0, .slice none 0 0, .int .i64 0, .bool false] 35)) = w0 at *
  generalize hg3 : w.heap.size + 1 + 1 + 1 = g3 at *
  generalize hg2 : w.heap.size + 1 + 1 = g2 at *
  generalize hg1 : w.heap.size + 1 = g1 at *
  have HG1 := Lib.hid hg1; have hq1 : w.heap.size + 1 ≤ g1 := by omega
  have HG2 := Lib.hid hg2; have hq2 : w.heap.size + 2 ≤ g2 := by omega
  have HG3 := Lib.hid hg3; have hq3 : w.heap.size + 3 ≤ g3 := by omega
  clear hg1 hg2 hg3
  have HW := Lib.hid (Below.refl w0.heap.size w0)
  have hz0 := HX0.out.lt; have hz1 := HX1.out.lt; have hz2 := HX2.out.lt; have hz3 := HX3.out.lt
  have hg13 : g3 ≠ g1 := by have := HG2.out; have := HG3.out; omega
  have hg12 : g2 ≠ g1 := by have := HG2.out; omega
  have hG3 : w.heap.size ≤ g3 := by omega
  have hG1 : w.heap.size ≤ g1 := by omega
  have k0 := (HX0.out).cell 0 _ rfl
  have k1 := (HX0.out).cell 1 _ rfl
  have k2 := (HX0.out).cell 2 _ rfl
  have k3 := (HX0.out).cell 3 _ rfl
  have k4 := (HX0.out).cell 4 _ rfl
  have k5 := (HX0.out).cell 5 _ rfl
  have k6 := (HX0.out).cell 6 _ rfl
  have k7 := (HX0.out).cell 7 _ rfl
  have j0 := (HX1.out).cell 0 _ rfl
  have j1 := (HX1.out).cell 1 _ rfl
  have j2 := (HX1.out).cell 2 _ rfl
  have j3 := (HX1.out).cell 3 _ rfl
  have j4 := (HX1.out).cell 4 _ rfl
  have j5 := (HX1.out).cell 5 _ rfl
  have m0 := (HX2.out).cell 0 _ rfl
  have m1 := (HX2.out).cell 1 _ rfl
  have m2 := (HX2.out).cell 2 _ rfl
  have c0 := base_cell HW.out
  go_wp2_with fail
  refine (isState_any b q cap car s q' cap' _ HL1.out HL2.out HR.out HD.out).mono ?_
  rintro e w1 ⟨rfl, hbn⟩
  have HWn := Lib.hid (HW.out.trans (hbn.mono HW.out.size))
  try clear c0
  clear HW hbn
  have HW := HWn
  clear HWn
  have c0 := base_cell HW.out
  have hbad : ∀ wr, Below w0.heap.size w0 wr → obsOk b car s o = false → Blk ((((((wr.setCell ⟨g3, 0, none⟩ (.int .i64 0)).setCell ⟨g3, 1, none⟩ (.int .i64 0)).setCell ⟨g3, 2, none⟩ (.int .i64 0)).setCell ⟨g3, 3, none⟩ (.slice none 0 0)).setCell ⟨g3, 4, none⟩ (.int .i64 0)).setCell ⟨g3, 5, none⟩ (.bool false)) g3 [.int .i64 0, .int .i64 0, .int .i64 0, .slice none 0 0, .int .i64 0, .bool false] ∧
      Below w.heap.size w ((((((wr.setCell ⟨g3, 0, none⟩ (.int .i64 0)).setCell ⟨g3, 1, none⟩ (.int .i64 0)).setCell ⟨g3, 2, none⟩ (.int .i64 0)).setCell ⟨g3, 3, none⟩ (.slice none 0 0)).setCell ⟨g3, 4, none⟩ (.int .i64 0)).setCell ⟨g3, 5, none⟩ (.bool false)) ∧ belE w.heap.size (observeV b car s o) (errV (obsOk b car s o)) (.tuple #[cvS zeroB none 0, .int .i64 1]) ((((((wr.setCell ⟨g3, 0, none⟩ (.int .i64 0)).setCell ⟨g3, 1, none⟩ (.int .i64 0)).setCell ⟨g3, 2, none⟩ (.int .i64 0)).setCell ⟨g3, 3, none⟩ (.slice none 0 0)).setCell ⟨g3, 4, none⟩ (.int .i64 0)).setCell ⟨g3, 5, none⟩ (.bool false)) := by
    intro wr hb ho
    refine ⟨((((((HX3.out.later hb hz3).set 0 _).set 1 _).set 2 _).set 3 _).set 4 _).set 5 _, ((((((HWW.out.trans (hb.mono HWW.out.size)).setCell (p := ⟨g3, 0, none⟩) hG3 _).setCell (p := ⟨g3, 1, none⟩) hG3 _).setCell (p := ⟨g3, 2, none⟩) hG3 _).setCell (p := ⟨g3, 3, none⟩) hG3 _).setCell (p := ⟨g3, 4, none⟩) hG3 _).setCell (p := ⟨g3, 5, none⟩) hG3 _, none, 0, ?_, ?_, fun A h => by cases h⟩
    · unfold observeV errV; rw [ho]; rfl
    · unfold observeV; rw [ho]; exact fun i d h => by simp [zeroB] at h
  have HBAD := Lib.hid hbad
  clear hbad
  cases e1 : stateB b car s
  · have E1 : Hid (obsOk b car s o = false) := Lib.hid (by unfold obsOk; rw [e1]; rfl)
    clear e1
    have z0 := (HX3.out).cell 0 _ rfl
    have z1 := (HX3.out).cell 1 _ rfl
    have z2 := (HX3.out).cell 2 _ rfl
    have z3 := (HX3.out).cell 3 _ rfl
    have z4 := (HX3.out).cell 4 _ rfl
    have z5 := (HX3.out).cell 5 _ rfl
    have R1 := HX3.out.later HW.out hz3
    have f0 := R1.fr 0; have f1 := R1.fr 1; have f2 := R1.fr 2; have f3 := R1.fr 3; have f4 := R1.fr 4; have f5 := R1.fr 5
    clear R1
    go_wp2_with fail
    obtain ⟨R8, hbf, hbe⟩ := HBAD.out w1 HW.out E1.out
    have r0 := (R8).cell 0 _ rfl
    have r1 := (R8).cell 1 _ rfl
    have r2 := (R8).cell 2 _ rfl
    have r3 := (R8).cell 3 _ rfl
    have r4 := (R8).cell 4 _ rfl
    have r5 := (R8).cell 5 _ rfl
    exact bodyPost_ret (v := .tuple #[cvS zeroB none 0, .int .i64 1]) (by simp [results, Try.results10, go_sem, zeroB, r0, r1, r2, r3, r4, r5]) rfl ⟨_, rfl, hbf, hbe⟩
  · have HST := Lib.hid e1
    clear e1
    go_wp2_with fail
    refine (isObs_any b.fl o _).mono ?_
    rintro e w2 ⟨rfl, hbn⟩
    have HWn := Lib.hid (HW.out.trans (hbn.mono HW.out.size))
    try clear c0
    clear HW hbn
    have HW := HWn
    clear HWn
    have c0 := base_cell HW.out
    cases e2 : obsB b.fl o
    · have E1 : Hid (obsOk b car s o = false) := Lib.hid (by unfold obsOk; rw [e2, Bool.and_false])
      clear e2
      have z0 := (HX3.out).cell 0 _ rfl
      have z1 := (HX3.out).cell 1 _ rfl
      have z2 := (HX3.out).cell 2 _ rfl
      have z3 := (HX3.out).cell 3 _ rfl
      have z4 := (HX3.out).cell 4 _ rfl
      have z5 := (HX3.out).cell 5 _ rfl
      have R1 := HX3.out.later HW.out hz3
      have f0 := R1.fr 0; have f1 := R1.fr 1; have f2 := R1.fr 2; have f3 := R1.fr 3; have f4 := R1.fr 4; have f5 := R1.fr 5
      clear R1
      go_wp2_with fail
      obtain ⟨R8, hbf, hbe⟩ := HBAD.out w2 HW.out E1.out
      have r0 := (R8).cell 0 _ rfl
      have r1 := (R8).cell 1 _ rfl
      have r2 := (R8).cell 2 _ rfl
      have r3 := (R8).cell 3 _ rfl
      have r4 := (R8).cell 4 _ rfl
      have r5 := (R8).cell 5 _ rfl
      exact bodyPost_ret (v := .tuple #[cvS zeroB none 0, .int .i64 1]) (by simp [results, Try.results10, go_sem, zeroB, r0, r1, r2, r3, r4, r5]) rfl ⟨_, rfl, hbf, hbe⟩
    · have E1 : Hid (obsOk b car s o = true) := Lib.hid (by unfold obsOk; rw [e2, HST.out]; rfl)
      clear e2 HBAD
      obtain ⟨V, hV⟩ : ∃ V, V = agedV b car s (showsV b.fl o) := ⟨_, rfl⟩
      have HV := Lib.hid hV
      have hVf : V.fl = s.fl ∧ V.still = s.still := by rw [hV]; exact ⟨rfl, rfl⟩
      have HVF := Lib.hid hVf
      have hlo : w0.heap.size ≤ w2.heap.size := HW.out.size
      clear hV hVf
      obtain ⟨cc, hcn, hcl, hcg, hdl⟩ := car_at b car (stateB_car _ _ _ HST.out)
      have hdm := valid_dl b (state_valid _ _ _ HST.out) _ _ hcg
      have hages : ∀ (i : Nat) (d : Duty), s.du[i]? = some d → 0 ≤ d.2.2 ∧ d.2.2 ≤ cc.dl := fun i d h => by
        have := state_ages b car s HST.out i d h
        rw [hdl] at this
        exact ⟨this.1, this.2.1⟩
      have X3 := Lib.hid hcg; have HDL := Lib.hid hdl; have HAG := Lib.hid hages
      clear hcg hdl hages
      have HVD : Hid (V.du = agedOut cc.dl (showsV b.fl o) s.du ∧ V.late = agedLate cc.dl s.du) := Lib.hid (by rw [HV.out]; unfold agedV agedOut; rw [HDL.out]; exact ⟨rfl, rfl⟩)
      have HVX : Hid (V.fl = s.fl ∧ V.dir = s.dir ∧ V.door = s.door ∧ V.still = s.still) := Lib.hid (by rw [HV.out]; exact ⟨rfl, rfl, rfl, rfl⟩)
      go_upto_region 3 with fail
      clear c0 k0 k1 k2 k3 k4 k5 k6 k7 j0 j1 j2 j3 j4 j5 m0 m1 m2
      have t0 := ((HX0.out.later HW.out hz0)).reg 0 _ rfl
      have t1 := ((HX0.out.later HW.out hz0)).reg 1 _ rfl
      have t2 := ((HX0.out.later HW.out hz0)).reg 2 _ rfl
      have t3 := ((HX0.out.later HW.out hz0)).reg 3 _ rfl
      have t4 := ((HX0.out.later HW.out hz0)).reg 4 _ rfl
      have t5 := ((HX0.out.later HW.out hz0)).reg 5 _ rfl
      have t6 := ((HX0.out.later HW.out hz0)).reg 6 _ rfl
      have t7 := ((HX0.out.later HW.out hz0)).reg 7 _ rfl
      have u0 := ((HX1.out.later HW.out hz1)).reg 0 _ rfl
      have u1 := ((HX1.out.later HW.out hz1)).reg 1 _ rfl
      have u2 := ((HX1.out.later HW.out hz1)).reg 2 _ rfl
      have u3 := ((HX1.out.later HW.out hz1)).reg 3 _ rfl
      have u4 := ((HX1.out.later HW.out hz1)).reg 4 _ rfl
      have u5 := ((HX1.out.later HW.out hz1)).reg 5 _ rfl
      have v0 := ((HX2.out.later HW.out hz2)).reg 0 _ rfl
      have v1 := ((HX2.out.later HW.out hz2)).reg 1 _ rfl
      have v2 := ((HX2.out.later HW.out hz2)).reg 2 _ rfl
      obtain ⟨A', hq2, hA2, q0⟩ := (HR.out.next HW.out).reg0 X3.out
      subst hq2
      clear hA2
      (refine Grow.wp_region_rest 13 7 (relPlan 12 (agedT w0.heap.size V.du V.late)) (relPlan_stable 12 _ (agedT_stable w0.heap.size V.du V.late)) (by kernel_rfl) (by kernel_rfl) ?_; intro opsq Hopsq; simp only [List.take_succ_cons, List.take_zero])
      repeat (first | (refine Grow.lex_move rfl ?_ rfl ?_; (· first | exact Grow.wanted_none | (rw [Hopsq.out]; rfl)); intro K hK; simp only [Grow.put_lit, Grow.setAt, Grow.eval_lit, Grow.ev]; refine hK _ _ ?_; clear hK K) | (refine Grow.lex_assign rfl ?_ rfl ?_; (· first | exact Grow.wanted_none | (rw [Hopsq.out]; rfl)); intro K hK; simp only [Grow.put_lit, Grow.setAt, Grow.eval_lit, Grow.ev]; refine hK _ _ ?_; clear hK K) | (refine Grow.lex_plain rfl rfl ?_ rfl ?_; (· first | exact Grow.wanted_none | (rw [Hopsq.out]; rfl)); apply Exists.intro; refine ⟨fun wq hCq _ => ?_, ?_⟩; (· (go_wp2_with fail; refine ⟨rfl, Below.refl _ _, ?_⟩; simp only [Grow.getD_lit, Grow.nth]; rfl)); intro K hK; simp only [Grow.put_lit, Grow.setAt]; refine hK _ _ ?_; clear hK K) | (refine Grow.lex_nilCheck rfl rfl ?_ rfl ?_; (· first | exact Grow.wanted_none | (rw [Hopsq.out]; rfl)); intro K hK; simp only [Grow.put_lit, Grow.setAt]; refine hK _ _ ?_; clear hK K) | (refine Grow.lex_skip ?_ ?_; (· (rw [Hopsq.out]; rfl)); intro K hK; simp only [Grow.put_lit, Grow.setAt]; refine hK _ _ ?_; clear hK K))
      (refine Grow.lex_call ?_ rfl ?_; (· first | exact Grow.wanted_none | (rw [Hopsq.out]; rfl)); apply Exists.intro; apply Exists.intro; refine ⟨fun wq => ?_, ?_⟩; (· (go_simp; exact ⟨rfl, rfl⟩)); apply Exists.intro; refine ⟨fun wq hCq hKq => ?_, ?_⟩; (· exact shows_any b.fl o _); intro K hK; simp only [Grow.put_lit, Grow.setAt]; refine hK _ _ ?_; clear hK K)
      repeat (first | (refine Grow.lex_move rfl ?_ rfl ?_; (· first | exact Grow.wanted_none | (rw [Hopsq.out]; rfl)); intro K hK; simp only [Grow.put_lit, Grow.setAt, Grow.eval_lit, Grow.ev]; refine hK _ _ ?_; clear hK K) | (refine Grow.lex_assign rfl ?_ rfl ?_; (· first | exact Grow.wanted_none | (rw [Hopsq.out]; rfl)); intro K hK; simp only [Grow.put_lit, Grow.setAt, Grow.eval_lit, Grow.ev]; refine hK _ _ ?_; clear hK K) | (refine Grow.lex_plain rfl rfl ?_ rfl ?_; (· first | exact Grow.wanted_none | (rw [Hopsq.out]; rfl)); apply Exists.intro; refine ⟨fun wq hCq _ => ?_, ?_⟩; (· (go_wp2_with fail; refine ⟨rfl, Below.refl _ _, ?_⟩; simp only [Grow.getD_lit, Grow.nth]; rfl)); intro K hK; simp only [Grow.put_lit, Grow.setAt]; refine hK _ _ ?_; clear hK K) | (refine Grow.lex_nilCheck rfl rfl ?_ rfl ?_; (· first | exact Grow.wanted_none | (rw [Hopsq.out]; rfl)); intro K hK; simp only [Grow.put_lit, Grow.setAt]; refine hK _ _ ?_; clear hK K) | (refine Grow.lex_skip ?_ ?_; (· (rw [Hopsq.out]; rfl)); intro K hK; simp only [Grow.put_lit, Grow.setAt]; refine hK _ _ ?_; clear hK K))
      (refine Grow.lex_callR (r := (fun _ v w => agedT w0.heap.size V.du V.late v w)) ?_ rfl ?_; (· first | exact Grow.wanted_none | (rw [Hopsq.out]; rfl)); apply Exists.intro; apply Exists.intro; refine ⟨fun wq => ?_, ?_, ?_⟩; (· (go_simp; exact ⟨rfl, rfl⟩)); (· (intro wq hCq hKq; exact (aged_any s.du q' cap' cc.dl (showsV b.fl o) _ HL2.out hdm HAG.out ((HD.out.next HW.out).next (Grow.Cl.base hCq))).mono (fun e w' ⟨v, he, hb, hR⟩ => ⟨v, he, hb, by rw [HVD.out.1, HVD.out.2]; exact agedT_lo hR (Nat.le_trans hlo (Grow.Cl.base hCq).size)⟩))); intro vq hWq; obtain ⟨_, _, hTT⟩ := hWq; obtain ⟨q9, cap9, hvq⟩ := agedT_form (Grow.Holds.of_upd hTT).2; subst hvq; clear hTT; intro K hK; simp only [Grow.put_lit, Grow.setAt]; refine hK _ _ ?_; clear hK K)
      refine Grow.lex_nil ?_
      intro w8 hb8 hTq
      obtain ⟨hrd9, hlo9⟩ := agedT_out (Grow.Holds.of_upd hTq).2
      replace hb8 := Grow.Cl.base hb8
      clear hTq Hopsq opsq
      clear t0 t1 t2 t3 t4 t5 t6 t7 u0 u1 u2 u3 u4 u5 v0 v1 v2 q0
      have HW3 := Lib.hid (HW.out.trans (hb8.mono HW.out.size))
      have HRD := Lib.hid hrd9
      have hlo1 : ∀ A, q9 = some A → A.block ≠ g1 := fun A hA => by have := hlo9 A hA; omega
      have hlo3 : ∀ A, q9 = some A → A.block ≠ g3 := fun A hA => by have := hlo9 A hA; omega
      have hloW : ∀ A, q9 = some A → w.heap.size ≤ A.block := fun A hA => Nat.le_trans HWW.out.size (hlo9 A hA)
      have HLO1 := Lib.hid hlo1; have HLO3 := Lib.hid hlo3; have HLOW := Lib.hid hloW
      clear hlo1 hlo3 hloW hlo9
      clear hb8 hrd9 HW
      have BS := HX1.out.later HW3.out hz1
      have j3 := (BS).cell 3 _ rfl
      have j5 := (BS).cell 5 _ rfl
      have e3 := BS.fr 3; have e5 := BS.fr 5
      clear BS
      (refine wpAny_take (i := 13) (v := ?_) rfl (by kernel_rfl) (by kernel_rfl) (by kernel_rfl) (fun _ _ _ h => h) (Or.inl ⟨by rfl, ?_⟩) ?_; rotate_left 1; (· (intro W; first | (go_simp; done) | (go_simp; with_reducible rfl) | (go_simp; rfl))); try simp only [Grow.put_lit, Grow.setAt])
      (refine wpAny_take (i := 14) (v := ?_) rfl (by kernel_rfl) (by kernel_rfl) (by kernel_rfl) (fun _ _ _ h => h) (Or.inl ⟨by rfl, ?_⟩) ?_; rotate_left 1; (· (intro W; first | (go_simp; done) | (go_simp; with_reducible rfl) | (go_simp; rfl))); try simp only [Grow.put_lit, Grow.setAt])
      (refine wpAny_take (i := 15) (v := ?_) rfl (by kernel_rfl) (by kernel_rfl) (by kernel_rfl) (fun _ _ _ h => h) (Or.inl ⟨by rfl, ?_⟩) ?_; rotate_left 1; (· (intro W; first | (go_simp; done) | (go_simp; with_reducible rfl) | (go_simp; rfl))); try simp only [Grow.put_lit, Grow.setAt])
      (refine wpAny_take (i := 16) (v := ?_) rfl (by kernel_rfl) (by kernel_rfl) (by kernel_rfl) (fun _ _ _ h => h) (Or.inl ⟨by rfl, ?_⟩) ?_; rotate_left 1; (· (intro W; first | (go_simp; done) | (go_simp; with_reducible rfl) | (go_simp; rfl))); try simp only [Grow.put_lit, Grow.setAt])
      (refine wpAny_ready (rs := [17]) (by kernel_rfl) (by simp) ?_; refine AllReady.cons rfl (fun K hK => ?_) AllReady.nil; go_simp; refine hK _ _ ?_; clear hK K; try simp only [Grow.put_lit, Grow.setAt])
      (refine wpAny_take (i := 18) (v := ?_) rfl (by kernel_rfl) (by kernel_rfl) (by kernel_rfl) (fun _ _ _ h => h) (Or.inl ⟨by rfl, ?_⟩) ?_; rotate_left 1; (· (intro W; first | (go_simp; done) | (go_simp; with_reducible rfl) | (go_simp; rfl))); try simp only [Grow.put_lit, Grow.setAt])
      (refine wpAny_ready (rs := [19]) (by kernel_rfl) (by simp) ?_; refine AllReady.cons rfl (fun K hK => ?_) AllReady.nil; go_simp; refine hK _ _ ?_; clear hK K; try simp only [Grow.put_lit, Grow.setAt])
      refine wpAny_done (by kernel_rfl) ?_ _
      have HK4 : Keep w g2 g3 q9 o V ((w8.setCell ⟨g1, 3, none⟩ (.slice q9 V.du.length cap9)).setCell ⟨g1, 5, none⟩ (.bool V.late)) := ((⟨HX3.out.later HW3.out hz3, HX2.out.later HW3.out hz2, HRD.out, HWW.out.trans (HW3.out.mono HWW.out.size)⟩ : Keep w g2 g3 q9 o V w8).set hg13 hg12 HLO1.out hG1 3 (.slice q9 V.du.length cap9)).set hg13 hg12 HLO1.out hG1 5 (.bool V.late)
      have S4 : Blk ((w8.setCell ⟨g1, 3, none⟩ (.slice q9 V.du.length cap9)).setCell ⟨g1, 5, none⟩ (.bool V.late)) g1 [.int .i64 s.fl, .int .i64 s.dir, .int .i64 s.door, .slice q9 V.du.length cap9, .int .i64 s.still, .bool V.late] := ((HX1.out.later HW3.out hz1).set 3 (.slice q9 V.du.length cap9)).set 5 (.bool V.late)
      have HS := Lib.hid S4; have HK := Lib.hid HK4
      clear S4 HK4 HW3 HRD j3 j5 e3 e5
      generalize ((w8.setCell ⟨g1, 3, none⟩ (.slice q9 V.du.length cap9)).setCell ⟨g1, 5, none⟩ (.bool V.late)) = w4 at *
      have hst : s.still ≤ 1000000 ∧ 0 ≤ s.still := by
        have h := HST.out
        simp only [stateB, headB, Bool.and_eq_true] at h
        have := (inR_iff _ _ _).1 h.1.1.2
        omega
      obtain ⟨hv1, hv2⟩ := hst
      have HSV : Hid (stillV s o = if 0 ≤ o.1 ∧ o.2.2 = 2 ∧ o.2.1 = 0 then min (s.still + 1) 1000000 else 0) := Lib.hid rfl
      have m0 := (HK.out.obs).cell 0 _ rfl
      have m1 := (HK.out.obs).cell 1 _ rfl
      have m2 := (HK.out.obs).cell 2 _ rfl
      go_upto_region 5 with fail
      go_cut [54] from 42 to 54 (fun v wx => v = .bool (decide (0 ≤ o.1 ∧ o.2.2 = 2 ∧ o.2.1 = 0)) ∧ wx = w4)
      case first =>
        by_cases h1 : 0 ≤ o.1
        · by_cases h2 : o.2.2 = 2
          · by_cases h3 : o.2.1 = 0
            · have q2 : (o.2.2 == 2) = true := by simpa using h2
              have q3 : (o.2.1 == 0) = true := by simpa using h3
              have HE : Hid (decide (0 ≤ o.1 ∧ o.2.2 = 2 ∧ o.2.1 = 0) = true) := Lib.hid (decide_eq_true ⟨h1, h2, h3⟩)
              clear h2 h3
              go_wp2_with fail
              go_meet
              exact ⟨by rw [HE.out], rfl⟩
            · have q2 : (o.2.2 == 2) = true := by simpa using h2
              have q3 : (o.2.1 == 0) = false := by simpa using h3
              have HE : Hid (decide (0 ≤ o.1 ∧ o.2.2 = 2 ∧ o.2.1 = 0) = false) := Lib.hid (decide_eq_false fun h => h3 h.2.2)
              clear h2 h3
              go_wp2_with fail
              go_meet
              exact ⟨by rw [HE.out], rfl⟩
          · have q2 : (o.2.2 == 2) = false := by simpa using h2
            have HE : Hid (decide (0 ≤ o.1 ∧ o.2.2 = 2 ∧ o.2.1 = 0) = false) := Lib.hid (decide_eq_false fun h => h2 h.2.1)
            clear h2
            go_wp2_with fail
            go_meet
            exact ⟨by rw [HE.out], rfl⟩
        · have HE : Hid (decide (0 ≤ o.1 ∧ o.2.2 = 2 ∧ o.2.1 = 0) = false) := Lib.hid (decide_eq_false fun h => h1 h.1)
          have h1' : o.1 < 0 := by omega
          go_wp2_with fail
          go_meet
          exact ⟨by rw [HE.out], rfl⟩
      case rest =>
      obtain ⟨rfl, rfl⟩ := hcut
      generalize htb : decide (0 ≤ o.1 ∧ o.2.2 = 2 ∧ o.2.1 = 0) = tb at *
      have HTB := Lib.hid htb
      clear htb
      go_upto_if 54 with fail
      go_cut [10] from 55 to 58 (fun v wx => v = .int .i64 (stillV s o) ∧ wx = wc)
      case first =>
        have j4 := HS.out.cell 4 _ rfl
        cases tb
        · have HE : Hid (stillV s o = 0) := Lib.hid (by rw [HSV.out, if_neg (of_decide_eq_false HTB.out)])
          go_wp2_with fail
          go_meet
          exact ⟨by rw [HE.out], rfl⟩
        · have HE : Hid (stillV s o = min (s.still + 1) 1000000) := Lib.hid (by rw [HSV.out, if_pos (of_decide_eq_true HTB.out)])
          go_wp2_with fail
          all_goals
            go_meet
            rw [HE.out]
            first
              | exact ⟨by rw [show min (s.still + 1) 1000000 = 1000000 by omega], rfl⟩
              | exact ⟨by rw [show min (s.still + 1) 1000000 = s.still + 1 by omega], rfl⟩
      case rest =>
      obtain ⟨rfl, hwq⟩ := hcut
      subst hwq
      clear HSV
      have HSE : Hid (observeV b car s o = ⟨if 0 ≤ o.1 then o.1 else s.fl, o.2.1, o.2.2, V.du, stillV s o, V.late⟩) := by
        refine Lib.hid ?_
        unfold observeV
        rw [E1.out, if_pos rfl, ← HV.out]
      generalize stillV s o = st at *
      go_upto_if 61 with fail
      go_cut [] from 59 to 64 (fun wx => Blk wx g1 [.int .i64 (if 0 ≤ o.1 then o.1 else s.fl), .int .i64 s.dir, .int .i64 s.door, .slice q9 V.du.length cap9, .int .i64 s.still, .bool V.late] ∧ Keep w g2 g3 q9 o V wx)
      case first =>
        by_cases h0 : 0 ≤ o.1
        · have B := HS.out
          have z0 := B.cell 0 _ rfl
          have f0 := B.fr 0
          clear B
          go_wp2_with fail
          go_meet
          rw [if_pos (by omega)]
          exact ⟨HS.out.set 0 _, HK.out.set hg13 hg12 HLO1.out hG1 0 _⟩
        · have h0' : o.1 < 0 := by omega
          go_wp2_with fail
          go_meet
          rw [if_neg (by omega)]
          exact ⟨HS.out, HK.out⟩
      case rest =>
        obtain ⟨S5, K5⟩ := hcut
        generalize hwx : wc = w5 at *
        clear hwx m0 m1 m2 HS HK
        generalize hf1 : (if 0 ≤ o.1 then o.1 else s.fl) = f1 at *
        clear hf1
        have HS := Lib.hid S5; have HK := Lib.hid K5
        clear S5 K5
        go_upto_region 9 with fail
        go_cut [] from 65 to 72 (fun wx => Blk wx g1 [.int .i64 f1, .int .i64 o.2.1, .int .i64 o.2.2, .slice q9 V.du.length cap9, .int .i64 st, .bool V.late] ∧ Keep w g2 g3 q9 o V wx)
        case first =>
          have m1 := HK.out.obs.cell 1 _ rfl
          have m2 := HK.out.obs.cell 2 _ rfl
          have z1 := HS.out.cell 1 _ rfl
          have z2 := HS.out.cell 2 _ rfl
          have z4 := HS.out.cell 4 _ rfl
          have f1 := HS.out.fr 1; have f2 := HS.out.fr 2; have f4 := HS.out.fr 4
          go_region
          all_goals
            go_wp2_with fail
            go_meet
            exact ⟨(((HS.out.set 1 (.int .i64 o.2.1)).set 2 (.int .i64 o.2.2)).set 4 (.int .i64 st)).drew, (((HK.out.set hg13 hg12 HLO1.out hG1 1 (.int .i64 o.2.1)).set hg13 hg12 HLO1.out hG1 2 (.int .i64 o.2.2)).set hg13 hg12 HLO1.out hG1 4 (.int .i64 st)).drew⟩
        case rest =>
          obtain ⟨S7, K7⟩ := hcut
          generalize hwx : wc = w7 at *
          clear hwx HS HK
          have HS := Lib.hid S7; have HK := Lib.hid K7
          clear S7 K7
          have j0 := (HS.out).cell 0 _ rfl
          have j1 := (HS.out).cell 1 _ rfl
          have j2 := (HS.out).cell 2 _ rfl
          have j3 := (HS.out).cell 3 _ rfl
          have j4 := (HS.out).cell 4 _ rfl
          have j5 := (HS.out).cell 5 _ rfl
          have z0 := (HK.out.res).cell 0 _ rfl
          have z1 := (HK.out.res).cell 1 _ rfl
          have z2 := (HK.out.res).cell 2 _ rfl
          have z3 := (HK.out.res).cell 3 _ rfl
          have z4 := (HK.out.res).cell 4 _ rfl
          have z5 := (HK.out.res).cell 5 _ rfl
          have f0 := HK.out.res.fr 0; have f1' := HK.out.res.fr 1; have f2 := HK.out.res.fr 2; have f3 := HK.out.res.fr 3; have f4 := HK.out.res.fr 4; have f5 := HK.out.res.fr 5
          go_wp2_with fail
          have R8 := ((((((HK.out.res.set 0 (.int .i64 f1)).set 1 (.int .i64 o.2.1)).set 2 (.int .i64 o.2.2)).set 3 (.slice q9 V.du.length cap9)).set 4 (.int .i64 st)).set 5 (.bool V.late))
          have r0 := (R8).cell 0 _ rfl
          have r1 := (R8).cell 1 _ rfl
          have r2 := (R8).cell 2 _ rfl
          have r3 := (R8).cell 3 _ rfl
          have r4 := (R8).cell 4 _ rfl
          have r5 := (R8).cell 5 _ rfl
          exact bodyPost_ret (v := .tuple #[cvS ⟨f1, o.2.1, o.2.2, V.du, st, V.late⟩ q9 cap9, .int .i64 0]) (by simp [results, Try.results10, go_sem, r0, r1, r2, r3, r4, r5]) rfl ⟨_, rfl, ((((((HK.out.bel.setCell (p := ⟨g3, 0, none⟩) hG3 _).setCell (p := ⟨g3, 1, none⟩) hG3 _).setCell (p := ⟨g3, 2, none⟩) hG3 _).setCell (p := ⟨g3, 3, none⟩) hG3 _).setCell (p := ⟨g3, 4, none⟩) hG3 _).setCell (p := ⟨g3, 5, none⟩) hG3 _), ⟨q9, cap9, by rw [HSE.out, E1.out]; rfl, by rw [HSE.out]; exact (((((HK.out.rd.set HLO3.out).set HLO3.out).set HLO3.out).set HLO3.out).set HLO3.out).set HLO3.out, HLOW.out⟩⟩
end Go.Proofs.Ytnnkldidlgiipaa
