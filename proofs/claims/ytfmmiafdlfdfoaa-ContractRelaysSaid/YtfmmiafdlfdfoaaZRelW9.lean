/- The walk over overlayref17's decide. Conditions: those of the theorem. -/
import Derived.Test.YtfmmiafdlfdfoaaZRelW8
namespace Go.Proofs.Ytfmmiafdlfdfoaa
namespace Rel
open Go.RowKit
theorem drewB2 (w : World) : Below w.heap.size w w.drew := ⟨rfl, rfl, rfl, Nat.le_refl _, fun _ _ => rfl⟩
set_option maxHeartbeats 4000000 in
set_option maxRecDepth 100000 in
theorem decide_any (b : BldV) (q : Option Addr) (cap : Nat) (k : CarV) (s : RelV) (w : World) (hn : 2 ≤ b.fl ∧ b.fl ≤ 31) (hfl : 0 ≤ s.fl ∧ s.fl < b.fl) (hdr : 0 ≤ s.dr ∧ s.dr ≤ 2) (hop : 0 ≤ s.op ∧ s.op ≤ 7) :
    Calls Try.prog 44 #[cvB b q cap, cvCar k, cvRel s] w fun e w' => e = .returned (cvRel (decideV b.fl ⟨k.st, k.tr, k.dw⟩ s)) ∧ Below w.heap.size w w' := by
  obtain ⟨st, fl, dr, op, dor, tm, ⟨c1, c2⟩, car⟩ := s
  simp only at hfl hdr hop
  obtain ⟨R, hR⟩ : ∃ R, decideV b.fl ⟨k.st, k.tr, k.dw⟩ ⟨st, fl, dr, op, dor, tm, (c1, c2), car⟩ = R := ⟨_, rfl⟩
  obtain ⟨x, hx⟩ : ∃ x, chooseV b.fl dr op fl (car, (c1, c2)) = x := ⟨_, rfl⟩
  obtain ⟨y, hy⟩ : ∃ y, nextV b.fl dr op fl (car, (c1, c2)) = y := ⟨_, rfl⟩
  have HR0 : Hid (R = ⟨if x.1 = 3 then 2 else if x.1 = 1 ∨ x.1 = 2 then 1 else 0, fl, y.1, y.2, if x.1 = 3 then 0 else 2, if x.1 = 3 then k.tr else if x.1 = 1 ∨ x.1 = 2 then k.st else 0, (c1, c2), car⟩) := Lib.hid (by rw [← hR, ← hx, ← hy]; rfl)
  have HCH : Hid (∀ W, Calls Try.prog 51 #[.int .i64 b.fl, cvSw dr op, .int .i64 fl, cvSt (car, (c1, c2))] W fun e w' => e = .returned (cvC x) ∧ Below W.heap.size W w') := Lib.hid fun W => by rw [← hx]; exact choose_any b.fl dr op fl (car, (c1, c2)) W hn hfl hdr hop
  have HNX : Hid (∀ W, Calls Try.prog 52 #[.int .i64 b.fl, cvSw dr op, .int .i64 fl, cvSt (car, (c1, c2))] W fun e w' => e = .returned (cvSw y.1 y.2) ∧ Below W.heap.size W w') := Lib.hid fun W => by rw [← hy]; exact nextS_any b.fl dr op fl (car, (c1, c2)) W hn hfl hdr hop
  rw [hR]
  clear hR hx hy hn hfl hdr hop
  obtain ⟨x1, x2, x3⟩ := x
  obtain ⟨y1, y2⟩ := y
  simp only at HR0 HCH HNX
  have X0 : Blk (w.alloc (.cells #[.int .i64 b.fl, .int .i64 b.deb, .int .i64 b.room, .int .i64 b.park, .float .f64 b.em, .float .f64 b.fu, .float .f64 b.ov, .slice q b.cars.length cap] 29)) w.heap.size [.int .i64 b.fl, .int .i64 b.deb, .int .i64 b.room, .int .i64 b.park, .float .f64 b.em, .float .f64 b.fu, .float .f64 b.ov, .slice q b.cars.length cap] := by
    have hx := Blk.new w [.int .i64 b.fl, .int .i64 b.deb, .int .i64 b.room, .int .i64 b.park, .float .f64 b.em, .float .f64 b.fu, .float .f64 b.ov, .slice q b.cars.length cap] 29
    exact hx
  replace X0 : Blk ((w.alloc (.cells #[.int .i64 b.fl, .int .i64 b.deb, .int .i64 b.room, .int .i64 b.park, .float .f64 b.em, .float .f64 b.fu, .float .f64 b.ov, .slice q b.cars.length cap] 29)).alloc (.cells #[.int .i64 k.dl, .int .i64 k.pu, .int .i64 k.qu, .int .i64 k.sl, .int .i64 k.st, .int .i64 k.tr, .int .i64 k.dw, .int .i64 k.ho, .int .i64 k.hm] 40)) w.heap.size [.int .i64 b.fl, .int .i64 b.deb, .int .i64 b.room, .int .i64 b.park, .float .f64 b.em, .float .f64 b.fu, .float .f64 b.ov, .slice q b.cars.length cap] := X0.next (below1' _ _)
  replace X0 : Blk (((w.alloc (.cells #[.int .i64 b.fl, .int .i64 b.deb, .int .i64 b.room, .int .i64 b.park, .float .f64 b.em, .float .f64 b.fu, .float .f64 b.ov, .slice q b.cars.length cap] 29)).alloc (.cells #[.int .i64 k.dl, .int .i64 k.pu, .int .i64 k.qu, .int .i64 k.sl, .int .i64 k.st, .int .i64 k.tr, .int .i64 k.dw, .int .i64 k.ho, .int .i64 k.hm] 40)).alloc (.cells #[.int .i64 st, .int .i64 fl, .int .i64 dr, .int .i64 op, .int .i64 dor, .int .i64 tm, .int .u32 (c1.toNat : Int), .int .u32 (c2.toNat : Int), .int .u32 (car.toNat : Int)] 59)) w.heap.size [.int .i64 b.fl, .int .i64 b.deb, .int .i64 b.room, .int .i64 b.park, .float .f64 b.em, .float .f64 b.fu, .float .f64 b.ov, .slice q b.cars.length cap] := X0.next (below1' _ _)
  replace X0 : Blk ((((w.alloc (.cells #[.int .i64 b.fl, .int .i64 b.deb, .int .i64 b.room, .int .i64 b.park, .float .f64 b.em, .float .f64 b.fu, .float .f64 b.ov, .slice q b.cars.length cap] 29)).alloc (.cells #[.int .i64 k.dl, .int .i64 k.pu, .int .i64 k.qu, .int .i64 k.sl, .int .i64 k.st, .int .i64 k.tr, .int .i64 k.dw, .int .i64 k.ho, .int .i64 k.hm] 40)).alloc (.cells #[.int .i64 st, .int .i64 fl, .int .i64 dr, .int .i64 op, .int .i64 dor, .int .i64 tm, .int .u32 (c1.toNat : Int), .int .u32 (c2.toNat : Int), .int .u32 (car.toNat : Int)] 59)).alloc (.cells #[.int .i64 0, .int .i64 0, .int .i64 0, .int .i64 0, .int .i64 0, .int .i64 0, .int .u32 0, .int .u32 0, .int .u32 0] 59)) w.heap.size [.int .i64 b.fl, .int .i64 b.deb, .int .i64 b.room, .int .i64 b.park, .float .f64 b.em, .float .f64 b.fu, .float .f64 b.ov, .slice q b.cars.length cap] := X0.next (below1' _ _)
  have X1 : Blk ((w.alloc (.cells #[.int .i64 b.fl, .int .i64 b.deb, .int .i64 b.room, .int .i64 b.park, .float .f64 b.em, .float .f64 b.fu, .float .f64 b.ov, .slice q b.cars.length cap] 29)).alloc (.cells #[.int .i64 k.dl, .int .i64 k.pu, .int .i64 k.qu, .int .i64 k.sl, .int .i64 k.st, .int .i64 k.tr, .int .i64 k.dw, .int .i64 k.ho, .int .i64 k.hm] 40)) (w.heap.size + 1) [.int .i64 k.dl, .int .i64 k.pu, .int .i64 k.qu, .int .i64 k.sl, .int .i64 k.st, .int .i64 k.tr, .int .i64 k.dw, .int .i64 k.ho, .int .i64 k.hm] := by
    have hx := Blk.new (w.alloc (.cells #[.int .i64 b.fl, .int .i64 b.deb, .int .i64 b.room, .int .i64 b.park, .float .f64 b.em, .float .f64 b.fu, .float .f64 b.ov, .slice q b.cars.length cap] 29)) [.int .i64 k.dl, .int .i64 k.pu, .int .i64 k.qu, .int .i64 k.sl, .int .i64 k.st, .int .i64 k.tr, .int .i64 k.dw, .int .i64 k.ho, .int .i64 k.hm] 40
    rw [World.size_alloc] at hx
    exact hx
  replace X1 : Blk (((w.alloc (.cells #[.int .i64 b.fl, .int .i64 b.deb, .int .i64 b.room, .int .i64 b.park, .float .f64 b.em, .float .f64 b.fu, .float .f64 b.ov, .slice q b.cars.length cap] 29)).alloc (.cells #[.int .i64 k.dl, .int .i64 k.pu, .int .i64 k.qu, .int .i64 k.sl, .int .i64 k.st, .int .i64 k.tr, .int .i64 k.dw, .int .i64 k.ho, .int .i64 k.hm] 40)).alloc (.cells #[.int .i64 st, .int .i64 fl, .int .i64 dr, .int .i64 op, .int .i64 dor, .int .i64 tm, .int .u32 (c1.toNat : Int), .int .u32 (c2.toNat : Int), .int .u32 (car.toNat : Int)] 59)) (w.heap.size + 1) [.int .i64 k.dl, .int .i64 k.pu, .int .i64 k.qu, .int .i64 k.sl, .int .i64 k.st, .int .i64 k.tr, .int .i64 k.dw, .int .i64 k.ho, .int .i64 k.hm] := X1.next (below1' _ _)
  replace X1 : Blk ((((w.alloc (.cells #[.int .i64 b.fl, .int .i64 b.deb, .int .i64 b.room, .int .i64 b.park, .float .f64 b.em, .float .f64 b.fu, .float .f64 b.ov, .slice q b.cars.length cap] 29)).alloc (.cells #[.int .i64 k.dl, .int .i64 k.pu, .int .i64 k.qu, .int .i64 k.sl, .int .i64 k.st, .int .i64 k.tr, .int .i64 k.dw, .int .i64 k.ho, .int .i64 k.hm] 40)).alloc (.cells #[.int .i64 st, .int .i64 fl, .int .i64 dr, .int .i64 op, .int .i64 dor, .int .i64 tm, .int .u32 (c1.toNat : Int), .int .u32 (c2.toNat : Int), .int .u32 (car.toNat : Int)] 59)).alloc (.cells #[.int .i64 0, .int .i64 0, .int .i64 0, .int .i64 0, .int .i64 0, .int .i64 0, .int .u32 0, .int .u32 0, .int .u32 0] 59)) (w.heap.size + 1) [.int .i64 k.dl, .int .i64 k.pu, .int .i64 k.qu, .int .i64 k.sl, .int .i64 k.st, .int .i64 k.tr, .int .i64 k.dw, .int .i64 k.ho, .int .i64 k.hm] := X1.next (below1' _ _)
  have X2 : Blk (((w.alloc (.cells #[.int .i64 b.fl, .int .i64 b.deb, .int .i64 b.room, .int .i64 b.park, .float .f64 b.em, .float .f64 b.fu, .float .f64 b.ov, .slice q b.cars.length cap] 29)).alloc (.cells #[.int .i64 k.dl, .int .i64 k.pu, .int .i64 k.qu, .int .i64 k.sl, .int .i64 k.st, .int .i64 k.tr, .int .i64 k.dw, .int .i64 k.ho, .int .i64 k.hm] 40)).alloc (.cells #[.int .i64 st, .int .i64 fl, .int .i64 dr, .int .i64 op, .int .i64 dor, .int .i64 tm, .int .u32 (c1.toNat : Int), .int .u32 (c2.toNat : Int), .int .u32 (car.toNat : Int)] 59)) (w.heap.size + 1 + 1) [.int .i64 st, .int .i64 fl, .int .i64 dr, .int .i64 op, .int .i64 dor, .int .i64 tm, .int .u32 (c1.toNat : Int), .int .u32 (c2.toNat : Int), .int .u32 (car.toNat : Int)] := by
    have hx := Blk.new ((w.alloc (.cells #[.int .i64 b.fl, .int .i64 b.deb, .int .i64 b.room, .int .i64 b.park, .float .f64 b.em, .float .f64 b.fu, .float .f64 b.ov, .slice q b.cars.length cap] 29)).alloc (.cells #[.int .i64 k.dl, .int .i64 k.pu, .int .i64 k.qu, .int .i64 k.sl, .int .i64 k.st, .int .i64 k.tr, .int .i64 k.dw, .int .i64 k.ho, .int .i64 k.hm] 40)) [.int .i64 st, .int .i64 fl, .int .i64 dr, .int .i64 op, .int .i64 dor, .int .i64 tm, .int .u32 (c1.toNat : Int), .int .u32 (c2.toNat : Int), .int .u32 (car.toNat : Int)] 59
    rw [World.size_alloc, World.size_alloc] at hx
    exact hx
  replace X2 : Blk ((((w.alloc (.cells #[.int .i64 b.fl, .int .i64 b.deb, .int .i64 b.room, .int .i64 b.park, .float .f64 b.em, .float .f64 b.fu, .float .f64 b.ov, .slice q b.cars.length cap] 29)).alloc (.cells #[.int .i64 k.dl, .int .i64 k.pu, .int .i64 k.qu, .int .i64 k.sl, .int .i64 k.st, .int .i64 k.tr, .int .i64 k.dw, .int .i64 k.ho, .int .i64 k.hm] 40)).alloc (.cells #[.int .i64 st, .int .i64 fl, .int .i64 dr, .int .i64 op, .int .i64 dor, .int .i64 tm, .int .u32 (c1.toNat : Int), .int .u32 (c2.toNat : Int), .int .u32 (car.toNat : Int)] 59)).alloc (.cells #[.int .i64 0, .int .i64 0, .int .i64 0, .int .i64 0, .int .i64 0, .int .i64 0, .int .u32 0, .int .u32 0, .int .u32 0] 59)) (w.heap.size + 1 + 1) [.int .i64 st, .int .i64 fl, .int .i64 dr, .int .i64 op, .int .i64 dor, .int .i64 tm, .int .u32 (c1.toNat : Int), .int .u32 (c2.toNat : Int), .int .u32 (car.toNat : Int)] := X2.next (below1' _ _)
  have X3 : Blk ((((w.alloc (.cells #[.int .i64 b.fl, .int .i64 b.deb, .int .i64 b.room, .int .i64 b.park, .float .f64 b.em, .float .f64 b.fu, .float .f64 b.ov, .slice q b.cars.length cap] 29)).alloc (.cells #[.int .i64 k.dl, .int .i64 k.pu, .int .i64 k.qu, .int .i64 k.sl, .int .i64 k.st, .int .i64 k.tr, .int .i64 k.dw, .int .i64 k.ho, .int .i64 k.hm] 40)).alloc (.cells #[.int .i64 st, .int .i64 fl, .int .i64 dr, .int .i64 op, .int .i64 dor, .int .i64 tm, .int .u32 (c1.toNat : Int), .int .u32 (c2.toNat : Int), .int .u32 (car.toNat : Int)] 59)).alloc (.cells #[.int .i64 0, .int .i64 0, .int .i64 0, .int .i64 0, .int .i64 0, .int .i64 0, .int .u32 0, .int .u32 0, .int .u32 0] 59)) (w.heap.size + 1 + 1 + 1) [.int .i64 0, .int .i64 0, .int .i64 0, .int .i64 0, .int .i64 0, .int .i64 0, .int .u32 0, .int .u32 0, .int .u32 0] := by
    have hx := Blk.new (((w.alloc (.cells #[.int .i64 b.fl, .int .i64 b.deb, .int .i64 b.room, .int .i64 b.park, .float .f64 b.em, .float .f64 b.fu, .float .f64 b.ov, .slice q b.cars.length cap] 29)).alloc (.cells #[.int .i64 k.dl, .int .i64 k.pu, .int .i64 k.qu, .int .i64 k.sl, .int .i64 k.st, .int .i64 k.tr, .int .i64 k.dw, .int .i64 k.ho, .int .i64 k.hm] 40)).alloc (.cells #[.int .i64 st, .int .i64 fl, .int .i64 dr, .int .i64 op, .int .i64 dor, .int .i64 tm, .int .u32 (c1.toNat : Int), .int .u32 (c2.toNat : Int), .int .u32 (car.toNat : Int)] 59)) [.int .i64 0, .int .i64 0, .int .i64 0, .int .i64 0, .int .i64 0, .int .i64 0, .int .u32 0, .int .u32 0, .int .u32 0] 59
    rw [World.size_alloc, World.size_alloc, World.size_alloc] at hx
    exact hx
  have XW : Below w.heap.size w (w.alloc (.cells #[.int .i64 b.fl, .int .i64 b.deb, .int .i64 b.room, .int .i64 b.park, .float .f64 b.em, .float .f64 b.fu, .float .f64 b.ov, .slice q b.cars.length cap] 29)) := below1' w _
  replace XW : Below w.heap.size w ((w.alloc (.cells #[.int .i64 b.fl, .int .i64 b.deb, .int .i64 b.room, .int .i64 b.park, .float .f64 b.em, .float .f64 b.fu, .float .f64 b.ov, .slice q b.cars.length cap] 29)).alloc (.cells #[.int .i64 k.dl, .int .i64 k.pu, .int .i64 k.qu, .int .i64 k.sl, .int .i64 k.st, .int .i64 k.tr, .int .i64 k.dw, .int .i64 k.ho, .int .i64 k.hm] 40)) := XW.trans ((below1' _ _).mono XW.size)
  replace XW : Below w.heap.size w (((w.alloc (.cells #[.int .i64 b.fl, .int .i64 b.deb, .int .i64 b.room, .int .i64 b.park, .float .f64 b.em, .float .f64 b.fu, .float .f64 b.ov, .slice q b.cars.length cap] 29)).alloc (.cells #[.int .i64 k.dl, .int .i64 k.pu, .int .i64 k.qu, .int .i64 k.sl, .int .i64 k.st, .int .i64 k.tr, .int .i64 k.dw, .int .i64 k.ho, .int .i64 k.hm] 40)).alloc (.cells #[.int .i64 st, .int .i64 fl, .int .i64 dr, .int .i64 op, .int .i64 dor, .int .i64 tm, .int .u32 (c1.toNat : Int), .int .u32 (c2.toNat : Int), .int .u32 (car.toNat : Int)] 59)) := XW.trans ((below1' _ _).mono XW.size)
  replace XW : Below w.heap.size w ((((w.alloc (.cells #[.int .i64 b.fl, .int .i64 b.deb, .int .i64 b.room, .int .i64 b.park, .float .f64 b.em, .float .f64 b.fu, .float .f64 b.ov, .slice q b.cars.length cap] 29)).alloc (.cells #[.int .i64 k.dl, .int .i64 k.pu, .int .i64 k.qu, .int .i64 k.sl, .int .i64 k.st, .int .i64 k.tr, .int .i64 k.dw, .int .i64 k.ho, .int .i64 k.hm] 40)).alloc (.cells #[.int .i64 st, .int .i64 fl, .int .i64 dr, .int .i64 op, .int .i64 dor, .int .i64 tm, .int .u32 (c1.toNat : Int), .int .u32 (c2.toNat : Int), .int .u32 (car.toNat : Int)] 59)).alloc (.cells #[.int .i64 0, .int .i64 0, .int .i64 0, .int .i64 0, .int .i64 0, .int .i64 0, .int .u32 0, .int .u32 0, .int .u32 0] 59)) := XW.trans ((below1' _ _).mono XW.size)
  have HWW := Lib.hid XW; have HX0 := Lib.hid X0; have HX1 := Lib.hid X1; have HX2 := Lib.hid X2; have HX3 := Lib.hid X3
  clear XW X0 X1 X2 X3
  go_enter Try.func44, Try.ntmps44
  go_upto_region 1 with fail
  generalize ((((w.alloc (.cells #[.int .i64 b.fl, .int .i64 b.deb, .int .i64 b.room, .int .i64 b.park, .float .f64 b.em, .float .f64 b.fu, .float .f64 b.ov, .slice q b.cars.length cap] 29)).alloc (.cells #[.int .i64 k.dl, .int .i64 k.pu, .int .i64 k.qu, .int .i64 k.sl, .int .i64 k.st, .int .i64 k.tr, .int .i64 k.dw, .int .i64 k.ho, .int .i64 k.hm] 40)).alloc (.cells #[.int .i64 st, .int .i64 fl, .int .i64 dr, .int .i64 op, .int .i64 dor, .int .i64 tm, .int .u32 (c1.toNat : Int), .int .u32 (c2.toNat : Int), .int .u32 (car.toNat : Int)] 59)).alloc (.cells #[.int .i64 0, .int .i64 0, .int .i64 0, .int .i64 0, .int .i64 0, .int .i64 0, .int .u32 0, .int .u32 0, .int .u32 0] 59)) = w0 at *
  generalize hg3 : w.heap.size + 1 + 1 + 1 = g3 at *
  generalize hg2 : w.heap.size + 1 + 1 = g2 at *
  generalize hg1 : w.heap.size + 1 = g1 at *
  have HG1 := Lib.hid hg1; have hq1 : w.heap.size + 1 ≤ g1 := by omega
  have HG2 := Lib.hid hg2; have hq2 : w.heap.size + 2 ≤ g2 := by omega
  have HG3 := Lib.hid hg3; have hq3 : w.heap.size + 3 ≤ g3 := by omega
  clear hg1 hg2 hg3
  have HW := Lib.hid (Below.refl w0.heap.size w0)
  have hz0 := HX0.out.lt; have hz1 := HX1.out.lt; have hz2 := HX2.out.lt; have hz3 := HX3.out.lt
  have hg01 : w.heap.size ≤ g1 := by omega
  have hg02 : w.heap.size ≤ g2 := by omega
  have hg03 : w.heap.size ≤ g3 := by omega
  have hne12 : g1 ≠ g2 := by have := HG2.out; omega
  have hne23 : g3 ≠ g2 := by have := HG3.out; omega
  have hne02 : w.heap.size ≠ g2 := by omega
  have z0 := (HX2.out).cell 0 _ rfl
  have z1 := (HX2.out).cell 1 _ rfl
  have z2 := (HX2.out).cell 2 _ rfl
  have z3 := (HX2.out).cell 3 _ rfl
  have z4 := (HX2.out).cell 4 _ rfl
  have z5 := (HX2.out).cell 5 _ rfl
  have z6 := (HX2.out).cell 6 _ rfl
  have z7 := (HX2.out).cell 7 _ rfl
  have z8 := (HX2.out).cell 8 _ rfl
  go_upto_region 2 with fail
  have BS := Blk.new w0 [.int .i64 dr, .int .i64 op] 98
  have hbs := below1' w0 (.cells #[.int .i64 dr, .int .i64 op] 98)
  change Blk (w0.alloc (.cells #[.int .i64 dr, .int .i64 op] 98)) _ _ at BS
  have HS1 := Lib.hid BS; have HA1 := Lib.hid (HX0.out.next hbs); have HB1 := Lib.hid (HX1.out.next hbs); have HC1 := Lib.hid (HX2.out.next hbs); have HD1 := Lib.hid (HX3.out.next hbs); have HW1 := Lib.hid (HWW.out.trans (hbs.mono HWW.out.size))
  have hlt2 : g2 < w0.heap.size := HX2.out.lt
  have hlt3 : g3 < w0.heap.size := HX3.out.lt
  have hlt1 : g1 < w0.heap.size := HX1.out.lt
  have hlt0 : w.heap.size < w0.heap.size := HX0.out.lt
  clear BS hbs z0 z1 z2 z3 z4 z5 z6 z7 z8 HX0 HX1 HX2 HX3 HWW HW hz0 hz1 hz2 hz3
  generalize w0.alloc (.cells #[.int .i64 dr, .int .i64 op] 98) = w1 at *
  generalize w0.heap.size = gs at *
  have z0 := (HC1.out).cell 0 _ rfl
  have z1 := (HC1.out).cell 1 _ rfl
  have z2 := (HC1.out).cell 2 _ rfl
  have z3 := (HC1.out).cell 3 _ rfl
  have z4 := (HC1.out).cell 4 _ rfl
  have z5 := (HC1.out).cell 5 _ rfl
  have z6 := (HC1.out).cell 6 _ rfl
  have z7 := (HC1.out).cell 7 _ rfl
  have z8 := (HC1.out).cell 8 _ rfl
  go_upto_region 3 with fail
  have BS := Blk.new w1 [.int .u32 (car.toNat : Int), .int .u32 (c1.toNat : Int), .int .u32 (c2.toNat : Int)] 100
  have hbs := below1' w1 (.cells #[.int .u32 (car.toNat : Int), .int .u32 (c1.toNat : Int), .int .u32 (c2.toNat : Int)] 100)
  change Blk (w1.alloc (.cells #[.int .u32 (car.toNat : Int), .int .u32 (c1.toNat : Int), .int .u32 (c2.toNat : Int)] 100)) _ _ at BS
  have HT2 := Lib.hid BS; have HS2 := Lib.hid (HS1.out.next hbs); have HA2 := Lib.hid (HA1.out.next hbs); have HB2 := Lib.hid (HB1.out.next hbs); have HC2 := Lib.hid (HC1.out.next hbs); have HD2 := Lib.hid (HD1.out.next hbs); have HW2 := Lib.hid (HW1.out.trans (hbs.mono HW1.out.size))
  have hgst : gs < w1.heap.size := HS1.out.lt
  clear BS hbs z0 z1 z2 z3 z4 z5 z6 z7 z8 HS1 HA1 HB1 HC1 HD1 HW1
  generalize w1.alloc (.cells #[.int .u32 (car.toNat : Int), .int .u32 (c1.toNat : Int), .int .u32 (c2.toNat : Int)] 100) = w2 at *
  generalize w1.heap.size = gt at *
  have k0 := HA2.out.cell 0 _ rfl
  have z1 := HC2.out.cell 1 _ rfl
  have a0 := (HS2.out).cell 0 _ rfl
  have a1 := (HS2.out).cell 1 _ rfl
  have t0 := (HT2.out).cell 0 _ rfl
  have t1 := (HT2.out).cell 1 _ rfl
  have t2 := (HT2.out).cell 2 _ rfl
  go_wp2_with fail
  refine (HCH.out w2).mono ?_
  rintro e w3 ⟨rfl, hb3⟩
  have HT3 := Lib.hid (HT2.out.next hb3); have HS3 := Lib.hid (HS2.out.next hb3); have HA3 := Lib.hid (HA2.out.next hb3); have HB3 := Lib.hid (HB2.out.next hb3); have HC3 := Lib.hid (HC2.out.next hb3); have HD3 := Lib.hid (HD2.out.next hb3); have HW3 := Lib.hid (HW2.out.trans (hb3.mono HW2.out.size))
  clear hb3 k0 z1 a0 a1 t0 t1 t2 HT2 HS2 HA2 HB2 HC2 HD2 HW2
  go_upto_region 4 with fail
  have BS := Blk.new w3 [.int .i64 x1, .int .i64 x2, .int .i64 x3] 102
  have hbs := below1' w3 (.cells #[.int .i64 x1, .int .i64 x2, .int .i64 x3] 102)
  change Blk (w3.alloc (.cells #[.int .i64 x1, .int .i64 x2, .int .i64 x3] 102)) _ _ at BS
  have HX4 := Lib.hid BS; have HT4 := Lib.hid (HT3.out.next hbs); have HS4 := Lib.hid (HS3.out.next hbs); have HA4 := Lib.hid (HA3.out.next hbs); have HB4 := Lib.hid (HB3.out.next hbs); have HC4 := Lib.hid (HC3.out.next hbs); have HD4 := Lib.hid (HD3.out.next hbs); have HW4 := Lib.hid (HW3.out.trans (hbs.mono HW3.out.size))
  have hgx2 : g2 < w3.heap.size := HC3.out.lt
  have hgxs : gs < w3.heap.size := HS3.out.lt
  clear BS hbs HT3 HS3 HA3 HB3 HC3 HD3 HW3
  generalize w3.alloc (.cells #[.int .i64 x1, .int .i64 x2, .int .i64 x3] 102) = w4 at *
  generalize w3.heap.size = gx at *
  have k0 := HA4.out.cell 0 _ rfl
  have z1 := HC4.out.cell 1 _ rfl
  have a0 := (HS4.out).cell 0 _ rfl
  have a1 := (HS4.out).cell 1 _ rfl
  have t0 := (HT4.out).cell 0 _ rfl
  have t1 := (HT4.out).cell 1 _ rfl
  have t2 := (HT4.out).cell 2 _ rfl
  go_wp2_with fail
  refine (HNX.out w4).mono ?_
  rintro e w5 ⟨rfl, hb5⟩
  have HX5 := Lib.hid (HX4.out.next hb5); have HS5 := Lib.hid (HS4.out.next hb5); have HB5 := Lib.hid (HB4.out.next hb5); have HC5 := Lib.hid (HC4.out.next hb5); have HD5 := Lib.hid (HD4.out.next hb5); have HW5 := Lib.hid (HW4.out.trans (hb5.mono HW4.out.size))
  clear hb5 k0 z1 a0 a1 t0 t1 t2 HX4 HT4 HS4 HA4 HB4 HC4 HD4 HW4
  have a0 := (HS5.out).cell 0 _ rfl
  have a1 := (HS5.out).cell 1 _ rfl
  have f0 := HS5.out.fr 0; have f1 := HS5.out.fr 1
  go_upto_region 5 with fail
  have HS6 := Lib.hid ((HS5.out.set 0 (.int .i64 y1)).set 1 (.int .i64 y2))
  have HX6 := Lib.hid ((HX5.out.other (g := gs) (by omega) (i := 0) (.int .i64 y1)).other (g := gs) (by omega) (i := 1) (.int .i64 y2))
  have HB6 := Lib.hid ((HB5.out.other (g := gs) (by omega) (i := 0) (.int .i64 y1)).other (g := gs) (by omega) (i := 1) (.int .i64 y2))
  have HC6 := Lib.hid ((HC5.out.other (g := gs) (by omega) (i := 0) (.int .i64 y1)).other (g := gs) (by omega) (i := 1) (.int .i64 y2))
  have HD6 := Lib.hid ((HD5.out.other (g := gs) (by omega) (i := 0) (.int .i64 y1)).other (g := gs) (by omega) (i := 1) (.int .i64 y2))
  have hgsw : w.heap.size ≤ gs := by omega
  have HW6 := Lib.hid ((HW5.out.setCell (p := ⟨gs, 0, none⟩) hgsw (.int .i64 y1)).setCell (p := ⟨gs, 1, none⟩) hgsw (.int .i64 y2))
  clear a0 a1 f0 f1 HS5 HX5 HB5 HC5 HD5 HW5
  generalize (w5.setCell ⟨gs, 0, none⟩ (.int .i64 y1)).setCell ⟨gs, 1, none⟩ (.int .i64 y2) = w6 at *
  have HS6' : Hid (Blk w6 gs [.int .i64 y1, .int .i64 y2]) := HS6
  clear HS6
  have a0 := (HS6'.out).cell 0 _ rfl
  have a1 := (HS6'.out).cell 1 _ rfl
  have z0 := (HC6.out).cell 0 _ rfl
  have z1 := (HC6.out).cell 1 _ rfl
  have z2 := (HC6.out).cell 2 _ rfl
  have z3 := (HC6.out).cell 3 _ rfl
  have z4 := (HC6.out).cell 4 _ rfl
  have z5 := (HC6.out).cell 5 _ rfl
  have z6 := (HC6.out).cell 6 _ rfl
  have z7 := (HC6.out).cell 7 _ rfl
  have z8 := (HC6.out).cell 8 _ rfl
  have f2 := HC6.out.fr 2; have f3 := HC6.out.fr 3
  have hneS : gs ≠ g2 := by omega
  go_region
  go_upto_region 6 with fail
  have hbd := drewB2 ((w6.setCell ⟨g2, 2, none⟩ (.int .i64 y1)).setCell ⟨g2, 3, none⟩ (.int .i64 y2))
  have HC7 := Lib.hid (((HC6.out.set 2 (.int .i64 y1)).set 3 (.int .i64 y2)).next hbd)
  have HX7 := Lib.hid (((HX6.out.other (g := g2) (by omega) (i := 2) (.int .i64 y1)).other (g := g2) (by omega) (i := 3) (.int .i64 y2)).next hbd)
  have HB7 := Lib.hid (((HB6.out.other (g := g2) (by omega) (i := 2) (.int .i64 y1)).other (g := g2) (by omega) (i := 3) (.int .i64 y2)).next hbd)
  have HD7 := Lib.hid (((HD6.out.other (g := g2) (by omega) (i := 2) (.int .i64 y1)).other (g := g2) (by omega) (i := 3) (.int .i64 y2)).next hbd)
  have hW7 := ((HW6.out.setCell (p := ⟨g2, 2, none⟩) hg02 (.int .i64 y1)).setCell (p := ⟨g2, 3, none⟩) hg02 (.int .i64 y2))
  have HW7 := Lib.hid (hW7.trans (hbd.mono hW7.size))
  clear hbd hW7 a0 a1 z0 z1 z2 z3 z4 z5 z6 z7 z8 f2 f3 HC6 HX6 HB6 HD6 HW6 HS6'
  generalize ((w6.setCell ⟨g2, 2, none⟩ (.int .i64 y1)).setCell ⟨g2, 3, none⟩ (.int .i64 y2)).drew = w7 at *
  have HC7' : Hid (Blk w7 g2 [.int .i64 st, .int .i64 fl, .int .i64 y1, .int .i64 y2, .int .i64 dor, .int .i64 tm, .int .u32 (c1.toNat : Int), .int .u32 (c2.toNat : Int), .int .u32 (car.toNat : Int)]) := HC7
  clear HC7
  have z0 := (HC7'.out).cell 0 _ rfl
  have z1 := (HC7'.out).cell 1 _ rfl
  have z2 := (HC7'.out).cell 2 _ rfl
  have z3 := (HC7'.out).cell 3 _ rfl
  have z4 := (HC7'.out).cell 4 _ rfl
  have z5 := (HC7'.out).cell 5 _ rfl
  have z6 := (HC7'.out).cell 6 _ rfl
  have z7 := (HC7'.out).cell 7 _ rfl
  have z8 := (HC7'.out).cell 8 _ rfl
  have f0 := HC7'.out.fr 0; have f4 := HC7'.out.fr 4; have f5 := HC7'.out.fr 5
  go_upto_region 7 with fail
  have HC8 := Lib.hid (((HC7'.out.set 0 (.int .i64 0)).set 4 (.int .i64 2)).set 5 (.int .i64 0))
  have HX8 := Lib.hid (((HX7.out.other (g := g2) (by omega) (i := 0) (.int .i64 0)).other (g := g2) (by omega) (i := 4) (.int .i64 2)).other (g := g2) (by omega) (i := 5) (.int .i64 0))
  have HB8 := Lib.hid (((HB7.out.other (g := g2) (by omega) (i := 0) (.int .i64 0)).other (g := g2) (by omega) (i := 4) (.int .i64 2)).other (g := g2) (by omega) (i := 5) (.int .i64 0))
  have HD8 := Lib.hid (((HD7.out.other (g := g2) (by omega) (i := 0) (.int .i64 0)).other (g := g2) (by omega) (i := 4) (.int .i64 2)).other (g := g2) (by omega) (i := 5) (.int .i64 0))
  have HW8 := Lib.hid (((HW7.out.setCell (p := ⟨g2, 0, none⟩) hg02 (.int .i64 0)).setCell (p := ⟨g2, 4, none⟩) hg02 (.int .i64 2)).setCell (p := ⟨g2, 5, none⟩) hg02 (.int .i64 0))
  clear z0 z1 z2 z3 z4 z5 z6 z7 z8 f0 f4 f5 HC7' HX7 HB7 HD7 HW7
  generalize ((w7.setCell ⟨g2, 0, none⟩ (.int .i64 0)).setCell ⟨g2, 4, none⟩ (.int .i64 2)).setCell ⟨g2, 5, none⟩ (.int .i64 0) = w8 at *
  have HC8' : Hid (Blk w8 g2 [.int .i64 0, .int .i64 fl, .int .i64 y1, .int .i64 y2, .int .i64 2, .int .i64 0, .int .u32 (c1.toNat : Int), .int .u32 (c2.toNat : Int), .int .u32 (car.toNat : Int)]) := HC8
  clear HC8
  have e0 := HX8.out.cell 0 _ rfl
  go_upto_block 0 with fail
  clear e0
  go_cut [] from 45 to 58 (fun wx => Blk wx g2 [.int .i64 (if x1 = 3 then 2 else if x1 = 1 ∨ x1 = 2 then 1 else 0), .int .i64 fl, .int .i64 y1, .int .i64 y2, .int .i64 (if x1 = 3 then 0 else 2), .int .i64 (if x1 = 3 then k.tr else if x1 = 1 ∨ x1 = 2 then k.st else 0), .int .u32 (c1.toNat : Int), .int .u32 (c2.toNat : Int), .int .u32 (car.toNat : Int)] ∧ Blk wx g3 [.int .i64 0, .int .i64 0, .int .i64 0, .int .i64 0, .int .i64 0, .int .i64 0, .int .u32 0, .int .u32 0, .int .u32 0] ∧ Below w.heap.size w wx)
  case first =>
    by_cases h3 : x1 = 3
    · have b3 : (x1 == 3) = true := by simpa using h3
      have H3 := Lib.hid h3
      clear h3
      have z0 := HC8'.out.cell 0 _ rfl; have z4 := HC8'.out.cell 4 _ rfl; have z5 := HC8'.out.cell 5 _ rfl
      have f0 := HC8'.out.fr 0; have f4 := HC8'.out.fr 4; have f5 := HC8'.out.fr 5
      have e4 := HB8.out.cell 4 _ rfl; have e5 := HB8.out.cell 5 _ rfl
      go_wp2_with (go_region)
      go_meet
      exact ⟨by rw [if_pos H3.out, if_pos H3.out, if_pos H3.out]; exact ((((HC8'.out.set 0 (.int .i64 2)).set 4 (.int .i64 0)).set 5 (.int .i64 k.tr))).next (drewB2 _), ((((HD8.out.other (g := g2) (by omega) (i := 0) (.int .i64 2)).other (g := g2) (by omega) (i := 4) (.int .i64 0)).other (g := g2) (by omega) (i := 5) (.int .i64 k.tr))).next (drewB2 _), (by have h := (((HW8.out.setCell (p := ⟨g2, 0, none⟩) hg02 (.int .i64 2)).setCell (p := ⟨g2, 4, none⟩) hg02 (.int .i64 0)).setCell (p := ⟨g2, 5, none⟩) hg02 (.int .i64 k.tr)); exact h.trans ((drewB2 _).mono h.size))⟩
    · have b3 : (x1 == 3) = false := by simpa using h3
      have H3 := Lib.hid h3
      clear h3
      by_cases h1 : x1 = 1
      · have b1 : (x1 == 1) = true := by simpa using h1
        have H1 : Hid (x1 = 1 ∨ x1 = 2) := Lib.hid (.inl h1)
        clear h1
        have z0 := HC8'.out.cell 0 _ rfl; have z4 := HC8'.out.cell 4 _ rfl; have z5 := HC8'.out.cell 5 _ rfl
        have f0 := HC8'.out.fr 0; have f4 := HC8'.out.fr 4; have f5 := HC8'.out.fr 5
        have e4 := HB8.out.cell 4 _ rfl; have e5 := HB8.out.cell 5 _ rfl
        go_wp2_with (go_region)
        go_meet
        exact ⟨by rw [if_neg H3.out, if_neg H3.out, if_neg H3.out, if_pos H1.out, if_pos H1.out]; exact (((HC8'.out.set 0 (.int .i64 1)).set 5 (.int .i64 k.st))).next (drewB2 _), (((HD8.out.other (g := g2) (by omega) (i := 0) (.int .i64 1)).other (g := g2) (by omega) (i := 5) (.int .i64 k.st))).next (drewB2 _), (by have h := ((HW8.out.setCell (p := ⟨g2, 0, none⟩) hg02 (.int .i64 1)).setCell (p := ⟨g2, 5, none⟩) hg02 (.int .i64 k.st)); exact h.trans ((drewB2 _).mono h.size))⟩
      · have b1 : (x1 == 1) = false := by simpa using h1
        by_cases h2 : x1 = 2
        · have b2 : (x1 == 2) = true := by simpa using h2
          have H1 : Hid (x1 = 1 ∨ x1 = 2) := Lib.hid (.inr h2)
          clear h1 h2
          have z0 := HC8'.out.cell 0 _ rfl; have z4 := HC8'.out.cell 4 _ rfl; have z5 := HC8'.out.cell 5 _ rfl
          have f0 := HC8'.out.fr 0; have f4 := HC8'.out.fr 4; have f5 := HC8'.out.fr 5
          have e4 := HB8.out.cell 4 _ rfl; have e5 := HB8.out.cell 5 _ rfl
          go_wp2_with (go_region)
          go_meet
          exact ⟨by rw [if_neg H3.out, if_neg H3.out, if_neg H3.out, if_pos H1.out, if_pos H1.out]; exact (((HC8'.out.set 0 (.int .i64 1)).set 5 (.int .i64 k.st))).next (drewB2 _), (((HD8.out.other (g := g2) (by omega) (i := 0) (.int .i64 1)).other (g := g2) (by omega) (i := 5) (.int .i64 k.st))).next (drewB2 _), (by have h := ((HW8.out.setCell (p := ⟨g2, 0, none⟩) hg02 (.int .i64 1)).setCell (p := ⟨g2, 5, none⟩) hg02 (.int .i64 k.st)); exact h.trans ((drewB2 _).mono h.size))⟩
        · have b2 : (x1 == 2) = false := by simpa using h2
          have H1 : Hid (¬ (x1 = 1 ∨ x1 = 2)) := Lib.hid (by omega)
          clear h1 h2
          go_wp2_with fail
          go_meet
          exact ⟨by rw [if_neg H3.out, if_neg H3.out, if_neg H3.out, if_neg H1.out, if_neg H1.out]; exact HC8'.out, HD8.out, HW8.out⟩
  case rest =>
  obtain ⟨hC, hD, hW⟩ := hcut
  generalize wc = wA at *
  have HCA := Lib.hid hC; have HDA := Lib.hid hD; have HWA := Lib.hid hW
  clear hC hD hW HC8' HX8 HB8 HD8 HW8
  generalize (if x1 = 3 then 2 else if x1 = 1 ∨ x1 = 2 then 1 else (0 : Int)) = r0' at *
  generalize (if x1 = 3 then 0 else (2 : Int)) = r4' at *
  generalize (if x1 = 3 then k.tr else if x1 = 1 ∨ x1 = 2 then k.st else (0 : Int)) = r5' at *
  obtain rfl := HR0.out
  clear HR0
  have z0 := (HCA.out).cell 0 _ rfl
  have z1 := (HCA.out).cell 1 _ rfl
  have z2 := (HCA.out).cell 2 _ rfl
  have z3 := (HCA.out).cell 3 _ rfl
  have z4 := (HCA.out).cell 4 _ rfl
  have z5 := (HCA.out).cell 5 _ rfl
  have z6 := (HCA.out).cell 6 _ rfl
  have z7 := (HCA.out).cell 7 _ rfl
  have z8 := (HCA.out).cell 8 _ rfl
  have j0 := (HDA.out).cell 0 _ rfl
  have j1 := (HDA.out).cell 1 _ rfl
  have j2 := (HDA.out).cell 2 _ rfl
  have j3 := (HDA.out).cell 3 _ rfl
  have j4 := (HDA.out).cell 4 _ rfl
  have j5 := (HDA.out).cell 5 _ rfl
  have j6 := (HDA.out).cell 6 _ rfl
  have j7 := (HDA.out).cell 7 _ rfl
  have j8 := (HDA.out).cell 8 _ rfl
  have f0 := HDA.out.fr 0; have f1 := HDA.out.fr 1; have f2 := HDA.out.fr 2; have f3 := HDA.out.fr 3; have f4 := HDA.out.fr 4; have f5 := HDA.out.fr 5; have f6 := HDA.out.fr 6; have f7 := HDA.out.fr 7; have f8 := HDA.out.fr 8
  go_wp2_with fail
  have R9 := set9 HDA.out (.int .i64 r0') (.int .i64 fl) (.int .i64 y1) (.int .i64 y2) (.int .i64 r4') (.int .i64 r5') (.int .u32 (c1.toNat : Int)) (.int .u32 (c2.toNat : Int)) (.int .u32 (car.toNat : Int))
  have r0 := (R9).cell 0 _ rfl
  have r1 := (R9).cell 1 _ rfl
  have r2 := (R9).cell 2 _ rfl
  have r3 := (R9).cell 3 _ rfl
  have r4 := (R9).cell 4 _ rfl
  have r5 := (R9).cell 5 _ rfl
  have r6 := (R9).cell 6 _ rfl
  have r7 := (R9).cell 7 _ rfl
  have r8 := (R9).cell 8 _ rfl
  exact bodyPost_ret (v := .agg #[.int .i64 r0', .int .i64 fl, .int .i64 y1, .int .i64 y2, .int .i64 r4', .int .i64 r5', .int .u32 (c1.toNat : Int), .int .u32 (c2.toNat : Int), .int .u32 (car.toNat : Int)]) (by simp [results, Try.results44, go_sem, r0, r1, r2, r3, r4, r5, r6, r7, r8]) rfl ⟨rfl, low9 HWA.out hg03 _ _ _ _ _ _ _ _ _⟩
end Rel
end Go.Proofs.Ytfmmiafdlfdfoaa
