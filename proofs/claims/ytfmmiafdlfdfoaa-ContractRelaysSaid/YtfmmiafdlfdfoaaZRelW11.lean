/- The walk over overlayref17's Step at states in order. Conditions: those of the theorem. -/
import Derived.Test.YtfmmiafdlfdfoaaZRelW10
namespace Go.Proofs.Ytfmmiafdlfdfoaa
namespace Rel
open Go.RowKit
set_option maxHeartbeats 8000000 in
set_option maxRecDepth 100000 in
theorem step_any (b : BldV) (g : Nat) (cap : Nat) (k : CarV) (s : RelV) (inj : CS) (press : BitVec 32) (w : World) (hv : validN b = 0) (hc0 : b.cars[0]? = some k) (hc : CfgOk ⟨k.st, k.tr, k.dw⟩) (hf31 : b.fl ≤ 31) (h : Ok b.fl (hallC b) ⟨k.st, k.tr, k.dw⟩ s) (hlen : b.cars.length ≤ 1000) (hsl : ∀ c ∈ b.cars, -9223372036854775808 ≤ c.sl ∧ c.sl < 9223372036854775807) (hr : RdC w (some ⟨g, 0, none⟩) b.cars) :
    Calls Try.prog 28 #[cvB b (some ⟨g, 0, none⟩) cap, .int .i64 0, cvRel s, cv inj, .int .u32 (press.toNat : Int)] w fun e w' => e = .returned (cvRel (stepV b.fl (hallC b) ⟨k.st, k.tr, k.dw⟩ s inj press)) ∧ Below w.heap.size w w' := by
  rw [step_eq hc h]
  obtain ⟨hv2, hv32, _⟩ := valid_range b hv
  have hcb := hc
  obtain ⟨⟨e1, e2⟩, ⟨e3, e4⟩, e5, e6⟩ := hc
  simp only at e1 e2 e3 e4 e5 e6
  have HIS : Hid (∀ W, RdC W (some ⟨g, 0, none⟩) b.cars → Calls Try.prog 40 #[cvB b (some ⟨g, 0, none⟩) cap, cvRel s] W fun e w' => e = .returned (.bool true) ∧ Below W.heap.size W w') := Lib.hid fun W hR => isState_any b (some ⟨g, 0, none⟩) cap ⟨k.st, k.tr, k.dw⟩ s W hv ⟨by simp only; omega, by simp only; omega, by simp only; omega⟩ h hlen hsl hR
  have hwo := with_ok (inj := inj) (press := press) (hall_ok hv) h
  have hmv := h.mv; have hfl := h.fl; have hdr := h.dr; have hop := h.op; have htm := h.tm; have hst := h.st
  clear h
  obtain ⟨st, fl, dr, op, dor, tm, ⟨c1, c2⟩, car⟩ := s
  obtain ⟨i1, i2⟩ := inj
  simp only at hmv hfl hdr hop htm hst
  obtain ⟨hc1, hhc⟩ : ∃ hc, hallC b = hc := ⟨_, rfl⟩
  have HHA : Hid (∀ W, RdC W (some ⟨g, 0, none⟩) b.cars → Calls Try.prog 20 #[cvB b (some ⟨g, 0, none⟩) cap] W fun e w' => e = .returned (cv hc1) ∧ Below W.heap.size W w') := Lib.hid fun W h => by rw [← hhc]; exact refHall_any b (some ⟨g, 0, none⟩) cap W hlen hsl h
  rw [hhc]
  clear hhc hwo
  obtain ⟨bo, hbo⟩ : ∃ bo, both (i1, i2) hc1 = bo := ⟨_, rfl⟩
  have HBO : Hid (∀ W, Calls Try.prog 30 #[cv (i1, i2), cv hc1] W fun e w' => e = .returned (cv bo) ∧ Below W.heap.size W w') := Lib.hid fun W => by rw [← hbo]; exact refBoth_any (i1, i2) hc1 W
  obtain ⟨un, hun⟩ : ∃ un, union (c1, c2) bo = un := ⟨_, rfl⟩
  have HUN : Hid (∀ W, Calls Try.prog 41 #[cv (c1, c2), cv bo] W fun e w' => e = .returned (cv un) ∧ Below W.heap.size W w') := Lib.hid fun W => by rw [← hun]; exact refUnion_any (c1, c2) bo W
  have hpb := pow_bit b.fl (by omega) (by omega)
  have hsb : ((bit b.fl).toNat - 1 : Int) % 4294967296 = ((allM b.fl).toNat : Int) := sub_one (bit b.fl)
  have ha1 := and32 press (allM b.fl)
  have ho1 := or32 car (press &&& allM b.fl)
  obtain ⟨R, hR⟩ : ∃ R, tickV b.fl ⟨k.st, k.tr, k.dw⟩ (withV b.fl hc1 ⟨st, fl, dr, op, dor, tm, (c1, c2), car⟩ (i1, i2) press) = R := ⟨_, rfl⟩
  rw [hR]
  have hwe : withV b.fl hc1 ⟨st, fl, dr, op, dor, tm, (c1, c2), car⟩ (i1, i2) press = ⟨st, fl, dr, op, dor, tm, un, car ||| (press &&& allM b.fl)⟩ := by rw [← hun, ← hbo]; rfl
  rw [hwe] at hR
  clear hwe hun hbo
  obtain ⟨u1, u2⟩ := un
  generalize car ||| (press &&& allM b.fl) = cr at *
  generalize press &&& allM b.fl = pa at *
  generalize allM b.fl = am at *
  generalize bit b.fl = bn at *
  have HR0 := Lib.hid hR
  clear hR
  have HC0 := Lib.hid hc0
  have hcl : 0 < b.cars.length := (List.getElem?_eq_some_iff.1 hc0).1
  have HNN := Lib.hid (show 2 ≤ b.fl ∧ b.fl ≤ 31 from ⟨hv2, hf31⟩)
  have HFL := Lib.hid hfl; have HDR := Lib.hid hdr; have HOP := Lib.hid hop; have HMV := Lib.hid hmv
  have htm0 : 0 ≤ tm ∧ tm ≤ 1000000 := by omega
  have hfl0 : 0 ≤ b.fl := by omega
  clear hmv hfl hdr hop htm hc0 hlen hsl hcb hv e1 e2 e3 e4 e5 e6
  have X0 : Blk (w.alloc (.cells #[.int .i64 b.fl, .int .i64 b.deb, .int .i64 b.room, .int .i64 b.park, .float .f64 b.em, .float .f64 b.fu, .float .f64 b.ov, .slice (some ⟨g, 0, none⟩) b.cars.length cap] 29)) w.heap.size [.int .i64 b.fl, .int .i64 b.deb, .int .i64 b.room, .int .i64 b.park, .float .f64 b.em, .float .f64 b.fu, .float .f64 b.ov, .slice (some ⟨g, 0, none⟩) b.cars.length cap] := by
    have hx := Blk.new w [.int .i64 b.fl, .int .i64 b.deb, .int .i64 b.room, .int .i64 b.park, .float .f64 b.em, .float .f64 b.fu, .float .f64 b.ov, .slice (some ⟨g, 0, none⟩) b.cars.length cap] 29
    exact hx
  replace X0 : Blk ((w.alloc (.cells #[.int .i64 b.fl, .int .i64 b.deb, .int .i64 b.room, .int .i64 b.park, .float .f64 b.em, .float .f64 b.fu, .float .f64 b.ov, .slice (some ⟨g, 0, none⟩) b.cars.length cap] 29)).alloc (.cells #[.int .i64 st, .int .i64 fl, .int .i64 dr, .int .i64 op, .int .i64 dor, .int .i64 tm, .int .u32 (c1.toNat : Int), .int .u32 (c2.toNat : Int), .int .u32 (car.toNat : Int)] 59)) w.heap.size [.int .i64 b.fl, .int .i64 b.deb, .int .i64 b.room, .int .i64 b.park, .float .f64 b.em, .float .f64 b.fu, .float .f64 b.ov, .slice (some ⟨g, 0, none⟩) b.cars.length cap] := X0.next (below1' _ _)
  replace X0 : Blk (((w.alloc (.cells #[.int .i64 b.fl, .int .i64 b.deb, .int .i64 b.room, .int .i64 b.park, .float .f64 b.em, .float .f64 b.fu, .float .f64 b.ov, .slice (some ⟨g, 0, none⟩) b.cars.length cap] 29)).alloc (.cells #[.int .i64 st, .int .i64 fl, .int .i64 dr, .int .i64 op, .int .i64 dor, .int .i64 tm, .int .u32 (c1.toNat : Int), .int .u32 (c2.toNat : Int), .int .u32 (car.toNat : Int)] 59)).alloc (.cells #[.int .u32 (i1.toNat : Int), .int .u32 (i2.toNat : Int)] 45)) w.heap.size [.int .i64 b.fl, .int .i64 b.deb, .int .i64 b.room, .int .i64 b.park, .float .f64 b.em, .float .f64 b.fu, .float .f64 b.ov, .slice (some ⟨g, 0, none⟩) b.cars.length cap] := X0.next (below1' _ _)
  replace X0 : Blk ((((w.alloc (.cells #[.int .i64 b.fl, .int .i64 b.deb, .int .i64 b.room, .int .i64 b.park, .float .f64 b.em, .float .f64 b.fu, .float .f64 b.ov, .slice (some ⟨g, 0, none⟩) b.cars.length cap] 29)).alloc (.cells #[.int .i64 st, .int .i64 fl, .int .i64 dr, .int .i64 op, .int .i64 dor, .int .i64 tm, .int .u32 (c1.toNat : Int), .int .u32 (c2.toNat : Int), .int .u32 (car.toNat : Int)] 59)).alloc (.cells #[.int .u32 (i1.toNat : Int), .int .u32 (i2.toNat : Int)] 45)).alloc (.cells #[.int .i64 0, .int .i64 0, .int .i64 0, .int .i64 0, .int .i64 0, .int .i64 0, .int .u32 0, .int .u32 0, .int .u32 0] 59)) w.heap.size [.int .i64 b.fl, .int .i64 b.deb, .int .i64 b.room, .int .i64 b.park, .float .f64 b.em, .float .f64 b.fu, .float .f64 b.ov, .slice (some ⟨g, 0, none⟩) b.cars.length cap] := X0.next (below1' _ _)
  have X1 : Blk ((w.alloc (.cells #[.int .i64 b.fl, .int .i64 b.deb, .int .i64 b.room, .int .i64 b.park, .float .f64 b.em, .float .f64 b.fu, .float .f64 b.ov, .slice (some ⟨g, 0, none⟩) b.cars.length cap] 29)).alloc (.cells #[.int .i64 st, .int .i64 fl, .int .i64 dr, .int .i64 op, .int .i64 dor, .int .i64 tm, .int .u32 (c1.toNat : Int), .int .u32 (c2.toNat : Int), .int .u32 (car.toNat : Int)] 59)) (w.heap.size + 1) [.int .i64 st, .int .i64 fl, .int .i64 dr, .int .i64 op, .int .i64 dor, .int .i64 tm, .int .u32 (c1.toNat : Int), .int .u32 (c2.toNat : Int), .int .u32 (car.toNat : Int)] := by
    have hx := Blk.new (w.alloc (.cells #[.int .i64 b.fl, .int .i64 b.deb, .int .i64 b.room, .int .i64 b.park, .float .f64 b.em, .float .f64 b.fu, .float .f64 b.ov, .slice (some ⟨g, 0, none⟩) b.cars.length cap] 29)) [.int .i64 st, .int .i64 fl, .int .i64 dr, .int .i64 op, .int .i64 dor, .int .i64 tm, .int .u32 (c1.toNat : Int), .int .u32 (c2.toNat : Int), .int .u32 (car.toNat : Int)] 59
    rw [World.size_alloc] at hx
    exact hx
  replace X1 : Blk (((w.alloc (.cells #[.int .i64 b.fl, .int .i64 b.deb, .int .i64 b.room, .int .i64 b.park, .float .f64 b.em, .float .f64 b.fu, .float .f64 b.ov, .slice (some ⟨g, 0, none⟩) b.cars.length cap] 29)).alloc (.cells #[.int .i64 st, .int .i64 fl, .int .i64 dr, .int .i64 op, .int .i64 dor, .int .i64 tm, .int .u32 (c1.toNat : Int), .int .u32 (c2.toNat : Int), .int .u32 (car.toNat : Int)] 59)).alloc (.cells #[.int .u32 (i1.toNat : Int), .int .u32 (i2.toNat : Int)] 45)) (w.heap.size + 1) [.int .i64 st, .int .i64 fl, .int .i64 dr, .int .i64 op, .int .i64 dor, .int .i64 tm, .int .u32 (c1.toNat : Int), .int .u32 (c2.toNat : Int), .int .u32 (car.toNat : Int)] := X1.next (below1' _ _)
  replace X1 : Blk ((((w.alloc (.cells #[.int .i64 b.fl, .int .i64 b.deb, .int .i64 b.room, .int .i64 b.park, .float .f64 b.em, .float .f64 b.fu, .float .f64 b.ov, .slice (some ⟨g, 0, none⟩) b.cars.length cap] 29)).alloc (.cells #[.int .i64 st, .int .i64 fl, .int .i64 dr, .int .i64 op, .int .i64 dor, .int .i64 tm, .int .u32 (c1.toNat : Int), .int .u32 (c2.toNat : Int), .int .u32 (car.toNat : Int)] 59)).alloc (.cells #[.int .u32 (i1.toNat : Int), .int .u32 (i2.toNat : Int)] 45)).alloc (.cells #[.int .i64 0, .int .i64 0, .int .i64 0, .int .i64 0, .int .i64 0, .int .i64 0, .int .u32 0, .int .u32 0, .int .u32 0] 59)) (w.heap.size + 1) [.int .i64 st, .int .i64 fl, .int .i64 dr, .int .i64 op, .int .i64 dor, .int .i64 tm, .int .u32 (c1.toNat : Int), .int .u32 (c2.toNat : Int), .int .u32 (car.toNat : Int)] := X1.next (below1' _ _)
  have X2 : Blk (((w.alloc (.cells #[.int .i64 b.fl, .int .i64 b.deb, .int .i64 b.room, .int .i64 b.park, .float .f64 b.em, .float .f64 b.fu, .float .f64 b.ov, .slice (some ⟨g, 0, none⟩) b.cars.length cap] 29)).alloc (.cells #[.int .i64 st, .int .i64 fl, .int .i64 dr, .int .i64 op, .int .i64 dor, .int .i64 tm, .int .u32 (c1.toNat : Int), .int .u32 (c2.toNat : Int), .int .u32 (car.toNat : Int)] 59)).alloc (.cells #[.int .u32 (i1.toNat : Int), .int .u32 (i2.toNat : Int)] 45)) (w.heap.size + 1 + 1) [.int .u32 (i1.toNat : Int), .int .u32 (i2.toNat : Int)] := by
    have hx := Blk.new ((w.alloc (.cells #[.int .i64 b.fl, .int .i64 b.deb, .int .i64 b.room, .int .i64 b.park, .float .f64 b.em, .float .f64 b.fu, .float .f64 b.ov, .slice (some ⟨g, 0, none⟩) b.cars.length cap] 29)).alloc (.cells #[.int .i64 st, .int .i64 fl, .int .i64 dr, .int .i64 op, .int .i64 dor, .int .i64 tm, .int .u32 (c1.toNat : Int), .int .u32 (c2.toNat : Int), .int .u32 (car.toNat : Int)] 59)) [.int .u32 (i1.toNat : Int), .int .u32 (i2.toNat : Int)] 45
    rw [World.size_alloc, World.size_alloc] at hx
    exact hx
  replace X2 : Blk ((((w.alloc (.cells #[.int .i64 b.fl, .int .i64 b.deb, .int .i64 b.room, .int .i64 b.park, .float .f64 b.em, .float .f64 b.fu, .float .f64 b.ov, .slice (some ⟨g, 0, none⟩) b.cars.length cap] 29)).alloc (.cells #[.int .i64 st, .int .i64 fl, .int .i64 dr, .int .i64 op, .int .i64 dor, .int .i64 tm, .int .u32 (c1.toNat : Int), .int .u32 (c2.toNat : Int), .int .u32 (car.toNat : Int)] 59)).alloc (.cells #[.int .u32 (i1.toNat : Int), .int .u32 (i2.toNat : Int)] 45)).alloc (.cells #[.int .i64 0, .int .i64 0, .int .i64 0, .int .i64 0, .int .i64 0, .int .i64 0, .int .u32 0, .int .u32 0, .int .u32 0] 59)) (w.heap.size + 1 + 1) [.int .u32 (i1.toNat : Int), .int .u32 (i2.toNat : Int)] := X2.next (below1' _ _)
  have X3 : Blk ((((w.alloc (.cells #[.int .i64 b.fl, .int .i64 b.deb, .int .i64 b.room, .int .i64 b.park, .float .f64 b.em, .float .f64 b.fu, .float .f64 b.ov, .slice (some ⟨g, 0, none⟩) b.cars.length cap] 29)).alloc (.cells #[.int .i64 st, .int .i64 fl, .int .i64 dr, .int .i64 op, .int .i64 dor, .int .i64 tm, .int .u32 (c1.toNat : Int), .int .u32 (c2.toNat : Int), .int .u32 (car.toNat : Int)] 59)).alloc (.cells #[.int .u32 (i1.toNat : Int), .int .u32 (i2.toNat : Int)] 45)).alloc (.cells #[.int .i64 0, .int .i64 0, .int .i64 0, .int .i64 0, .int .i64 0, .int .i64 0, .int .u32 0, .int .u32 0, .int .u32 0] 59)) (w.heap.size + 1 + 1 + 1) [.int .i64 0, .int .i64 0, .int .i64 0, .int .i64 0, .int .i64 0, .int .i64 0, .int .u32 0, .int .u32 0, .int .u32 0] := by
    have hx := Blk.new (((w.alloc (.cells #[.int .i64 b.fl, .int .i64 b.deb, .int .i64 b.room, .int .i64 b.park, .float .f64 b.em, .float .f64 b.fu, .float .f64 b.ov, .slice (some ⟨g, 0, none⟩) b.cars.length cap] 29)).alloc (.cells #[.int .i64 st, .int .i64 fl, .int .i64 dr, .int .i64 op, .int .i64 dor, .int .i64 tm, .int .u32 (c1.toNat : Int), .int .u32 (c2.toNat : Int), .int .u32 (car.toNat : Int)] 59)).alloc (.cells #[.int .u32 (i1.toNat : Int), .int .u32 (i2.toNat : Int)] 45)) [.int .i64 0, .int .i64 0, .int .i64 0, .int .i64 0, .int .i64 0, .int .i64 0, .int .u32 0, .int .u32 0, .int .u32 0] 59
    rw [World.size_alloc, World.size_alloc, World.size_alloc] at hx
    exact hx
  have XW : Below w.heap.size w (w.alloc (.cells #[.int .i64 b.fl, .int .i64 b.deb, .int .i64 b.room, .int .i64 b.park, .float .f64 b.em, .float .f64 b.fu, .float .f64 b.ov, .slice (some ⟨g, 0, none⟩) b.cars.length cap] 29)) := below1' w _
  replace XW : Below w.heap.size w ((w.alloc (.cells #[.int .i64 b.fl, .int .i64 b.deb, .int .i64 b.room, .int .i64 b.park, .float .f64 b.em, .float .f64 b.fu, .float .f64 b.ov, .slice (some ⟨g, 0, none⟩) b.cars.length cap] 29)).alloc (.cells #[.int .i64 st, .int .i64 fl, .int .i64 dr, .int .i64 op, .int .i64 dor, .int .i64 tm, .int .u32 (c1.toNat : Int), .int .u32 (c2.toNat : Int), .int .u32 (car.toNat : Int)] 59)) := XW.trans ((below1' _ _).mono XW.size)
  replace XW : Below w.heap.size w (((w.alloc (.cells #[.int .i64 b.fl, .int .i64 b.deb, .int .i64 b.room, .int .i64 b.park, .float .f64 b.em, .float .f64 b.fu, .float .f64 b.ov, .slice (some ⟨g, 0, none⟩) b.cars.length cap] 29)).alloc (.cells #[.int .i64 st, .int .i64 fl, .int .i64 dr, .int .i64 op, .int .i64 dor, .int .i64 tm, .int .u32 (c1.toNat : Int), .int .u32 (c2.toNat : Int), .int .u32 (car.toNat : Int)] 59)).alloc (.cells #[.int .u32 (i1.toNat : Int), .int .u32 (i2.toNat : Int)] 45)) := XW.trans ((below1' _ _).mono XW.size)
  replace XW : Below w.heap.size w ((((w.alloc (.cells #[.int .i64 b.fl, .int .i64 b.deb, .int .i64 b.room, .int .i64 b.park, .float .f64 b.em, .float .f64 b.fu, .float .f64 b.ov, .slice (some ⟨g, 0, none⟩) b.cars.length cap] 29)).alloc (.cells #[.int .i64 st, .int .i64 fl, .int .i64 dr, .int .i64 op, .int .i64 dor, .int .i64 tm, .int .u32 (c1.toNat : Int), .int .u32 (c2.toNat : Int), .int .u32 (car.toNat : Int)] 59)).alloc (.cells #[.int .u32 (i1.toNat : Int), .int .u32 (i2.toNat : Int)] 45)).alloc (.cells #[.int .i64 0, .int .i64 0, .int .i64 0, .int .i64 0, .int .i64 0, .int .i64 0, .int .u32 0, .int .u32 0, .int .u32 0] 59)) := XW.trans ((below1' _ _).mono XW.size)
  have HWW := Lib.hid XW; have HX0 := Lib.hid X0; have HX1 := Lib.hid X1; have HX2 := Lib.hid X2; have HX3 := Lib.hid X3
  clear XW X0 X1 X2 X3
  have HRC := Lib.hid (hr.next HWW.out)
  clear hr
  go_enter Try.func28, Try.ntmps28
  go_upto_region 1 with fail
  generalize ((((w.alloc (.cells #[.int .i64 b.fl, .int .i64 b.deb, .int .i64 b.room, .int .i64 b.park, .float .f64 b.em, .float .f64 b.fu, .float .f64 b.ov, .slice (some ⟨g, 0, none⟩) b.cars.length cap] 29)).alloc (.cells #[.int .i64 st, .int .i64 fl, .int .i64 dr, .int .i64 op, .int .i64 dor, .int .i64 tm, .int .u32 (c1.toNat : Int), .int .u32 (c2.toNat : Int), .int .u32 (car.toNat : Int)] 59)).alloc (.cells #[.int .u32 (i1.toNat : Int), .int .u32 (i2.toNat : Int)] 45)).alloc (.cells #[.int .i64 0, .int .i64 0, .int .i64 0, .int .i64 0, .int .i64 0, .int .i64 0, .int .u32 0, .int .u32 0, .int .u32 0] 59)) = w0 at *
  generalize hg3 : w.heap.size + 1 + 1 + 1 = g3 at *
  generalize hg2 : w.heap.size + 1 + 1 = g2 at *
  generalize hg1 : w.heap.size + 1 = g1 at *
  have HG1 := Lib.hid hg1; have hq1 : w.heap.size + 1 ≤ g1 := by omega
  have HG2 := Lib.hid hg2; have hq2 : w.heap.size + 2 ≤ g2 := by omega
  have HG3 := Lib.hid hg3; have hq3 : w.heap.size + 3 ≤ g3 := by omega
  clear hg1 hg2 hg3
  have HW := Lib.hid (Below.refl w0.heap.size w0)
  have hz0 := HX0.out.lt; have hz1 := HX1.out.lt; have hz2 := HX2.out.lt; have hz3 := HX3.out.lt
  have hg01 : w.heap.size ≤ g1 := by omega
  have hg02 : w.heap.size ≤ g2 := by omega
  have hg03 : w.heap.size ≤ g3 := by omega
  have hne : g1 < g2 ∧ g2 < g3 := by have := HG2.out; have := HG3.out; omega
  have k0 := (HX0.out).cell 0 _ rfl
  have k1 := (HX0.out).cell 1 _ rfl
  have k2 := (HX0.out).cell 2 _ rfl
  have k3 := (HX0.out).cell 3 _ rfl
  have k4 := (HX0.out).cell 4 _ rfl
  have k5 := (HX0.out).cell 5 _ rfl
  have k6 := (HX0.out).cell 6 _ rfl
  have k7 := (HX0.out).cell 7 _ rfl
  have y0 := (HX1.out).cell 0 _ rfl
  have y1 := (HX1.out).cell 1 _ rfl
  have y2 := (HX1.out).cell 2 _ rfl
  have y3 := (HX1.out).cell 3 _ rfl
  have y4 := (HX1.out).cell 4 _ rfl
  have y5 := (HX1.out).cell 5 _ rfl
  have y6 := (HX1.out).cell 6 _ rfl
  have y7 := (HX1.out).cell 7 _ rfl
  have y8 := (HX1.out).cell 8 _ rfl
  obtain ⟨nc, hnc⟩ : ∃ nc, b.cars.length = nc := ⟨_, rfl⟩
  have HIS1 := HIS.out w0 HRC.out
  dsimp only [cvB] at HIS1
  have HHA1 := HHA.out
  dsimp only [cvB] at HHA1
  have HHA2 := Lib.hid HHA1; have HIS2 := Lib.hid HIS1
  clear HHA1 HIS1 HIS HHA
  rw [hnc] at hcl k7 HX0 HIS2 HHA2
  have HNC := Lib.hid hnc
  clear hnc
  have hd2 : decide ((nc : Int) ≤ 0) = false := decide_eq_false (by omega)
  have hnc0 : (0 : Int) < (nc : Int) := by omega
  go_wp2_with fail
  refine HIS2.out.mono ?_
  rintro e w1 ⟨rfl, hb⟩
  have HA1 := Lib.hid (HX0.out.next hb); have HB1 := Lib.hid (HX1.out.next hb); have HC1 := Lib.hid (HX2.out.next hb); have HD1 := Lib.hid (HX3.out.next hb); have HRC1 := Lib.hid (HRC.out.next hb); have HW1 := Lib.hid (HWW.out.trans (hb.mono HWW.out.size))
  clear hb k0 k1 k2 k3 k4 k5 k6 k7 y0 y1 y2 y3 y4 y5 y6 y7 y8 HX0 HX1 HX2 HX3 HRC HWW HW hz0 hz1 hz2 hz3 HIS2
  have hcl2 := rdC_zero HRC1.out HC0.out
  have e0 := hcl2 0 _ rfl; have e1 := hcl2 1 _ rfl; have e2 := hcl2 2 _ rfl; have e3 := hcl2 3 _ rfl; have e4 := hcl2 4 _ rfl; have e5 := hcl2 5 _ rfl; have e6 := hcl2 6 _ rfl; have e7 := hcl2 7 _ rfl; have e8 := hcl2 8 _ rfl
  clear hcl2
  have k0 := (HA1.out).cell 0 _ rfl
  have k1 := (HA1.out).cell 1 _ rfl
  have k2 := (HA1.out).cell 2 _ rfl
  have k3 := (HA1.out).cell 3 _ rfl
  have k4 := (HA1.out).cell 4 _ rfl
  have k5 := (HA1.out).cell 5 _ rfl
  have k6 := (HA1.out).cell 6 _ rfl
  have k7 := (HA1.out).cell 7 _ rfl
  go_upto_region 4 with fail
  clear e0 e1 e2 e3 e4 e5 e6 e7 e8 k0 k1 k2 k3 k4 k5 k6 k7
  have BT := Blk.new w1 [.int .i64 k.dl, .int .i64 k.pu, .int .i64 k.qu, .int .i64 k.sl, .int .i64 k.st, .int .i64 k.tr, .int .i64 k.dw, .int .i64 k.ho, .int .i64 k.hm] 40
  have hbt := below1' w1 (.cells #[.int .i64 k.dl, .int .i64 k.pu, .int .i64 k.qu, .int .i64 k.sl, .int .i64 k.st, .int .i64 k.tr, .int .i64 k.dw, .int .i64 k.ho, .int .i64 k.hm] 40)
  change Blk (w1.alloc (.cells #[.int .i64 k.dl, .int .i64 k.pu, .int .i64 k.qu, .int .i64 k.sl, .int .i64 k.st, .int .i64 k.tr, .int .i64 k.dw, .int .i64 k.ho, .int .i64 k.hm] 40)) _ _ at BT
  have HT2 := Lib.hid BT; have HA2 := Lib.hid (HA1.out.next hbt); have HB2 := Lib.hid (HB1.out.next hbt); have HC2 := Lib.hid (HC1.out.next hbt); have HD2 := Lib.hid (HD1.out.next hbt); have HRC2 := Lib.hid (HRC1.out.next hbt); have HW2 := Lib.hid (HW1.out.trans (hbt.mono HW1.out.size))
  have hl0 : w.heap.size < w1.heap.size := HA1.out.lt
  have hl3 : g3 < w1.heap.size := HD1.out.lt
  clear BT hbt HA1 HB1 HC1 HD1 HRC1 HW1
  generalize w1.alloc (.cells #[.int .i64 k.dl, .int .i64 k.pu, .int .i64 k.qu, .int .i64 k.sl, .int .i64 k.st, .int .i64 k.tr, .int .i64 k.dw, .int .i64 k.ho, .int .i64 k.hm] 40) = w2 at *
  generalize w1.heap.size = gt at *
  have k0 := (HA2.out).reg 0 _ rfl
  have k1 := (HA2.out).reg 1 _ rfl
  have k2 := (HA2.out).reg 2 _ rfl
  have k3 := (HA2.out).reg 3 _ rfl
  have k4 := (HA2.out).reg 4 _ rfl
  have k5 := (HA2.out).reg 5 _ rfl
  have k6 := (HA2.out).reg 6 _ rfl
  have k7 := (HA2.out).reg 7 _ rfl
  have y0 := (HB2.out).reg 0 _ rfl
  have y1 := (HB2.out).reg 1 _ rfl
  have y2 := (HB2.out).reg 2 _ rfl
  have y3 := (HB2.out).reg 3 _ rfl
  have y4 := (HB2.out).reg 4 _ rfl
  have y5 := (HB2.out).reg 5 _ rfl
  have y6 := (HB2.out).reg 6 _ rfl
  have y7 := (HB2.out).reg 7 _ rfl
  have y8 := (HB2.out).reg 8 _ rfl
  have z0 := (HC2.out).reg 0 _ rfl
  have z1 := (HC2.out).reg 1 _ rfl
  (refine Grow.wp_region_tail 8 Grow.noPlan Grow.noPlan_stable (by kernel_rfl) (by kernel_rfl) ?_; intro opsq Hopsq; simp only [List.take_succ_cons, List.take_zero, List.drop_succ_cons, List.drop_zero])
  repeat (first | (refine Grow.lex_move rfl ?_ rfl ?_; (· first | exact Grow.wanted_none | (rw [Hopsq.out]; rfl)); intro K hK; simp only [Grow.put_lit, Grow.setAt, Grow.eval_lit, Grow.ev]; refine hK _ _ ?_; clear hK K) | (refine Grow.lex_assign rfl ?_ rfl ?_; (· first | exact Grow.wanted_none | (rw [Hopsq.out]; rfl)); intro K hK; simp only [Grow.put_lit, Grow.setAt, Grow.eval_lit, Grow.ev]; refine hK _ _ ?_; clear hK K) | (refine Grow.lex_plain rfl rfl ?_ rfl ?_; (· first | exact Grow.wanted_none | (rw [Hopsq.out]; rfl)); apply Exists.intro; refine ⟨fun wq hCq _ => ?_, ?_⟩; (· (go_wp2_with fail; refine ⟨rfl, Below.refl _ _, ?_⟩; simp only [Grow.getD_lit, Grow.nth]; rfl)); intro K hK; simp only [Grow.put_lit, Grow.setAt]; refine hK _ _ ?_; clear hK K) | (refine Grow.lex_nilCheck rfl rfl ?_ rfl ?_; (· first | exact Grow.wanted_none | (rw [Hopsq.out]; rfl)); intro K hK; simp only [Grow.put_lit, Grow.setAt]; refine hK _ _ ?_; clear hK K) | (refine Grow.lex_skip ?_ ?_; (· (rw [Hopsq.out]; rfl)); intro K hK; simp only [Grow.put_lit, Grow.setAt]; refine hK _ _ ?_; clear hK K))
  (refine Grow.lex_call ?_ rfl ?_; (· first | exact Grow.wanted_none | (rw [Hopsq.out]; rfl)); apply Exists.intro; apply Exists.intro; refine ⟨fun wq => ?_, ?_⟩; (· (go_simp; exact ⟨rfl, rfl⟩)); apply Exists.intro; refine ⟨fun wq hCq hKq => ?_, ?_⟩; (· exact HHA2.out _ (HRC2.out.next (Grow.Cl.base hCq))); intro K hK; simp only [Grow.put_lit, Grow.setAt]; refine hK _ _ ?_; clear hK K)
  repeat (first | (refine Grow.lex_move rfl ?_ rfl ?_; (· first | exact Grow.wanted_none | (rw [Hopsq.out]; rfl)); intro K hK; simp only [Grow.put_lit, Grow.setAt, Grow.eval_lit, Grow.ev]; refine hK _ _ ?_; clear hK K) | (refine Grow.lex_assign rfl ?_ rfl ?_; (· first | exact Grow.wanted_none | (rw [Hopsq.out]; rfl)); intro K hK; simp only [Grow.put_lit, Grow.setAt, Grow.eval_lit, Grow.ev]; refine hK _ _ ?_; clear hK K) | (refine Grow.lex_plain rfl rfl ?_ rfl ?_; (· first | exact Grow.wanted_none | (rw [Hopsq.out]; rfl)); apply Exists.intro; refine ⟨fun wq hCq _ => ?_, ?_⟩; (· (go_wp2_with fail; refine ⟨rfl, Below.refl _ _, ?_⟩; simp only [Grow.getD_lit, Grow.nth]; rfl)); intro K hK; simp only [Grow.put_lit, Grow.setAt]; refine hK _ _ ?_; clear hK K) | (refine Grow.lex_nilCheck rfl rfl ?_ rfl ?_; (· first | exact Grow.wanted_none | (rw [Hopsq.out]; rfl)); intro K hK; simp only [Grow.put_lit, Grow.setAt]; refine hK _ _ ?_; clear hK K) | (refine Grow.lex_skip ?_ ?_; (· (rw [Hopsq.out]; rfl)); intro K hK; simp only [Grow.put_lit, Grow.setAt]; refine hK _ _ ?_; clear hK K))
  (refine Grow.lex_call ?_ rfl ?_; (· first | exact Grow.wanted_none | (rw [Hopsq.out]; rfl)); apply Exists.intro; apply Exists.intro; refine ⟨fun wq => ?_, ?_⟩; (· (go_simp; exact ⟨rfl, rfl⟩)); apply Exists.intro; refine ⟨fun wq hCq hKq => ?_, ?_⟩; (· exact HBO.out _); intro K hK; simp only [Grow.put_lit, Grow.setAt]; refine hK _ _ ?_; clear hK K)
  repeat (first | (refine Grow.lex_move rfl ?_ rfl ?_; (· first | exact Grow.wanted_none | (rw [Hopsq.out]; rfl)); intro K hK; simp only [Grow.put_lit, Grow.setAt, Grow.eval_lit, Grow.ev]; refine hK _ _ ?_; clear hK K) | (refine Grow.lex_assign rfl ?_ rfl ?_; (· first | exact Grow.wanted_none | (rw [Hopsq.out]; rfl)); intro K hK; simp only [Grow.put_lit, Grow.setAt, Grow.eval_lit, Grow.ev]; refine hK _ _ ?_; clear hK K) | (refine Grow.lex_plain rfl rfl ?_ rfl ?_; (· first | exact Grow.wanted_none | (rw [Hopsq.out]; rfl)); apply Exists.intro; refine ⟨fun wq hCq _ => ?_, ?_⟩; (· (go_wp2_with fail; refine ⟨rfl, Below.refl _ _, ?_⟩; simp only [Grow.getD_lit, Grow.nth]; rfl)); intro K hK; simp only [Grow.put_lit, Grow.setAt]; refine hK _ _ ?_; clear hK K) | (refine Grow.lex_nilCheck rfl rfl ?_ rfl ?_; (· first | exact Grow.wanted_none | (rw [Hopsq.out]; rfl)); intro K hK; simp only [Grow.put_lit, Grow.setAt]; refine hK _ _ ?_; clear hK K) | (refine Grow.lex_skip ?_ ?_; (· (rw [Hopsq.out]; rfl)); intro K hK; simp only [Grow.put_lit, Grow.setAt]; refine hK _ _ ?_; clear hK K))
  (refine Grow.lex_call ?_ rfl ?_; (· first | exact Grow.wanted_none | (rw [Hopsq.out]; rfl)); apply Exists.intro; apply Exists.intro; refine ⟨fun wq => ?_, ?_⟩; (· (go_simp; exact ⟨rfl, rfl⟩)); apply Exists.intro; refine ⟨fun wq hCq hKq => ?_, ?_⟩; (· exact HUN.out _); intro K hK; simp only [Grow.put_lit, Grow.setAt]; refine hK _ _ ?_; clear hK K)
  repeat (first | (refine Grow.lex_move rfl ?_ rfl ?_; (· first | exact Grow.wanted_none | (rw [Hopsq.out]; rfl)); intro K hK; simp only [Grow.put_lit, Grow.setAt, Grow.eval_lit, Grow.ev]; refine hK _ _ ?_; clear hK K) | (refine Grow.lex_assign rfl ?_ rfl ?_; (· first | exact Grow.wanted_none | (rw [Hopsq.out]; rfl)); intro K hK; simp only [Grow.put_lit, Grow.setAt, Grow.eval_lit, Grow.ev]; refine hK _ _ ?_; clear hK K) | (refine Grow.lex_plain rfl rfl ?_ rfl ?_; (· first | exact Grow.wanted_none | (rw [Hopsq.out]; rfl)); apply Exists.intro; refine ⟨fun wq hCq _ => ?_, ?_⟩; (· (go_wp2_with fail; refine ⟨rfl, Below.refl _ _, ?_⟩; simp only [Grow.getD_lit, Grow.nth]; rfl)); intro K hK; simp only [Grow.put_lit, Grow.setAt]; refine hK _ _ ?_; clear hK K) | (refine Grow.lex_nilCheck rfl rfl ?_ rfl ?_; (· first | exact Grow.wanted_none | (rw [Hopsq.out]; rfl)); intro K hK; simp only [Grow.put_lit, Grow.setAt]; refine hK _ _ ?_; clear hK K) | (refine Grow.lex_skip ?_ ?_; (· (rw [Hopsq.out]; rfl)); intro K hK; simp only [Grow.put_lit, Grow.setAt]; refine hK _ _ ?_; clear hK K))
  (refine Grow.lex_nil ?_; intro w3 hb _; replace hb := Grow.Cl.base hb; clear Hopsq opsq)
  have HT3 := Lib.hid (HT2.out.next hb); have HA3 := Lib.hid (HA2.out.next hb); have HB3 := Lib.hid (HB2.out.next hb); have HD3 := Lib.hid (HD2.out.next hb); have HW3 := Lib.hid (HW2.out.trans (hb.mono HW2.out.size))
  clear hb k0 k1 k2 k3 k4 k5 k6 k7 y0 y1 y2 y3 y4 y5 y6 y7 y8 z0 z1 HT2 HA2 HB2 HC2 HD2 HRC2 HW2
  have y6 := (HB3.out).cell 6 _ rfl
  have y7 := (HB3.out).cell 7 _ rfl
  have f6 := HB3.out.fr 6; have f7 := HB3.out.fr 7
  go_upto_region 5 with fail
  have HB4 := Lib.hid ((HB3.out.set 6 (.int .u32 (u1.toNat : Int))).set 7 (.int .u32 (u2.toNat : Int)))
  have HT4 := Lib.hid ((HT3.out.other (g := g1) (by omega) (i := 6) (.int .u32 (u1.toNat : Int))).other (g := g1) (by omega) (i := 7) (.int .u32 (u2.toNat : Int)))
  have HA4 := Lib.hid ((HA3.out.other (g := g1) (by omega) (i := 6) (.int .u32 (u1.toNat : Int))).other (g := g1) (by omega) (i := 7) (.int .u32 (u2.toNat : Int)))
  have HD4 := Lib.hid ((HD3.out.other (g := g1) (by omega) (i := 6) (.int .u32 (u1.toNat : Int))).other (g := g1) (by omega) (i := 7) (.int .u32 (u2.toNat : Int)))
  have HW4 := Lib.hid ((HW3.out.setCell (p := ⟨g1, 6, none⟩) hg01 (.int .u32 (u1.toNat : Int))).setCell (p := ⟨g1, 7, none⟩) hg01 (.int .u32 (u2.toNat : Int)))
  clear y6 y7 f6 f7 HB3 HT3 HA3 HD3 HW3
  generalize (w3.setCell ⟨g1, 6, none⟩ (.int .u32 (u1.toNat : Int))).setCell ⟨g1, 7, none⟩ (.int .u32 (u2.toNat : Int)) = w4 at *
  have HB4' : Hid (Blk w4 g1 [.int .i64 st, .int .i64 fl, .int .i64 dr, .int .i64 op, .int .i64 dor, .int .i64 tm, .int .u32 (u1.toNat : Int), .int .u32 (u2.toNat : Int), .int .u32 (car.toNat : Int)]) := HB4
  clear HB4
  have y8 := HB4'.out.cell 8 _ rfl
  have f8 := HB4'.out.fr 8
  have k0 := HA4.out.cell 0 _ rfl
  go_upto_region 6 with fail
  have HB5 := Lib.hid (HB4'.out.set 8 (.int .u32 (cr.toNat : Int)))
  have HT5 := Lib.hid (HT4.out.other (g := g1) (by omega) (i := 8) (.int .u32 (cr.toNat : Int)))
  have HA5 := Lib.hid (HA4.out.other (g := g1) (by omega) (i := 8) (.int .u32 (cr.toNat : Int)))
  have HD5 := Lib.hid (HD4.out.other (g := g1) (by omega) (i := 8) (.int .u32 (cr.toNat : Int)))
  have HW5 := Lib.hid (HW4.out.setCell (p := ⟨g1, 8, none⟩) hg01 (.int .u32 (cr.toNat : Int)))
  clear y8 f8 k0 HB4' HT4 HA4 HD4 HW4 hpb hsb ha1 ho1
  generalize w4.setCell ⟨g1, 8, none⟩ (.int .u32 (cr.toNat : Int)) = w5 at *
  have HB5' : Hid (Blk w5 g1 [.int .i64 st, .int .i64 fl, .int .i64 dr, .int .i64 op, .int .i64 dor, .int .i64 tm, .int .u32 (u1.toNat : Int), .int .u32 (u2.toNat : Int), .int .u32 (cr.toNat : Int)]) := HB5
  clear HB5
  by_cases ht : 1 < tm
  · have hdt : decide ((1 : Int) < tm) = true := decide_eq_true ht
    obtain ⟨X, hX⟩ : ∃ X, servedV ⟨st, fl, dr, op, dor, tm - 1, (u1, u2), cr⟩ = X := ⟨_, rfl⟩
    have HRX : Hid (R = X) := Lib.hid (by rw [← HR0.out, ← hX]; unfold tickV; rw [if_pos ht])
    have HSV : Hid (∀ W, Calls Try.prog 42 #[cvRel ⟨st, fl, dr, op, dor, tm - 1, (u1, u2), cr⟩] W fun e w' => e = .returned (cvRel X) ∧ Below W.heap.size W w') := Lib.hid fun W => by rw [← hX]; exact served_any _ W (by have h1 := HFL.out; have h2 := HNN.out; simp only; omega)
    clear hX HR0
    have y5 := HB5'.out.cell 5 _ rfl
    have f5 := HB5'.out.fr 5
    go_upto_region 8 with fail
    have HB6 := Lib.hid (HB5'.out.set 5 (.int .i64 (tm - 1)))
    have HD6 := Lib.hid (HD5.out.other (g := g1) (by omega) (i := 5) (.int .i64 (tm - 1)))
    have HW6 := Lib.hid (HW5.out.setCell (p := ⟨g1, 5, none⟩) hg01 (.int .i64 (tm - 1)))
    clear y5 f5 HB5' HT5 HA5 HD5 HW5
    generalize w5.setCell ⟨g1, 5, none⟩ (.int .i64 (tm - 1)) = w6 at *
    have HB6' : Hid (Blk w6 g1 [.int .i64 st, .int .i64 fl, .int .i64 dr, .int .i64 op, .int .i64 dor, .int .i64 (tm - 1), .int .u32 (u1.toNat : Int), .int .u32 (u2.toNat : Int), .int .u32 (cr.toNat : Int)]) := HB6
    clear HB6
    have y0 := (HB6'.out).cell 0 _ rfl
    have y1 := (HB6'.out).cell 1 _ rfl
    have y2 := (HB6'.out).cell 2 _ rfl
    have y3 := (HB6'.out).cell 3 _ rfl
    have y4 := (HB6'.out).cell 4 _ rfl
    have y5 := (HB6'.out).cell 5 _ rfl
    have y6 := (HB6'.out).cell 6 _ rfl
    have y7 := (HB6'.out).cell 7 _ rfl
    have y8 := (HB6'.out).cell 8 _ rfl
    go_wp2_with fail
    refine (HSV.out w6).mono ?_
    rintro e wz ⟨rfl, hbz⟩
    have HDz := Lib.hid (HD6.out.next hbz); have HWz := Lib.hid (HW6.out.trans (hbz.mono HW6.out.size))
    clear hbz
    obtain ⟨v0, v1, v2, v3, v4, v5, ⟨v6, v7⟩, v8⟩ := X
    have j0 := (HDz.out).cell 0 _ rfl
    have j1 := (HDz.out).cell 1 _ rfl
    have j2 := (HDz.out).cell 2 _ rfl
    have j3 := (HDz.out).cell 3 _ rfl
    have j4 := (HDz.out).cell 4 _ rfl
    have j5 := (HDz.out).cell 5 _ rfl
    have j6 := (HDz.out).cell 6 _ rfl
    have j7 := (HDz.out).cell 7 _ rfl
    have j8 := (HDz.out).cell 8 _ rfl
    have f0 := HDz.out.fr 0; have f1 := HDz.out.fr 1; have f2 := HDz.out.fr 2; have f3 := HDz.out.fr 3; have f4 := HDz.out.fr 4; have f5 := HDz.out.fr 5; have f6 := HDz.out.fr 6; have f7 := HDz.out.fr 7; have f8 := HDz.out.fr 8
    go_wp2_with fail
    have R9 := set9 HDz.out (.int .i64 v0) (.int .i64 v1) (.int .i64 v2) (.int .i64 v3) (.int .i64 v4) (.int .i64 v5) (.int .u32 (v6.toNat : Int)) (.int .u32 (v7.toNat : Int)) (.int .u32 (v8.toNat : Int))
    have r0 := (R9).cell 0 _ rfl
    have r1 := (R9).cell 1 _ rfl
    have r2 := (R9).cell 2 _ rfl
    have r3 := (R9).cell 3 _ rfl
    have r4 := (R9).cell 4 _ rfl
    have r5 := (R9).cell 5 _ rfl
    have r6 := (R9).cell 6 _ rfl
    have r7 := (R9).cell 7 _ rfl
    have r8 := (R9).cell 8 _ rfl
    exact bodyPost_ret (v := .agg #[.int .i64 v0, .int .i64 v1, .int .i64 v2, .int .i64 v3, .int .i64 v4, .int .i64 v5, .int .u32 (v6.toNat : Int), .int .u32 (v7.toNat : Int), .int .u32 (v8.toNat : Int)]) (by simp [results, Try.results28, go_sem, r0, r1, r2, r3, r4, r5, r6, r7, r8]) rfl ⟨by rw [HRX.out], low9 HWz.out hg03 _ _ _ _ _ _ _ _ _⟩
  have hdt : decide ((1 : Int) < tm) = false := decide_eq_false ht
  by_cases h1 : st = 1
  · subst h1
    obtain ⟨X, hX⟩ : ∃ X, decideV b.fl ⟨k.st, k.tr, k.dw⟩ ⟨1, nextF fl dr, dr, 0, dor, tm, (u1, u2), cr⟩ = X := ⟨_, rfl⟩
    have HRX : Hid (R = X) := Lib.hid (by rw [← HR0.out, ← hX]; unfold tickV; rw [if_neg ht, if_pos rfl])
    obtain ⟨_, hm1, hm2⟩ := HMV.out rfl
    have HDE : Hid (∀ W, Calls Try.prog 44 #[cvB b (some ⟨g, 0, none⟩) cap, cvCar k, cvRel ⟨1, nextF fl dr, dr, 0, dor, tm, (u1, u2), cr⟩] W fun e w' => e = .returned (cvRel X) ∧ Below W.heap.size W w') := Lib.hid fun W => by rw [← hX]; exact decide_any b (some ⟨g, 0, none⟩) cap k _ W HNN.out ⟨hm1, hm2⟩ HDR.out ⟨Int.le_refl _, by simp⟩
    have HNX : Hid (∀ W, Calls Try.prog 43 #[.int .i64 fl, .int .i64 dr] W fun e w' => e = .returned (.int .i64 (nextF fl dr)) ∧ Below W.heap.size W w') := Lib.hid fun W => next_any fl dr W (by have h1 := HFL.out; have h2 := HNN.out; omega)
    clear hX HR0
    generalize nextF fl dr = nx at *
    have HDE1 := HDE.out
    dsimp only [cvB] at HDE1
    have HDE2 := Lib.hid HDE1
    clear HDE1 HDE
    rw [HNC.out] at HDE2
    have y0 := (HB5'.out).cell 0 _ rfl
    have y1 := (HB5'.out).cell 1 _ rfl
    have y2 := (HB5'.out).cell 2 _ rfl
    have y3 := (HB5'.out).cell 3 _ rfl
    have y4 := (HB5'.out).cell 4 _ rfl
    have y5 := (HB5'.out).cell 5 _ rfl
    have y6 := (HB5'.out).cell 6 _ rfl
    have y7 := (HB5'.out).cell 7 _ rfl
    have y8 := (HB5'.out).cell 8 _ rfl
    go_wp2_with fail
    refine (HNX.out w5).mono ?_
    rintro e w6 ⟨rfl, hb⟩
    have HT6 := Lib.hid (HT5.out.next hb); have HA6 := Lib.hid (HA5.out.next hb); have HB6 := Lib.hid (HB5'.out.next hb); have HD6 := Lib.hid (HD5.out.next hb); have HW6 := Lib.hid (HW5.out.trans (hb.mono HW5.out.size))
    clear hb y0 y1 y2 y3 y4 y5 y6 y7 y8 HT5 HA5 HB5' HD5 HW5
    have y0 := (HB6.out).cell 0 _ rfl
    have y1 := (HB6.out).cell 1 _ rfl
    have y2 := (HB6.out).cell 2 _ rfl
    have y3 := (HB6.out).cell 3 _ rfl
    have f1 := HB6.out.fr 1; have f3 := HB6.out.fr 3
    go_upto_region 13 with fail
    have HB7 := Lib.hid ((HB6.out.set 1 (.int .i64 nx)).set 3 (.int .i64 0))
    have HT7 := Lib.hid ((HT6.out.other (g := g1) (by omega) (i := 1) (.int .i64 nx)).other (g := g1) (by omega) (i := 3) (.int .i64 0))
    have HA7 := Lib.hid ((HA6.out.other (g := g1) (by omega) (i := 1) (.int .i64 nx)).other (g := g1) (by omega) (i := 3) (.int .i64 0))
    have HD7 := Lib.hid ((HD6.out.other (g := g1) (by omega) (i := 1) (.int .i64 nx)).other (g := g1) (by omega) (i := 3) (.int .i64 0))
    have HW7 := Lib.hid ((HW6.out.setCell (p := ⟨g1, 1, none⟩) hg01 (.int .i64 nx)).setCell (p := ⟨g1, 3, none⟩) hg01 (.int .i64 0))
    clear y0 y1 y2 y3 f1 f3 HT6 HA6 HB6 HD6 HW6
    generalize (w6.setCell ⟨g1, 1, none⟩ (.int .i64 nx)).setCell ⟨g1, 3, none⟩ (.int .i64 0) = w7 at *
    have HB7' : Hid (Blk w7 g1 [.int .i64 1, .int .i64 nx, .int .i64 dr, .int .i64 0, .int .i64 dor, .int .i64 tm, .int .u32 (u1.toNat : Int), .int .u32 (u2.toNat : Int), .int .u32 (cr.toNat : Int)]) := HB7
    clear HB7
    have y0 := (HB7'.out).cell 0 _ rfl
    have y1 := (HB7'.out).cell 1 _ rfl
    have y2 := (HB7'.out).cell 2 _ rfl
    have y3 := (HB7'.out).cell 3 _ rfl
    have y4 := (HB7'.out).cell 4 _ rfl
    have y5 := (HB7'.out).cell 5 _ rfl
    have y6 := (HB7'.out).cell 6 _ rfl
    have y7 := (HB7'.out).cell 7 _ rfl
    have y8 := (HB7'.out).cell 8 _ rfl
    have k0 := (HA7.out).cell 0 _ rfl
    have k1 := (HA7.out).cell 1 _ rfl
    have k2 := (HA7.out).cell 2 _ rfl
    have k3 := (HA7.out).cell 3 _ rfl
    have k4 := (HA7.out).cell 4 _ rfl
    have k5 := (HA7.out).cell 5 _ rfl
    have k6 := (HA7.out).cell 6 _ rfl
    have k7 := (HA7.out).cell 7 _ rfl
    have t0 := (HT7.out).cell 0 _ rfl
    have t1 := (HT7.out).cell 1 _ rfl
    have t2 := (HT7.out).cell 2 _ rfl
    have t3 := (HT7.out).cell 3 _ rfl
    have t4 := (HT7.out).cell 4 _ rfl
    have t5 := (HT7.out).cell 5 _ rfl
    have t6 := (HT7.out).cell 6 _ rfl
    have t7 := (HT7.out).cell 7 _ rfl
    have t8 := (HT7.out).cell 8 _ rfl
    go_wp2_with fail
    refine (HDE2.out w7).mono ?_
    rintro e wz ⟨rfl, hbz⟩
    have HDz := Lib.hid (HD7.out.next hbz); have HWz := Lib.hid (HW7.out.trans (hbz.mono HW7.out.size))
    clear hbz
    obtain ⟨v0, v1, v2, v3, v4, v5, ⟨v6, v7⟩, v8⟩ := X
    have j0 := (HDz.out).cell 0 _ rfl
    have j1 := (HDz.out).cell 1 _ rfl
    have j2 := (HDz.out).cell 2 _ rfl
    have j3 := (HDz.out).cell 3 _ rfl
    have j4 := (HDz.out).cell 4 _ rfl
    have j5 := (HDz.out).cell 5 _ rfl
    have j6 := (HDz.out).cell 6 _ rfl
    have j7 := (HDz.out).cell 7 _ rfl
    have j8 := (HDz.out).cell 8 _ rfl
    have f0 := HDz.out.fr 0; have f1 := HDz.out.fr 1; have f2 := HDz.out.fr 2; have f3 := HDz.out.fr 3; have f4 := HDz.out.fr 4; have f5 := HDz.out.fr 5; have f6 := HDz.out.fr 6; have f7 := HDz.out.fr 7; have f8 := HDz.out.fr 8
    go_wp2_with fail
    have R9 := set9 HDz.out (.int .i64 v0) (.int .i64 v1) (.int .i64 v2) (.int .i64 v3) (.int .i64 v4) (.int .i64 v5) (.int .u32 (v6.toNat : Int)) (.int .u32 (v7.toNat : Int)) (.int .u32 (v8.toNat : Int))
    have r0 := (R9).cell 0 _ rfl
    have r1 := (R9).cell 1 _ rfl
    have r2 := (R9).cell 2 _ rfl
    have r3 := (R9).cell 3 _ rfl
    have r4 := (R9).cell 4 _ rfl
    have r5 := (R9).cell 5 _ rfl
    have r6 := (R9).cell 6 _ rfl
    have r7 := (R9).cell 7 _ rfl
    have r8 := (R9).cell 8 _ rfl
    exact bodyPost_ret (v := .agg #[.int .i64 v0, .int .i64 v1, .int .i64 v2, .int .i64 v3, .int .i64 v4, .int .i64 v5, .int .u32 (v6.toNat : Int), .int .u32 (v7.toNat : Int), .int .u32 (v8.toNat : Int)]) (by simp [results, Try.results28, go_sem, r0, r1, r2, r3, r4, r5, r6, r7, r8]) rfl ⟨by rw [HRX.out], low9 HWz.out hg03 _ _ _ _ _ _ _ _ _⟩
  by_cases h2 : st = 2
  · subst h2
    obtain ⟨X, hX⟩ : ∃ X, servedV ⟨3, fl, dr, op, 1, k.dw, (u1, u2), cr⟩ = X := ⟨_, rfl⟩
    have HRX : Hid (R = X) := Lib.hid (by rw [← HR0.out, ← hX]; unfold tickV; rw [if_neg ht, if_neg (by simp), if_pos rfl])
    have HSV : Hid (∀ W, Calls Try.prog 42 #[cvRel ⟨3, fl, dr, op, 1, k.dw, (u1, u2), cr⟩] W fun e w' => e = .returned (cvRel X) ∧ Below W.heap.size W w') := Lib.hid fun W => by rw [← hX]; exact served_any _ W (by have h1 := HFL.out; have h2 := HNN.out; simp only; omega)
    clear hX HR0
    have y0 := (HB5'.out).cell 0 _ rfl
    have y1 := (HB5'.out).cell 1 _ rfl
    have y2 := (HB5'.out).cell 2 _ rfl
    have y3 := (HB5'.out).cell 3 _ rfl
    have y4 := (HB5'.out).cell 4 _ rfl
    have y5 := (HB5'.out).cell 5 _ rfl
    have y6 := (HB5'.out).cell 6 _ rfl
    have y7 := (HB5'.out).cell 7 _ rfl
    have y8 := (HB5'.out).cell 8 _ rfl
    have t0 := (HT5.out).cell 0 _ rfl
    have t1 := (HT5.out).cell 1 _ rfl
    have t2 := (HT5.out).cell 2 _ rfl
    have t3 := (HT5.out).cell 3 _ rfl
    have t4 := (HT5.out).cell 4 _ rfl
    have t5 := (HT5.out).cell 5 _ rfl
    have t6 := (HT5.out).cell 6 _ rfl
    have t7 := (HT5.out).cell 7 _ rfl
    have t8 := (HT5.out).cell 8 _ rfl
    have f0 := HB5'.out.fr 0; have f4 := HB5'.out.fr 4; have f5 := HB5'.out.fr 5
    have hgt1 : gt ≠ g1 := by omega
    go_upto_region 15 with fail
    go_region
    go_upto_region 18 with fail
    have hbd := drewB2 (((w5.setCell ⟨g1, 0, none⟩ (.int .i64 3)).setCell ⟨g1, 4, none⟩ (.int .i64 1)).setCell ⟨g1, 5, none⟩ (.int .i64 k.dw))
    have HB6 := Lib.hid ((((HB5'.out.set 0 (.int .i64 3)).set 4 (.int .i64 1)).set 5 (.int .i64 k.dw)).next hbd)
    have HD6 := Lib.hid ((((HD5.out.other (g := g1) (by omega) (i := 0) (.int .i64 3)).other (g := g1) (by omega) (i := 4) (.int .i64 1)).other (g := g1) (by omega) (i := 5) (.int .i64 k.dw)).next hbd)
    have hW6 := (((HW5.out.setCell (p := ⟨g1, 0, none⟩) hg01 (.int .i64 3)).setCell (p := ⟨g1, 4, none⟩) hg01 (.int .i64 1)).setCell (p := ⟨g1, 5, none⟩) hg01 (.int .i64 k.dw))
    have HW6 := Lib.hid (hW6.trans (hbd.mono hW6.size))
    clear hbd hW6 y0 y1 y2 y3 y4 y5 y6 y7 y8 t0 t1 t2 t3 t4 t5 t6 t7 t8 f0 f4 f5 HB5' HT5 HA5 HD5 HW5
    generalize (((w5.setCell ⟨g1, 0, none⟩ (.int .i64 3)).setCell ⟨g1, 4, none⟩ (.int .i64 1)).setCell ⟨g1, 5, none⟩ (.int .i64 k.dw)).drew = w6 at *
    have HB6' : Hid (Blk w6 g1 [.int .i64 3, .int .i64 fl, .int .i64 dr, .int .i64 op, .int .i64 1, .int .i64 k.dw, .int .u32 (u1.toNat : Int), .int .u32 (u2.toNat : Int), .int .u32 (cr.toNat : Int)]) := HB6
    clear HB6
    have y0 := (HB6'.out).cell 0 _ rfl
    have y1 := (HB6'.out).cell 1 _ rfl
    have y2 := (HB6'.out).cell 2 _ rfl
    have y3 := (HB6'.out).cell 3 _ rfl
    have y4 := (HB6'.out).cell 4 _ rfl
    have y5 := (HB6'.out).cell 5 _ rfl
    have y6 := (HB6'.out).cell 6 _ rfl
    have y7 := (HB6'.out).cell 7 _ rfl
    have y8 := (HB6'.out).cell 8 _ rfl
    go_wp2_with fail
    refine (HSV.out w6).mono ?_
    rintro e wz ⟨rfl, hbz⟩
    have HDz := Lib.hid (HD6.out.next hbz); have HWz := Lib.hid (HW6.out.trans (hbz.mono HW6.out.size))
    clear hbz
    obtain ⟨v0, v1, v2, v3, v4, v5, ⟨v6, v7⟩, v8⟩ := X
    have j0 := (HDz.out).cell 0 _ rfl
    have j1 := (HDz.out).cell 1 _ rfl
    have j2 := (HDz.out).cell 2 _ rfl
    have j3 := (HDz.out).cell 3 _ rfl
    have j4 := (HDz.out).cell 4 _ rfl
    have j5 := (HDz.out).cell 5 _ rfl
    have j6 := (HDz.out).cell 6 _ rfl
    have j7 := (HDz.out).cell 7 _ rfl
    have j8 := (HDz.out).cell 8 _ rfl
    have f0 := HDz.out.fr 0; have f1 := HDz.out.fr 1; have f2 := HDz.out.fr 2; have f3 := HDz.out.fr 3; have f4 := HDz.out.fr 4; have f5 := HDz.out.fr 5; have f6 := HDz.out.fr 6; have f7 := HDz.out.fr 7; have f8 := HDz.out.fr 8
    go_wp2_with fail
    have R9 := set9 HDz.out (.int .i64 v0) (.int .i64 v1) (.int .i64 v2) (.int .i64 v3) (.int .i64 v4) (.int .i64 v5) (.int .u32 (v6.toNat : Int)) (.int .u32 (v7.toNat : Int)) (.int .u32 (v8.toNat : Int))
    have r0 := (R9).cell 0 _ rfl
    have r1 := (R9).cell 1 _ rfl
    have r2 := (R9).cell 2 _ rfl
    have r3 := (R9).cell 3 _ rfl
    have r4 := (R9).cell 4 _ rfl
    have r5 := (R9).cell 5 _ rfl
    have r6 := (R9).cell 6 _ rfl
    have r7 := (R9).cell 7 _ rfl
    have r8 := (R9).cell 8 _ rfl
    exact bodyPost_ret (v := .agg #[.int .i64 v0, .int .i64 v1, .int .i64 v2, .int .i64 v3, .int .i64 v4, .int .i64 v5, .int .u32 (v6.toNat : Int), .int .u32 (v7.toNat : Int), .int .u32 (v8.toNat : Int)]) (by simp [results, Try.results28, go_sem, r0, r1, r2, r3, r4, r5, r6, r7, r8]) rfl ⟨by rw [HRX.out], low9 HWz.out hg03 _ _ _ _ _ _ _ _ _⟩
  by_cases h3 : st = 3
  · subst h3
    obtain ⟨X, hX⟩ : ∃ X, servedV ⟨4, fl, dr, op, 0, k.tr, (u1, u2), cr⟩ = X := ⟨_, rfl⟩
    have HRX : Hid (R = X) := Lib.hid (by rw [← HR0.out, ← hX]; unfold tickV; rw [if_neg ht, if_neg (by simp), if_neg (by simp), if_pos rfl])
    have HSV : Hid (∀ W, Calls Try.prog 42 #[cvRel ⟨4, fl, dr, op, 0, k.tr, (u1, u2), cr⟩] W fun e w' => e = .returned (cvRel X) ∧ Below W.heap.size W w') := Lib.hid fun W => by rw [← hX]; exact served_any _ W (by have h1 := HFL.out; have h2 := HNN.out; simp only; omega)
    clear hX HR0
    have y0 := (HB5'.out).cell 0 _ rfl
    have y1 := (HB5'.out).cell 1 _ rfl
    have y2 := (HB5'.out).cell 2 _ rfl
    have y3 := (HB5'.out).cell 3 _ rfl
    have y4 := (HB5'.out).cell 4 _ rfl
    have y5 := (HB5'.out).cell 5 _ rfl
    have y6 := (HB5'.out).cell 6 _ rfl
    have y7 := (HB5'.out).cell 7 _ rfl
    have y8 := (HB5'.out).cell 8 _ rfl
    have t0 := (HT5.out).cell 0 _ rfl
    have t1 := (HT5.out).cell 1 _ rfl
    have t2 := (HT5.out).cell 2 _ rfl
    have t3 := (HT5.out).cell 3 _ rfl
    have t4 := (HT5.out).cell 4 _ rfl
    have t5 := (HT5.out).cell 5 _ rfl
    have t6 := (HT5.out).cell 6 _ rfl
    have t7 := (HT5.out).cell 7 _ rfl
    have t8 := (HT5.out).cell 8 _ rfl
    have f0 := HB5'.out.fr 0; have f4 := HB5'.out.fr 4; have f5 := HB5'.out.fr 5
    have hgt1 : gt ≠ g1 := by omega
    go_upto_region 17 with fail
    go_region
    go_upto_region 18 with fail
    have hbd := drewB2 (((w5.setCell ⟨g1, 0, none⟩ (.int .i64 4)).setCell ⟨g1, 4, none⟩ (.int .i64 0)).setCell ⟨g1, 5, none⟩ (.int .i64 k.tr))
    have HB6 := Lib.hid ((((HB5'.out.set 0 (.int .i64 4)).set 4 (.int .i64 0)).set 5 (.int .i64 k.tr)).next hbd)
    have HD6 := Lib.hid ((((HD5.out.other (g := g1) (by omega) (i := 0) (.int .i64 4)).other (g := g1) (by omega) (i := 4) (.int .i64 0)).other (g := g1) (by omega) (i := 5) (.int .i64 k.tr)).next hbd)
    have hW6 := (((HW5.out.setCell (p := ⟨g1, 0, none⟩) hg01 (.int .i64 4)).setCell (p := ⟨g1, 4, none⟩) hg01 (.int .i64 0)).setCell (p := ⟨g1, 5, none⟩) hg01 (.int .i64 k.tr))
    have HW6 := Lib.hid (hW6.trans (hbd.mono hW6.size))
    clear hbd hW6 y0 y1 y2 y3 y4 y5 y6 y7 y8 t0 t1 t2 t3 t4 t5 t6 t7 t8 f0 f4 f5 HB5' HT5 HA5 HD5 HW5
    generalize (((w5.setCell ⟨g1, 0, none⟩ (.int .i64 4)).setCell ⟨g1, 4, none⟩ (.int .i64 0)).setCell ⟨g1, 5, none⟩ (.int .i64 k.tr)).drew = w6 at *
    have HB6' : Hid (Blk w6 g1 [.int .i64 4, .int .i64 fl, .int .i64 dr, .int .i64 op, .int .i64 0, .int .i64 k.tr, .int .u32 (u1.toNat : Int), .int .u32 (u2.toNat : Int), .int .u32 (cr.toNat : Int)]) := HB6
    clear HB6
    have y0 := (HB6'.out).cell 0 _ rfl
    have y1 := (HB6'.out).cell 1 _ rfl
    have y2 := (HB6'.out).cell 2 _ rfl
    have y3 := (HB6'.out).cell 3 _ rfl
    have y4 := (HB6'.out).cell 4 _ rfl
    have y5 := (HB6'.out).cell 5 _ rfl
    have y6 := (HB6'.out).cell 6 _ rfl
    have y7 := (HB6'.out).cell 7 _ rfl
    have y8 := (HB6'.out).cell 8 _ rfl
    go_wp2_with fail
    refine (HSV.out w6).mono ?_
    rintro e wz ⟨rfl, hbz⟩
    have HDz := Lib.hid (HD6.out.next hbz); have HWz := Lib.hid (HW6.out.trans (hbz.mono HW6.out.size))
    clear hbz
    obtain ⟨v0, v1, v2, v3, v4, v5, ⟨v6, v7⟩, v8⟩ := X
    have j0 := (HDz.out).cell 0 _ rfl
    have j1 := (HDz.out).cell 1 _ rfl
    have j2 := (HDz.out).cell 2 _ rfl
    have j3 := (HDz.out).cell 3 _ rfl
    have j4 := (HDz.out).cell 4 _ rfl
    have j5 := (HDz.out).cell 5 _ rfl
    have j6 := (HDz.out).cell 6 _ rfl
    have j7 := (HDz.out).cell 7 _ rfl
    have j8 := (HDz.out).cell 8 _ rfl
    have f0 := HDz.out.fr 0; have f1 := HDz.out.fr 1; have f2 := HDz.out.fr 2; have f3 := HDz.out.fr 3; have f4 := HDz.out.fr 4; have f5 := HDz.out.fr 5; have f6 := HDz.out.fr 6; have f7 := HDz.out.fr 7; have f8 := HDz.out.fr 8
    go_wp2_with fail
    have R9 := set9 HDz.out (.int .i64 v0) (.int .i64 v1) (.int .i64 v2) (.int .i64 v3) (.int .i64 v4) (.int .i64 v5) (.int .u32 (v6.toNat : Int)) (.int .u32 (v7.toNat : Int)) (.int .u32 (v8.toNat : Int))
    have r0 := (R9).cell 0 _ rfl
    have r1 := (R9).cell 1 _ rfl
    have r2 := (R9).cell 2 _ rfl
    have r3 := (R9).cell 3 _ rfl
    have r4 := (R9).cell 4 _ rfl
    have r5 := (R9).cell 5 _ rfl
    have r6 := (R9).cell 6 _ rfl
    have r7 := (R9).cell 7 _ rfl
    have r8 := (R9).cell 8 _ rfl
    exact bodyPost_ret (v := .agg #[.int .i64 v0, .int .i64 v1, .int .i64 v2, .int .i64 v3, .int .i64 v4, .int .i64 v5, .int .u32 (v6.toNat : Int), .int .u32 (v7.toNat : Int), .int .u32 (v8.toNat : Int)]) (by simp [results, Try.results28, go_sem, r0, r1, r2, r3, r4, r5, r6, r7, r8]) rfl ⟨by rw [HRX.out], low9 HWz.out hg03 _ _ _ _ _ _ _ _ _⟩
  obtain ⟨X, hX⟩ : ∃ X, decideV b.fl ⟨k.st, k.tr, k.dw⟩ ⟨st, fl, dr, op, dor, tm, (u1, u2), cr⟩ = X := ⟨_, rfl⟩
  have HRX : Hid (R = X) := Lib.hid (by rw [← HR0.out, ← hX]; unfold tickV; rw [if_neg ht, if_neg h1, if_neg h2, if_neg h3])
  have HDE : Hid (∀ W, Calls Try.prog 44 #[cvB b (some ⟨g, 0, none⟩) cap, cvCar k, cvRel ⟨st, fl, dr, op, dor, tm, (u1, u2), cr⟩] W fun e w' => e = .returned (cvRel X) ∧ Below W.heap.size W w') := Lib.hid fun W => by rw [← hX]; exact decide_any b (some ⟨g, 0, none⟩) cap k _ W HNN.out HFL.out HDR.out HOP.out
  clear hX HR0
  have HDE1 := HDE.out
  dsimp only [cvB] at HDE1
  have HDE2 := Lib.hid HDE1
  clear HDE1 HDE
  rw [HNC.out] at HDE2
  have b1 : (st == 1) = false := by simpa using h1
  have b2 : (st == 2) = false := by simpa using h2
  have b3 : (st == 3) = false := by simpa using h3
  clear h1 h2 h3
  have y0 := (HB5'.out).cell 0 _ rfl
  have y1 := (HB5'.out).cell 1 _ rfl
  have y2 := (HB5'.out).cell 2 _ rfl
  have y3 := (HB5'.out).cell 3 _ rfl
  have y4 := (HB5'.out).cell 4 _ rfl
  have y5 := (HB5'.out).cell 5 _ rfl
  have y6 := (HB5'.out).cell 6 _ rfl
  have y7 := (HB5'.out).cell 7 _ rfl
  have y8 := (HB5'.out).cell 8 _ rfl
  have k0 := (HA5.out).cell 0 _ rfl
  have k1 := (HA5.out).cell 1 _ rfl
  have k2 := (HA5.out).cell 2 _ rfl
  have k3 := (HA5.out).cell 3 _ rfl
  have k4 := (HA5.out).cell 4 _ rfl
  have k5 := (HA5.out).cell 5 _ rfl
  have k6 := (HA5.out).cell 6 _ rfl
  have k7 := (HA5.out).cell 7 _ rfl
  have t0 := (HT5.out).cell 0 _ rfl
  have t1 := (HT5.out).cell 1 _ rfl
  have t2 := (HT5.out).cell 2 _ rfl
  have t3 := (HT5.out).cell 3 _ rfl
  have t4 := (HT5.out).cell 4 _ rfl
  have t5 := (HT5.out).cell 5 _ rfl
  have t6 := (HT5.out).cell 6 _ rfl
  have t7 := (HT5.out).cell 7 _ rfl
  have t8 := (HT5.out).cell 8 _ rfl
  go_wp2_with fail
  refine (HDE2.out w5).mono ?_
  rintro e wz ⟨rfl, hbz⟩
  have HDz := Lib.hid (HD5.out.next hbz); have HWz := Lib.hid (HW5.out.trans (hbz.mono HW5.out.size))
  clear hbz
  obtain ⟨v0, v1, v2, v3, v4, v5, ⟨v6, v7⟩, v8⟩ := X
  have j0 := (HDz.out).cell 0 _ rfl
  have j1 := (HDz.out).cell 1 _ rfl
  have j2 := (HDz.out).cell 2 _ rfl
  have j3 := (HDz.out).cell 3 _ rfl
  have j4 := (HDz.out).cell 4 _ rfl
  have j5 := (HDz.out).cell 5 _ rfl
  have j6 := (HDz.out).cell 6 _ rfl
  have j7 := (HDz.out).cell 7 _ rfl
  have j8 := (HDz.out).cell 8 _ rfl
  have f0 := HDz.out.fr 0; have f1 := HDz.out.fr 1; have f2 := HDz.out.fr 2; have f3 := HDz.out.fr 3; have f4 := HDz.out.fr 4; have f5 := HDz.out.fr 5; have f6 := HDz.out.fr 6; have f7 := HDz.out.fr 7; have f8 := HDz.out.fr 8
  go_wp2_with fail
  have R9 := set9 HDz.out (.int .i64 v0) (.int .i64 v1) (.int .i64 v2) (.int .i64 v3) (.int .i64 v4) (.int .i64 v5) (.int .u32 (v6.toNat : Int)) (.int .u32 (v7.toNat : Int)) (.int .u32 (v8.toNat : Int))
  have r0 := (R9).cell 0 _ rfl
  have r1 := (R9).cell 1 _ rfl
  have r2 := (R9).cell 2 _ rfl
  have r3 := (R9).cell 3 _ rfl
  have r4 := (R9).cell 4 _ rfl
  have r5 := (R9).cell 5 _ rfl
  have r6 := (R9).cell 6 _ rfl
  have r7 := (R9).cell 7 _ rfl
  have r8 := (R9).cell 8 _ rfl
  exact bodyPost_ret (v := .agg #[.int .i64 v0, .int .i64 v1, .int .i64 v2, .int .i64 v3, .int .i64 v4, .int .i64 v5, .int .u32 (v6.toNat : Int), .int .u32 (v7.toNat : Int), .int .u32 (v8.toNat : Int)]) (by simp [results, Try.results28, go_sem, r0, r1, r2, r3, r4, r5, r6, r7, r8]) rfl ⟨by rw [HRX.out], low9 HWz.out hg03 _ _ _ _ _ _ _ _ _⟩
end Rel
end Go.Proofs.Ytfmmiafdlfdfoaa
