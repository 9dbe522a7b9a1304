/- The walk over overlayref01.Hall. Conditions: cars that can be read; slack times that are no more than the greatest number less one. -/
import Derived.Test.YtpgcpalemnnbaaaZObs
import Derived.Test.YtpgcpalemnnbaaaZValid18
namespace Go.Proofs.Ytpgcpalemnnbaaa
open Go.RowKit
theorem base_cellG {G : Nat} {W w1 : World} (hb : Below G W w1) : ∀ b o, b < G → w1.cell? ⟨b, o, none⟩ = W.cell? ⟨b, o, none⟩ := fun b o h => hb.cell (p := ⟨b, o, none⟩) h
/-- The calls of a direction below floor k, as bits. -/
def hUp (b : BldV) (d : Int) : Nat → BitVec 32
  | 0 => 0#32
  | k + 1 => if callB b k d then hUp b d k ||| bit k else hUp b d k
def hallC (b : BldV) : CS := (hUp b 1 32, hUp b 2 32)
theorem pow_nat (k : Nat) (h : k < 32) : (2 : Int) ^ k % 4294967296 = ((bit k).toNat : Int) := by
  have := pow_bit (k : Int) (by omega) (by omega)
  simpa using this
set_option maxHeartbeats 4000000 in
theorem refHall_any (b : BldV) (q : Option Addr) (cap : Nat) (w : World) (hlen : b.cars.length ≤ 1000) (hsl : ∀ c ∈ b.cars, -9223372036854775808 ≤ c.sl ∧ c.sl < 9223372036854775807) (hr : RdC w q b.cars) :
    Calls Try.prog 53 #[cvB b q cap] w fun e w' => e = .returned (cv (hallC b)) ∧ Below w.heap.size w w' := by
  have X0 : Blk (w.alloc (.cells #[.int .i64 b.fl, .int .i64 b.deb, .int .i64 b.room, .int .i64 b.park, .float .f64 b.em, .float .f64 b.fu, .float .f64 b.ov, .slice q b.cars.length cap] 28)) w.heap.size [.int .i64 b.fl, .int .i64 b.deb, .int .i64 b.room, .int .i64 b.park, .float .f64 b.em, .float .f64 b.fu, .float .f64 b.ov, .slice q b.cars.length cap] := by
    have hx := Blk.new w [.int .i64 b.fl, .int .i64 b.deb, .int .i64 b.room, .int .i64 b.park, .float .f64 b.em, .float .f64 b.fu, .float .f64 b.ov, .slice q b.cars.length cap] 28
    exact hx
  replace X0 : Blk ((w.alloc (.cells #[.int .i64 b.fl, .int .i64 b.deb, .int .i64 b.room, .int .i64 b.park, .float .f64 b.em, .float .f64 b.fu, .float .f64 b.ov, .slice q b.cars.length cap] 28)).alloc (.cells #[.int .u32 0, .int .u32 0] 33)) w.heap.size [.int .i64 b.fl, .int .i64 b.deb, .int .i64 b.room, .int .i64 b.park, .float .f64 b.em, .float .f64 b.fu, .float .f64 b.ov, .slice q b.cars.length cap] := X0.next (below1' _ _)
  replace X0 : Blk (((w.alloc (.cells #[.int .i64 b.fl, .int .i64 b.deb, .int .i64 b.room, .int .i64 b.park, .float .f64 b.em, .float .f64 b.fu, .float .f64 b.ov, .slice q b.cars.length cap] 28)).alloc (.cells #[.int .u32 0, .int .u32 0] 33)).alloc (.cells #[.int .u32 0, .int .u32 0] 33)) w.heap.size [.int .i64 b.fl, .int .i64 b.deb, .int .i64 b.room, .int .i64 b.park, .float .f64 b.em, .float .f64 b.fu, .float .f64 b.ov, .slice q b.cars.length cap] := X0.next (below1' _ _)
  have X1 : Blk ((w.alloc (.cells #[.int .i64 b.fl, .int .i64 b.deb, .int .i64 b.room, .int .i64 b.park, .float .f64 b.em, .float .f64 b.fu, .float .f64 b.ov, .slice q b.cars.length cap] 28)).alloc (.cells #[.int .u32 0, .int .u32 0] 33)) (w.heap.size + 1) [.int .u32 0, .int .u32 0] := by
    have hx := Blk.new (w.alloc (.cells #[.int .i64 b.fl, .int .i64 b.deb, .int .i64 b.room, .int .i64 b.park, .float .f64 b.em, .float .f64 b.fu, .float .f64 b.ov, .slice q b.cars.length cap] 28)) [.int .u32 0, .int .u32 0] 33
    rw [World.size_alloc] at hx
    exact hx
  replace X1 : Blk (((w.alloc (.cells #[.int .i64 b.fl, .int .i64 b.deb, .int .i64 b.room, .int .i64 b.park, .float .f64 b.em, .float .f64 b.fu, .float .f64 b.ov, .slice q b.cars.length cap] 28)).alloc (.cells #[.int .u32 0, .int .u32 0] 33)).alloc (.cells #[.int .u32 0, .int .u32 0] 33)) (w.heap.size + 1) [.int .u32 0, .int .u32 0] := X1.next (below1' _ _)
  have X2 : Blk (((w.alloc (.cells #[.int .i64 b.fl, .int .i64 b.deb, .int .i64 b.room, .int .i64 b.park, .float .f64 b.em, .float .f64 b.fu, .float .f64 b.ov, .slice q b.cars.length cap] 28)).alloc (.cells #[.int .u32 0, .int .u32 0] 33)).alloc (.cells #[.int .u32 0, .int .u32 0] 33)) (w.heap.size + 1 + 1) [.int .u32 0, .int .u32 0] := by
    have hx := Blk.new ((w.alloc (.cells #[.int .i64 b.fl, .int .i64 b.deb, .int .i64 b.room, .int .i64 b.park, .float .f64 b.em, .float .f64 b.fu, .float .f64 b.ov, .slice q b.cars.length cap] 28)).alloc (.cells #[.int .u32 0, .int .u32 0] 33)) [.int .u32 0, .int .u32 0] 33
    rw [World.size_alloc, World.size_alloc] at hx
    exact hx
  have XW : Below w.heap.size w (w.alloc (.cells #[.int .i64 b.fl, .int .i64 b.deb, .int .i64 b.room, .int .i64 b.park, .float .f64 b.em, .float .f64 b.fu, .float .f64 b.ov, .slice q b.cars.length cap] 28)) := below1' w _
  replace XW : Below w.heap.size w ((w.alloc (.cells #[.int .i64 b.fl, .int .i64 b.deb, .int .i64 b.room, .int .i64 b.park, .float .f64 b.em, .float .f64 b.fu, .float .f64 b.ov, .slice q b.cars.length cap] 28)).alloc (.cells #[.int .u32 0, .int .u32 0] 33)) := XW.trans ((below1' _ _).mono XW.size)
  replace XW : Below w.heap.size w (((w.alloc (.cells #[.int .i64 b.fl, .int .i64 b.deb, .int .i64 b.room, .int .i64 b.park, .float .f64 b.em, .float .f64 b.fu, .float .f64 b.ov, .slice q b.cars.length cap] 28)).alloc (.cells #[.int .u32 0, .int .u32 0] 33)).alloc (.cells #[.int .u32 0, .int .u32 0] 33)) := XW.trans ((below1' _ _).mono XW.size)
  have HWW := Lib.hid XW; have HX0 := Lib.hid X0; have HX1 := Lib.hid X1; have HX2 := Lib.hid X2
  clear XW X0 X1 X2
  have HR := Lib.hid hr
  have HSL := Lib.hid hsl
  have HL := Lib.hid (show b.cars.length ≤ maxLen by unfold maxLen; omega)
  clear hr hsl hlen
  go_enter Try.func53, Try.ntmps53
  go_upto_region 2 with fail
  generalize (((w.alloc (.cells #[.int .i64 b.fl, .int .i64 b.deb, .int .i64 b.room, .int .i64 b.park, .float .f64 b.em, .float .f64 b.fu, .float .f64 b.ov, .slice q b.cars.length cap] 28)).alloc (.cells #[.int .u32 0, .int .u32 0] 33)).alloc (.cells #[.int .u32 0, .int .u32 0] 33)) = w0 at *
  generalize hg2 : w.heap.size + 1 + 1 = g2 at *
  generalize hg1 : w.heap.size + 1 = g1 at *
  have HG1 := Lib.hid hg1; have hq1 : w.heap.size + 1 ≤ g1 := by omega
  have HG2 := Lib.hid hg2; have hq2 : w.heap.size + 2 ≤ g2 := by omega
  clear hg1 hg2
  have HW := Lib.hid (Below.refl w0.heap.size w0)
  have hz0 := HX0.out.lt; have hz1 := HX1.out.lt; have hz2 := HX2.out.lt
  have k0 := (HX0.out).cell 0 _ rfl
  have k1 := (HX0.out).cell 1 _ rfl
  have k2 := (HX0.out).cell 2 _ rfl
  have k3 := (HX0.out).cell 3 _ rfl
  have k4 := (HX0.out).cell 4 _ rfl
  have k5 := (HX0.out).cell 5 _ rfl
  have k6 := (HX0.out).cell 6 _ rfl
  have k7 := (HX0.out).cell 7 _ rfl
  have hl1 : w.heap.size < g2 := by omega
  have hl2 : g1 < g2 := by have := HG2.out; omega
  have hG : g2 ≤ w0.heap.size := by omega
  clear hz0 hz1 hq1 hq2
  go_wp2_with fail
  go_loopw [4] (fun v wr => ∃ k : Nat, k ≤ 32 ∧ v = .int .i64 k ∧ Blk wr g2 [.int .u32 ((hUp b 1 k).toNat : Int), .int .u32 ((hUp b 2 k).toNat : Int)] ∧ Below g2 w0 wr) (fun v _ => 32 - (intOf v).toNat)
  case atStart => exact ⟨0, by omega, rfl, HX2.out, Below.refl _ _⟩
  case round =>
    clear HW
    obtain ⟨k, hk, rfl, BC, hb⟩ := hrel
    have HW := Lib.hid hb
    have HC := Lib.hid BC
    have c0 := base_cellG HW.out
    clear hb BC
    have hrw : ∀ W, Below g2 w0 W → RdC W q b.cars := fun W h => HR.out.next (HWW.out.trans (h.mono (by omega)))
    have HRW := Lib.hid hrw
    clear hrw
    by_cases hlt : k < 32
    · have hd : decide ((k : Int) < 32) = true := by simp; omega
      have hk0 : (0 : Int) ≤ (k : Int) := by omega
      have hk1 : (k : Int) < 32 := by omega
      have HP := Lib.hid (pow_nat k hlt)
      have HU : Hid (hUp b 1 (k + 1) = if callB b k 1 then hUp b 1 k ||| bit k else hUp b 1 k) := Lib.hid rfl
      have HV : Hid (hUp b 2 (k + 1) = if callB b k 2 then hUp b 2 k ||| bit k else hUp b 2 k) := Lib.hid rfl
      generalize hx : hUp b 1 k = x at *
      generalize hy : hUp b 2 k = y at *
      generalize hx1 : hUp b 1 (k + 1) = x1 at *
      generalize hy1 : hUp b 2 (k + 1) = y1 at *
      have HXE := Lib.hid hx1; have HYE := Lib.hid hy1
      clear hx hy hx1 hy1
      go_wp2_with fail
      refine (refIsCall_any b q cap (k : Int) 1 _ HL.out HSL.out (HRW.out _ HW.out)).mono ?_
      rintro e w1 ⟨rfl, hbn⟩
      have HWn := Lib.hid (HW.out.trans (hbn.mono (Nat.le_trans hG HW.out.size)))
      have HCn := Lib.hid (HC.out.next hbn)
      clear HC
      have HC := HCn
      clear HCn
      try clear c0
      clear HW hbn
      have HW := HWn
      clear HWn
      have c0 := base_cellG HW.out
      go_upto_if 11 with fail
      go_cut [] from 9 to 18 (fun wx => Blk wx g2 [.int .u32 (x1.toNat : Int), .int .u32 (y.toNat : Int)] ∧ Below g2 w0 wx)
      case first =>
        cases e1 : callB b k 1
        · have E1 := Lib.hid e1
          clear e1
          go_wp2_with fail
          go_meet
          exact ⟨by rw [HU.out, E1.out]; exact HC.out, HW.out⟩
        · have E1 := Lib.hid e1
          have BC := HC.out
          have s0 := (BC).cell 0 _ rfl
          have s1 := (BC).cell 1 _ rfl
          have f0 := BC.fr 0
          clear e1 BC
          go_wp2_with fail
          simp only [HP.out, or32]
          go_meet
          refine ⟨?_, HW.out.setCell (p := ⟨g2, 0, none⟩) (Nat.le_refl _) _⟩
          rw [HU.out, E1.out]
          exact HC.out.set 0 _
      case rest =>
        obtain ⟨BC, hb⟩ := hcut
        clear HW HC c0
        have HW := Lib.hid hb
        have HC := Lib.hid BC
        have c0 := base_cellG HW.out
        clear hb BC
        go_wp2_with fail
        refine (refIsCall_any b q cap (k : Int) 2 _ HL.out HSL.out (HRW.out _ HW.out)).mono ?_
        rintro e w2 ⟨rfl, hbn⟩
        have HWn := Lib.hid (HW.out.trans (hbn.mono (Nat.le_trans hG HW.out.size)))
        have HCn := Lib.hid (HC.out.next hbn)
        clear HC
        have HC := HCn
        clear HCn
        try clear c0
        clear HW hbn
        have HW := HWn
        clear HWn
        have c0 := base_cellG HW.out
        cases e1 : callB b k 2
        · have E1 := Lib.hid e1
          clear e1
          go_wp2_with fail
          exact ⟨⟨k + 1, by omega, by go_num, by have h := HC.out; have h2 := HV.out; rw [E1.out] at h2; rw [HXE.out, HYE.out, h2]; exact h, HW.out⟩, by simp [intOf]; omega⟩
        · have E1 := Lib.hid e1
          have BC := HC.out
          have s0 := (BC).cell 0 _ rfl
          have s1 := (BC).cell 1 _ rfl
          have f1 := BC.fr 1
          clear e1 BC
          go_wp2_with fail
          simp only [HP.out, or32]
          refine ⟨⟨k + 1, by omega, by go_num, ?_, HW.out.setCell (p := ⟨g2, 1, none⟩) (Nat.le_refl _) _⟩, by simp [intOf]; omega⟩
          have h2 := HV.out
          rw [E1.out] at h2
          rw [HXE.out, HYE.out, h2]
          exact HC.out.set 1 _
    · have hd : decide ((k : Int) < 32) = false := by simp; omega
      obtain rfl : k = 32 := by omega
      have HH : Hid (hallC b = (hUp b 1 32, hUp b 2 32)) := Lib.hid rfl
      generalize hx : hUp b 1 32 = x at *
      generalize hy : hUp b 2 32 = y at *
      have BC := HC.out
      have s0 := (BC).cell 0 _ rfl
      have s1 := (BC).cell 1 _ rfl
      have R1 := HX1.out.later HW.out hl2
      have z0 := HX1.out.cell 0 _ rfl
      have z1 := HX1.out.cell 1 _ rfl
      have f0 := R1.fr 0; have f1 := R1.fr 1
      clear R1 BC hx hy
      go_wp2_with fail
      have R8 := ((HX1.out.later HW.out hl2).set 0 (.int .u32 (x.toNat : Int))).set 1 (.int .u32 (y.toNat : Int))
      have r0 := (R8).cell 0 _ rfl
      have r1 := (R8).cell 1 _ rfl
      exact bodyPost_ret (v := cv (x, y)) (by simp [results, Try.results53, go_sem, r0, r1]) rfl ⟨by rw [HH.out], ((HWW.out.trans (HW.out.mono (by omega))).setCell (p := ⟨g1, 0, none⟩) (by show w.heap.size ≤ g1; have := HG1.out; omega) _).setCell (p := ⟨g1, 1, none⟩) (by show w.heap.size ≤ g1; have := HG1.out; omega) _⟩
end Go.Proofs.Ytpgcpalemnnbaaa
