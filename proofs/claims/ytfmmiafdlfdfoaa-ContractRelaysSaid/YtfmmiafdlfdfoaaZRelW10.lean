/- The walk over overlayref17's IsState at states in order. Conditions: those of the theorem. -/
import Derived.Test.YtfmmiafdlfdfoaaZRelW9
import Derived.Test.YtfmmiafdlfdfoaaZRelF
namespace Go.Proofs.Ytfmmiafdlfdfoaa
namespace Rel
open Go.RowKit
attribute [local go_sem ↓] run_eql_cs run_neq_cs
set_option maxHeartbeats 4000000 in
set_option maxRecDepth 100000 in
theorem isState_any (b : BldV) (q : Option Addr) (cap : Nat) (cf : CfgV) (s : RelV) (w : World) (hv : validN b = 0) (hc : cf.s ≤ 1000000 ∧ cf.t ≤ 1000000 ∧ cf.d ≤ 1000000) (h : Ok b.fl (hallC b) cf s) (hlen : b.cars.length ≤ 1000) (hsl : ∀ c ∈ b.cars, -9223372036854775808 ≤ c.sl ∧ c.sl < 9223372036854775807) (hr : RdC w q b.cars) :
    Calls Try.prog 40 #[cvB b q cap, cvRel s] w fun e w' => e = .returned (.bool true) ∧ Below w.heap.size w w' := by
  obtain ⟨hv2, hv32, _⟩ := valid_range b hv
  have hrel := ok_isRel hc h
  unfold isRelB at hrel
  simp only [Bool.and_eq_true, decide_eq_true_eq, Bool.not_eq_true', beq_iff_eq] at hrel
  obtain ⟨⟨⟨⟨⟨⟨⟨⟨⟨⟨⟨⟨⟨⟨a1, a2⟩, a3⟩, a4⟩, a5⟩, a6⟩, a7⟩, a8⟩, a9⟩, a10⟩, a11⟩, a12⟩, a13⟩, a14⟩, a15⟩ := hrel
  obtain ⟨st, fl, dr, op, dor, tm, ⟨c1, c2⟩, car⟩ := s
  simp only at a1 a2 a3 a4 a5 a6 a7 a8 a9 a10 a11 a12 a13 a14 a15
  have HVA : Hid (∀ W, RdC W q b.cars → Calls Try.prog 38 #[cvB b q cap] W fun e w' => e = .returned (.int .i64 0) ∧ Below W.heap.size W w') := Lib.hid fun W h => by
    have hh := refValid_any b q cap W (by unfold maxLen; omega) hsl h
    rw [hv] at hh
    exact hh
  obtain ⟨hc1, hhc⟩ : ∃ hc, hallC b = hc := ⟨_, rfl⟩
  have HHA : Hid (∀ W, RdC W q b.cars → Calls Try.prog 20 #[cvB b q cap] W fun e w' => e = .returned (cv hc1) ∧ Below W.heap.size W w') := Lib.hid fun W h => by rw [← hhc]; exact refHall_any b q cap W hlen hsl h
  rw [hhc] at a14
  have HMI : Hid (∀ W, Calls Try.prog 50 #[cv (c1, c2), cv hc1] W fun e w' => e = .returned (.agg #[.int .u32 0, .int .u32 0]) ∧ Below W.heap.size W w') := Lib.hid fun W => by
    have hh := refMinus_any (c1, c2) hc1 W
    rw [a14] at hh
    exact hh
  have HNX : Hid (∀ W, Calls Try.prog 43 #[.int .i64 fl, .int .i64 dr] W fun e w' => e = .returned (.int .i64 (nextF fl dr)) ∧ Below W.heap.size W w') := Lib.hid fun W => next_any fl dr W (by omega)
  clear hhc a14 h hc
  obtain ⟨nx, hnx⟩ : ∃ nx, nextF fl dr = nx := ⟨_, rfl⟩
  rw [hnx] at a13 HNX
  clear hnx
  have hcar : ((car.toNat : Int) / 2 ^ b.fl.toNat == 0) = true := by
    rw [beq_iff_eq]
    have : ((car.toNat / 2 ^ b.fl.toNat : Nat) : Int) = 0 := by rw [a15]; rfl
    simpa using this
  have d1 : decide (st < 0) = false := decide_eq_false (by omega)
  have d2 : decide (4 < st) = false := decide_eq_false (by omega)
  have d3 : decide (fl < 0) = false := decide_eq_false (by omega)
  have d4 : decide (b.fl ≤ fl) = false := decide_eq_false (by omega)
  have d5 : decide (dr < 0) = false := decide_eq_false (by omega)
  have d6 : decide (2 < dr) = false := decide_eq_false (by omega)
  have d7 : decide (op < 0) = false := decide_eq_false (by omega)
  have d8 : decide (7 < op) = false := decide_eq_false (by omega)
  have d9 : decide (tm < 0) = false := decide_eq_false (by omega)
  have d10 : decide (1000000 < tm) = false := decide_eq_false (by omega)
  obtain ⟨z, hz⟩ : ∃ z, (tm == 0) = z := ⟨_, rfl⟩
  have hz2 : (st == 0) = z := by
    rw [← hz, Bool.eq_iff_iff, beq_iff_eq, beq_iff_eq]
    have := decide_eq_decide.1 a12
    exact this.symm
  have H11 := Lib.hid a11; have H13 := Lib.hid a13
  have HST : Hid (st = 0 ∨ st = 1 ∨ st = 2 ∨ st = 3 ∨ st = 4) := Lib.hid (by omega)
  have hfl0 : 0 ≤ b.fl := by omega
  have hHF := Lib.hid (show 0 ≤ fl ∧ fl < b.fl from ⟨a3, a4⟩)
  clear a1 a2 a3 a4 a5 a6 a7 a8 a9 a10 a11 a12 a13 a15 hv hlen hsl hv2
  have X0 : Blk (w.alloc (.cells #[.int .i64 b.fl, .int .i64 b.deb, .int .i64 b.room, .int .i64 b.park, .float .f64 b.em, .float .f64 b.fu, .float .f64 b.ov, .slice q b.cars.length cap] 29)) w.heap.size [.int .i64 b.fl, .int .i64 b.deb, .int .i64 b.room, .int .i64 b.park, .float .f64 b.em, .float .f64 b.fu, .float .f64 b.ov, .slice q b.cars.length cap] := by
    have hx := Blk.new w [.int .i64 b.fl, .int .i64 b.deb, .int .i64 b.room, .int .i64 b.park, .float .f64 b.em, .float .f64 b.fu, .float .f64 b.ov, .slice q b.cars.length cap] 29
    exact hx
  replace X0 : Blk ((w.alloc (.cells #[.int .i64 b.fl, .int .i64 b.deb, .int .i64 b.room, .int .i64 b.park, .float .f64 b.em, .float .f64 b.fu, .float .f64 b.ov, .slice q b.cars.length cap] 29)).alloc (.cells #[.int .i64 st, .int .i64 fl, .int .i64 dr, .int .i64 op, .int .i64 dor, .int .i64 tm, .int .u32 (c1.toNat : Int), .int .u32 (c2.toNat : Int), .int .u32 (car.toNat : Int)] 59)) w.heap.size [.int .i64 b.fl, .int .i64 b.deb, .int .i64 b.room, .int .i64 b.park, .float .f64 b.em, .float .f64 b.fu, .float .f64 b.ov, .slice q b.cars.length cap] := X0.next (below1' _ _)
  have X1 : Blk ((w.alloc (.cells #[.int .i64 b.fl, .int .i64 b.deb, .int .i64 b.room, .int .i64 b.park, .float .f64 b.em, .float .f64 b.fu, .float .f64 b.ov, .slice q b.cars.length cap] 29)).alloc (.cells #[.int .i64 st, .int .i64 fl, .int .i64 dr, .int .i64 op, .int .i64 dor, .int .i64 tm, .int .u32 (c1.toNat : Int), .int .u32 (c2.toNat : Int), .int .u32 (car.toNat : Int)] 59)) (w.heap.size + 1) [.int .i64 st, .int .i64 fl, .int .i64 dr, .int .i64 op, .int .i64 dor, .int .i64 tm, .int .u32 (c1.toNat : Int), .int .u32 (c2.toNat : Int), .int .u32 (car.toNat : Int)] := by
    have hx := Blk.new (w.alloc (.cells #[.int .i64 b.fl, .int .i64 b.deb, .int .i64 b.room, .int .i64 b.park, .float .f64 b.em, .float .f64 b.fu, .float .f64 b.ov, .slice q b.cars.length cap] 29)) [.int .i64 st, .int .i64 fl, .int .i64 dr, .int .i64 op, .int .i64 dor, .int .i64 tm, .int .u32 (c1.toNat : Int), .int .u32 (c2.toNat : Int), .int .u32 (car.toNat : Int)] 59
    rw [World.size_alloc] at hx
    exact hx
  have XW : Below w.heap.size w (w.alloc (.cells #[.int .i64 b.fl, .int .i64 b.deb, .int .i64 b.room, .int .i64 b.park, .float .f64 b.em, .float .f64 b.fu, .float .f64 b.ov, .slice q b.cars.length cap] 29)) := below1' w _
  replace XW : Below w.heap.size w ((w.alloc (.cells #[.int .i64 b.fl, .int .i64 b.deb, .int .i64 b.room, .int .i64 b.park, .float .f64 b.em, .float .f64 b.fu, .float .f64 b.ov, .slice q b.cars.length cap] 29)).alloc (.cells #[.int .i64 st, .int .i64 fl, .int .i64 dr, .int .i64 op, .int .i64 dor, .int .i64 tm, .int .u32 (c1.toNat : Int), .int .u32 (c2.toNat : Int), .int .u32 (car.toNat : Int)] 59)) := XW.trans ((below1' _ _).mono XW.size)
  have HWW := Lib.hid XW; have HX0 := Lib.hid X0; have HX1 := Lib.hid X1
  clear XW X0 X1
  have HR := Lib.hid (hr.next HWW.out)
  clear hr
  go_enter Try.func40, Try.ntmps40
  go_upto_region 1 with fail
  generalize ((w.alloc (.cells #[.int .i64 b.fl, .int .i64 b.deb, .int .i64 b.room, .int .i64 b.park, .float .f64 b.em, .float .f64 b.fu, .float .f64 b.ov, .slice q b.cars.length cap] 29)).alloc (.cells #[.int .i64 st, .int .i64 fl, .int .i64 dr, .int .i64 op, .int .i64 dor, .int .i64 tm, .int .u32 (c1.toNat : Int), .int .u32 (c2.toNat : Int), .int .u32 (car.toNat : Int)] 59)) = w0 at *
  generalize hg1 : w.heap.size + 1 = g1 at *
  have HG1 := Lib.hid hg1; have hq1 : w.heap.size + 1 ≤ g1 := by omega
  clear hg1
  have HW := Lib.hid (Below.refl w0.heap.size w0)
  have hz0 := HX0.out.lt; have hz1 := HX1.out.lt
  have k0 := (HX0.out).cell 0 _ rfl
  have k1 := (HX0.out).cell 1 _ rfl
  have k2 := (HX0.out).cell 2 _ rfl
  have k3 := (HX0.out).cell 3 _ rfl
  have k4 := (HX0.out).cell 4 _ rfl
  have k5 := (HX0.out).cell 5 _ rfl
  have k6 := (HX0.out).cell 6 _ rfl
  have k7 := (HX0.out).cell 7 _ rfl
  have y0 := (HX1.out).cell 0 _ rfl
  have y1 := (HX1.out).cell 1 _ rfl
  have y2 := (HX1.out).cell 2 _ rfl
  have y3 := (HX1.out).cell 3 _ rfl
  have y4 := (HX1.out).cell 4 _ rfl
  have y5 := (HX1.out).cell 5 _ rfl
  have y6 := (HX1.out).cell 6 _ rfl
  have y7 := (HX1.out).cell 7 _ rfl
  have y8 := (HX1.out).cell 8 _ rfl
  go_wp2_with fail
  refine (HVA.out w0 HR.out).mono ?_
  rintro e w1 ⟨rfl, hb1⟩
  have HA1 := Lib.hid (HX0.out.next hb1); have HB1 := Lib.hid (HX1.out.next hb1); have HR1 := Lib.hid (HR.out.next hb1); have HW1 := Lib.hid (HWW.out.trans (hb1.mono HWW.out.size))
  clear hb1 k0 k1 k2 k3 k4 k5 k6 k7 y0 y1 y2 y3 y4 y5 y6 y7 y8 HX0 HX1 HR HWW HW hz0 hz1
  have k0 := (HA1.out).cell 0 _ rfl
  have k1 := (HA1.out).cell 1 _ rfl
  have k2 := (HA1.out).cell 2 _ rfl
  have k3 := (HA1.out).cell 3 _ rfl
  have k4 := (HA1.out).cell 4 _ rfl
  have k5 := (HA1.out).cell 5 _ rfl
  have k6 := (HA1.out).cell 6 _ rfl
  have k7 := (HA1.out).cell 7 _ rfl
  have y0 := (HB1.out).cell 0 _ rfl
  have y1 := (HB1.out).cell 1 _ rfl
  have y2 := (HB1.out).cell 2 _ rfl
  have y3 := (HB1.out).cell 3 _ rfl
  have y4 := (HB1.out).cell 4 _ rfl
  have y5 := (HB1.out).cell 5 _ rfl
  have y6 := (HB1.out).cell 6 _ rfl
  have y7 := (HB1.out).cell 7 _ rfl
  have y8 := (HB1.out).cell 8 _ rfl
  go_upto_region 3 with fail
  clear d1 d2 d3 d4 d5 d6 d7 d8 d9 d10
  have hgl1 : g1 < w1.heap.size := HB1.out.lt
  have hgl0 : w.heap.size < w1.heap.size := HA1.out.lt
  go_cut [5] from 63 to 67 (fun v wx => v = .int .i64 dor ∧ Below w1.heap.size w1 wx)
  case first =>
    rcases HST.out with rfl | rfl | rfl | rfl | rfl
    all_goals
      clear hz hz2
      go_wp2_with fail
      go_meet
      exact ⟨by rw [H11.out]; rfl, below1' _ _⟩
  case rest =>
  obtain ⟨rfl, hb⟩ := hcut
  generalize wc = w2 at *
  have HA2 := Lib.hid (HA1.out.next hb); have HB2 := Lib.hid (HB1.out.next hb); have HR2 := Lib.hid (HR1.out.next hb); have HW2 := Lib.hid (HW1.out.trans (hb.mono HW1.out.size))
  clear hb k0 k1 k2 k3 k4 k5 k6 k7 y0 y1 y2 y3 y4 y5 y6 y7 y8 HA1 HB1 HR1 HW1
  have k0 := (HA2.out).cell 0 _ rfl
  have k1 := (HA2.out).cell 1 _ rfl
  have k2 := (HA2.out).cell 2 _ rfl
  have k3 := (HA2.out).cell 3 _ rfl
  have k4 := (HA2.out).cell 4 _ rfl
  have k5 := (HA2.out).cell 5 _ rfl
  have k6 := (HA2.out).cell 6 _ rfl
  have k7 := (HA2.out).cell 7 _ rfl
  have y0 := (HB2.out).cell 0 _ rfl
  have y1 := (HB2.out).cell 1 _ rfl
  have y2 := (HB2.out).cell 2 _ rfl
  have y3 := (HB2.out).cell 3 _ rfl
  have y4 := (HB2.out).cell 4 _ rfl
  have y5 := (HB2.out).cell 5 _ rfl
  have y6 := (HB2.out).cell 6 _ rfl
  have y7 := (HB2.out).cell 7 _ rfl
  have y8 := (HB2.out).cell 8 _ rfl
  go_upto_region 4 with fail
  go_cut [80] from 68 to 80 (fun v wx => v = .bool false ∧ wx = w2)
  case first =>
    cases z
    all_goals
      go_wp2_with fail
      go_meet
      exact ⟨by first | rfl | simp, rfl⟩
  case rest =>
  obtain ⟨rfl, rfl⟩ := hcut
  go_wp2_with fail
  refine (HNX.out _).mono ?_
  rintro e w3 ⟨rfl, hb⟩
  have HA3 := Lib.hid (HA2.out.next hb); have HB3 := Lib.hid (HB2.out.next hb); have HR3 := Lib.hid (HR2.out.next hb); have HW3 := Lib.hid (HW2.out.trans (hb.mono HW2.out.size))
  clear hb k0 k1 k2 k3 k4 k5 k6 k7 y0 y1 y2 y3 y4 y5 y6 y7 y8 HA2 HB2 HR2 HW2
  have k0 := (HA3.out).cell 0 _ rfl
  have k1 := (HA3.out).cell 1 _ rfl
  have k2 := (HA3.out).cell 2 _ rfl
  have k3 := (HA3.out).cell 3 _ rfl
  have k4 := (HA3.out).cell 4 _ rfl
  have k5 := (HA3.out).cell 5 _ rfl
  have k6 := (HA3.out).cell 6 _ rfl
  have k7 := (HA3.out).cell 7 _ rfl
  have y0 := (HB3.out).cell 0 _ rfl
  have y1 := (HB3.out).cell 1 _ rfl
  have y2 := (HB3.out).cell 2 _ rfl
  have y3 := (HB3.out).cell 3 _ rfl
  have y4 := (HB3.out).cell 4 _ rfl
  have y5 := (HB3.out).cell 5 _ rfl
  have y6 := (HB3.out).cell 6 _ rfl
  have y7 := (HB3.out).cell 7 _ rfl
  have y8 := (HB3.out).cell 8 _ rfl
  go_upto_region 7 with fail
  clear hz hz2
  go_cut [103] from 86 to 103 (fun v wx => v = .bool false ∧ wx = w3)
  case first =>
    by_cases hs1 : st = 1
    · have b1 : (st == 1) = true := by simpa using hs1
      have h13 := H13.out
      rw [decide_eq_true hs1, Bool.true_and, Bool.or_eq_false_iff, Bool.or_eq_false_iff] at h13
      obtain ⟨⟨e1, e2⟩, e3⟩ := h13
      have e1' : (dr == 0) = false := by simpa using e1
      clear hs1 e1
      go_wp2_with fail
      go_meet
      exact ⟨by first | rfl | simp, rfl⟩
    · have b1 : (st == 1) = false := by simpa using hs1
      clear hs1
      go_wp2_with fail
      go_meet
      exact ⟨by first | rfl | simp, rfl⟩
  case rest =>
  obtain ⟨rfl, rfl⟩ := hcut
  go_wp2_with fail
  refine (HHA.out _ HR3.out).mono ?_
  rintro e w4 ⟨rfl, hb⟩
  obtain ⟨h1', h2'⟩ := hc1
  have HA4 := Lib.hid (HA3.out.next hb); have HB4 := Lib.hid (HB3.out.next hb); have HW4 := Lib.hid (HW3.out.trans (hb.mono HW3.out.size))
  clear hb k0 k1 k2 k3 k4 k5 k6 k7 y0 y1 y2 y3 y4 y5 y6 y7 y8 HA3 HB3 HR3 HW3
  go_upto_region 10 with fail
  have BT := Blk.new w4 [.int .u32 (h1'.toNat : Int), .int .u32 (h2'.toNat : Int)] 45
  have hbt := below1' w4 (.cells #[.int .u32 (h1'.toNat : Int), .int .u32 (h2'.toNat : Int)] 45)
  change Blk (w4.alloc (.cells #[.int .u32 (h1'.toNat : Int), .int .u32 (h2'.toNat : Int)] 45)) _ _ at BT
  have HT := Lib.hid BT; have HA5 := Lib.hid (HA4.out.next hbt); have HB5 := Lib.hid (HB4.out.next hbt); have HW5 := Lib.hid (HW4.out.trans (hbt.mono HW4.out.size))
  clear BT hbt HA4 HB4 HW4
  generalize w4.alloc (.cells #[.int .u32 (h1'.toNat : Int), .int .u32 (h2'.toNat : Int)] 45) = w5 at *
  generalize w4.heap.size = gt at *
  have y6 := HB5.out.cell 6 _ rfl; have y7 := HB5.out.cell 7 _ rfl
  have t0 := (HT.out).cell 0 _ rfl
  have t1 := (HT.out).cell 1 _ rfl
  go_wp2_with fail
  refine (HMI.out w5).mono ?_
  rintro e w6 ⟨rfl, hb⟩
  have HW6 := Lib.hid (HW5.out.trans (hb.mono HW5.out.size))
  have k0 := (HA5.out.next hb).cell 0 _ rfl
  have y8 := (HB5.out.next hb).cell 8 _ rfl
  clear hb y6 y7 t0 t1
  go_wp2_with fail
  go_ret
  exact ⟨rfl, HW6.out⟩
end Rel
end Go.Proofs.Ytfmmiafdlfdfoaa
