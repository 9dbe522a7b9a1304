/- ContractRelays: a relay car with a Deadline of its promise, and one tick for the observation, keeps its contract, whatever is injected and pressed. Conditions: none. -/
import Derived.Test.YtfmmiafdlfdfoaaZRelW11
import Derived.Test.YtfmmiafdlfdfoaaZArgs
import Derived.Test.YtfmmiafdlfdfoaaZSane18
import Derived.Test.YtfmmiafdlfdfoaaZApart
namespace Go.Proofs.Ytfmmiafdlfdfoaa
namespace Rel
open Go.ChangeShapes Go.WideShapes Go.ChangeAt Go.RowKit
attribute [local go_sem] run_store_float
theorem b15_val (n t : Nat) (w : World) (hn : n < 256) (ht : t < 256) :
    Calls Try.prog 23 #[.int .u8 n, .int .u8 t] w fun e w' => ∃ g cap, e = .returned (cvB (bR n t (L15 n t)) (some ⟨g, 0, none⟩) cap) ∧ w'.ownsRow (w.heap.size + 1 + 2) 40 9 (.slice (some ⟨g, 0, none⟩) (k18 n) cap) (k18 n) (carCells (L15 n t)) ∧ Below w.heap.size w w' := by
  refine (b15_any n t w hn ht).mono ?_
  rintro e w1 ⟨g, cap, he, hown, hb⟩
  refine ⟨g, cap, ?_, hown, hb⟩
  rw [he]
  show _ = Ending.returned (Value.agg #[_, _, _, _, _, _, _, .slice (some ⟨g, 0, none⟩) (L15 n t).length cap])
  rw [L15_len]
  rfl
theorem rdC_deadline {W : World} {B g cap n t : Nat} {D : Int} (h : W.ownsRow B 40 9 (.slice (some ⟨g, 0, none⟩) (k18 n) cap) (k18 n) (carCells (L15 n t))) : RdC (W.setCell ⟨g, 0, none⟩ (.int .i64 D)) (some ⟨g, 0, none⟩) (LD n t D) := by
  have h1 := row_upd h 0 (.int .i64 D)
  have h2 := carCells_set (L15 n t) 0 0 (c15 t (fl18 n) 0) (withD (c15 t (fl18 n) 0) D) (.int .i64 D) (by omega) (L15_zero n t) rfl
  rw [show 0 * 9 + 0 = 0 by rfl] at h2
  rw [← h2] at h1
  exact rdC_of_owns h1 (LD_len n t D)
set_option maxHeartbeats 8000000 in
set_option maxRecDepth 100000 in
theorem relays_walk (n t : Nat) (l : List Nat) (ql : Option Addr) (capl : Nat) (w : World) (hn : n < 256) (ht : t < 256) (hl : l.length ≤ maxLen) (hu : RdU w ql l) :
    Calls Try.prog 6 #[.agg #[.int .u8 n, .int .u8 t], .slice ql l.length capl] w fun e w' => e = .returned (.bool true) ∧ Below w.heap.size w w' := by
  obtain ⟨i0, hi, hy0, hy1, hy2⟩ := info_parts infoM
  have Hi := Lib.hid hi; have Hz0 := Lib.hid hy0; have Hz1 := Lib.hid hy1; have Hz2 := Lib.hid hy2
  clear hi hy0 hy1 hy2
  have X0 : Blk (w.alloc (.cells #[.int .u8 n, .int .u8 t] 22)) w.heap.size [.int .u8 n, .int .u8 t] := by
    have hx := Blk.new w [.int .u8 n, .int .u8 t] 22
    exact hx
  have XW : Below w.heap.size w (w.alloc (.cells #[.int .u8 n, .int .u8 t] 22)) := below1' w _
  have HWW := Lib.hid XW; have HX0 := Lib.hid X0
  clear XW X0
  have HUU := Lib.hid hu
  have HU := Lib.hid (hu.next HWW.out)
  have HL2 := Lib.hid hl
  clear hu
  obtain ⟨nl, hnl⟩ : ∃ n, n = l.length := ⟨_, rfl⟩
  have HNL := Lib.hid hnl
  rw [← hnl] at hl ⊢
  clear hnl
  go_enter Try.func6, Try.ntmps6
  go_upto_region 1 with fail
  generalize (w.alloc (.cells #[.int .u8 n, .int .u8 t] 22)) = w0 at *
  have HW := Lib.hid (Below.refl w0.heap.size w0)
  have hz0 := HX0.out.lt
  have k0 := (HX0.out).cell 0 _ rfl
  have k1 := (HX0.out).cell 1 _ rfl
  go_wp2_with fail
  refine (b15_val n t _ hn ht).mono ?_
  rintro e w1 ⟨g, cap, rfl, hown, hb⟩
  obtain ⟨f2, f6⟩ := fl18_range n
  obtain ⟨kk1, kk3⟩ := k18_range n
  have hr1 := rdC_of_owns hown (L15_len n t)
  have hgl : g < w1.heap.size := (hown.lt g rfl).2
  have hgb : w0.heap.size < g := by have := (hown.lt g rfl).1; omega
  have hpr := prom15 n t
  obtain ⟨P, hP⟩ : ∃ P, promise (fl18 n) ⟨(c15 t (fl18 n) 0).st, (c15 t (fl18 n) 0).tr, (c15 t (fl18 n) 0).dw⟩ = P := ⟨_, rfl⟩
  have hv0 := validR n t (L15 n t) (L15_len n t) (L15_times n t)
  have HPR : Hid (∀ W, RdC W (some ⟨g, 0, none⟩) (bR n t (L15 n t)).cars → Calls Try.prog 24 #[cvB (bR n t (L15 n t)) (some ⟨g, 0, none⟩) cap, .int .i64 0] W fun e w' => e = .returned (.int .i64 P) ∧ Below W.heap.size W w') := Lib.hid fun W h => by
    have hc := cfg15 t (fl18 n)
    obtain ⟨⟨x1, x2⟩, ⟨x3, x4⟩, x5, x6⟩ := hc
    simp only at x1 x2 x3 x4 x5 x6
    have hh := promise_any (bR n t (L15 n t)) g cap (c15 t (fl18 n) 0) W hv0 (L15_zero n t) ⟨⟨x1, by omega⟩, ⟨x3, by omega⟩, x5, by omega⟩ (by show (L15 n t).length ≤ 1000; rw [L15_len]; omega) (L15_slack n t) (by show 2 ≤ fl18 n ∧ fl18 n ≤ 31; omega) h
    have e : promise (bR n t (L15 n t)).fl ⟨(c15 t (fl18 n) 0).st, (c15 t (fl18 n) 0).tr, (c15 t (fl18 n) 0).dw⟩ = P := hP
    rw [e] at hh
    exact hh
  rw [hP] at hpr
  have HV1 := Lib.hid (validR n t (LD n t (P + 1)) (LD_len n t _) (LD_times n t (P + 1) (by omega)))
  have HBE : Hid (([.int .i64 (bR n t (L15 n t)).fl, .int .i64 (bR n t (L15 n t)).deb, .int .i64 (bR n t (L15 n t)).room, .int .i64 (bR n t (L15 n t)).park, .float .f64 (bR n t (L15 n t)).em, .float .f64 (bR n t (L15 n t)).fu, .float .f64 (bR n t (L15 n t)).ov, .slice (some ⟨g, 0, none⟩) (bR n t (L15 n t)).cars.length cap] : List Value) = [.int .i64 (bR n t (LD n t (P + 1))).fl, .int .i64 (bR n t (LD n t (P + 1))).deb, .int .i64 (bR n t (LD n t (P + 1))).room, .int .i64 (bR n t (LD n t (P + 1))).park, .float .f64 (bR n t (LD n t (P + 1))).em, .float .f64 (bR n t (LD n t (P + 1))).fu, .float .f64 (bR n t (LD n t (P + 1))).ov, .slice (some ⟨g, 0, none⟩) (bR n t (LD n t (P + 1))).cars.length cap]) := Lib.hid (by
    have e : (bR n t (L15 n t)).cars.length = (bR n t (LD n t (P + 1))).cars.length := by show (L15 n t).length = (LD n t (P + 1)).length; rw [L15_len, LD_len]
    rw [e]; rfl)
  have HRD : Hid (∀ W : World, W.ownsRow (w0.heap.size + 1 + 2) 40 9 (.slice (some ⟨g, 0, none⟩) (k18 n) cap) (k18 n) (carCells (L15 n t)) → RdC (W.setCell ⟨g, 0, none⟩ (.int .i64 (P + 1))) (some ⟨g, 0, none⟩) (bR n t (LD n t (P + 1))).cars) := Lib.hid fun W h => rdC_deadline h
  have HC0 : Hid ((bR n t (LD n t (P + 1))).cars[0]? = some (withD (c15 t (fl18 n) 0) (P + 1))) := Lib.hid (LD_zero n t (P + 1))
  have HCF : Hid (CfgOk ⟨(withD (c15 t (fl18 n) 0) (P + 1)).st, (withD (c15 t (fl18 n) 0) (P + 1)).tr, (withD (c15 t (fl18 n) 0) (P + 1)).dw⟩) := Lib.hid (cfg15 t (fl18 n))
  have HDL : Hid (dlOf (bR n t (LD n t (P + 1))) 0 = promise (bR n t (LD n t (P + 1))).fl ⟨(withD (c15 t (fl18 n) 0) (P + 1)).st, (withD (c15 t (fl18 n) 0) (P + 1)).tr, (withD (c15 t (fl18 n) 0) (P + 1)).dw⟩ + 1) := Lib.hid (by
    have e : promise (bR n t (LD n t (P + 1))).fl ⟨(withD (c15 t (fl18 n) 0) (P + 1)).st, (withD (c15 t (fl18 n) 0) (P + 1)).tr, (withD (c15 t (fl18 n) 0) (P + 1)).dw⟩ = P := hP
    rw [e]
    have e2 := LD_zero n t (P + 1)
    unfold dlOf
    show ((LD n t (P + 1))[0]?.map _).getD _ = _
    rw [e2]; rfl)
  have HSL : Hid (∀ c ∈ (bR n t (LD n t (P + 1))).cars, -9223372036854775808 ≤ c.sl ∧ c.sl < 9223372036854775807) := Lib.hid (LD_slack n t (P + 1))
  have HLN : Hid ((bR n t (LD n t (P + 1))).cars.length = k18 n) := Lib.hid (LD_len n t (P + 1))
  have HL0 : Hid ((bR n t (L15 n t)).cars.length = k18 n) := Lib.hid (L15_len n t)
  have HF1 : Hid (2 ≤ (bR n t (LD n t (P + 1))).fl ∧ (bR n t (LD n t (P + 1))).fl ≤ 6) := Lib.hid ⟨f2, f6⟩
  have HR1 : Hid (RdC w1 (some ⟨g, 0, none⟩) (bR n t (L15 n t)).cars) := Lib.hid hr1
  have HOW := Lib.hid hown; have HB1 := Lib.hid (HWW.out.trans (hb.mono HWW.out.size)); have HU1 := Lib.hid (HU.out.next hb)
  have hwg : w.heap.size < w0.heap.size := HX0.out.lt
  clear hown hr1 hb hP hv0 k0 k1 HX0 HWW HW HU hz0 f2 f6
  generalize withD (c15 t (fl18 n) 0) (P + 1) = kc at *
  generalize bR n t (LD n t (P + 1)) = b1 at *
  generalize bR n t (L15 n t) = b0 at *
  go_upto_region 2 with fail
  have B5 := Blk.new w1 [.int .i64 b0.fl, .int .i64 b0.deb, .int .i64 b0.room, .int .i64 b0.park, .float .f64 b0.em, .float .f64 b0.fu, .float .f64 b0.ov, .slice (some ⟨g, 0, none⟩) b0.cars.length cap] 29
  have hb5 := below1' w1 (.cells #[.int .i64 b0.fl, .int .i64 b0.deb, .int .i64 b0.room, .int .i64 b0.park, .float .f64 b0.em, .float .f64 b0.fu, .float .f64 b0.ov, .slice (some ⟨g, 0, none⟩) b0.cars.length cap] 29)
  change Blk (w1.alloc (.cells #[.int .i64 b0.fl, .int .i64 b0.deb, .int .i64 b0.room, .int .i64 b0.park, .float .f64 b0.em, .float .f64 b0.fu, .float .f64 b0.ov, .slice (some ⟨g, 0, none⟩) b0.cars.length cap] 29)) _ _ at B5
  have HX2 := Lib.hid B5; have HR2 := Lib.hid (HR1.out.next hb5); have HOW2 := Lib.hid (rowLater HOW.out hb5); have HU2 := Lib.hid (HU1.out.next hb5); have HW2 := Lib.hid (HB1.out.trans (hb5.mono HB1.out.size))
  clear B5 hb5 HR1 HOW HU1 HB1
  generalize w1.alloc (.cells #[.int .i64 b0.fl, .int .i64 b0.deb, .int .i64 b0.room, .int .i64 b0.park, .float .f64 b0.em, .float .f64 b0.fu, .float .f64 b0.ov, .slice (some ⟨g, 0, none⟩) b0.cars.length cap] 29) = w2 at *
  generalize w1.heap.size = g5 at *
  have k0 := (HX2.out).reg 0 _ rfl
  have k1 := (HX2.out).reg 1 _ rfl
  have k2 := (HX2.out).reg 2 _ rfl
  have k3 := (HX2.out).reg 3 _ rfl
  have k4 := (HX2.out).reg 4 _ rfl
  have k5 := (HX2.out).reg 5 _ rfl
  have k6 := (HX2.out).reg 6 _ rfl
  have k7 := (HX2.out).reg 7 _ rfl
  have hk0 : (0 : Int) < (k18 n : Int) := by omega
  have HKL := Lib.hid HL0.out
  obtain ⟨nc, hnc⟩ : ∃ nc, b0.cars.length = nc := ⟨_, rfl⟩
  have hnc0 : (0 : Int) < (nc : Int) := by have := HL0.out; omega
  have HPR1 := HPR.out
  dsimp only [cvB] at HPR1
  have HPR2 := Lib.hid HPR1
  clear HPR1 HPR
  rw [hnc] at k7 HPR2
  have HNC := Lib.hid hnc
  clear hnc
  have hP1 : 0 ≤ P + 1 := by omega
  have hP2 : P + 1 ≤ 701 := by omega
  (refine Grow.wp_region_tail 7 Grow.noPlan Grow.noPlan_stable (by kernel_rfl) (by kernel_rfl) ?_; intro opsq Hopsq; simp only [List.take_succ_cons, List.take_zero, List.drop_succ_cons, List.drop_zero])
  repeat (first | (refine Grow.lex_move rfl ?_ rfl ?_; (· first | exact Grow.wanted_none | (rw [Hopsq.out]; rfl)); intro K hK; simp only [Grow.put_lit, Grow.setAt, Grow.eval_lit, Grow.ev]; refine hK _ _ ?_; clear hK K) | (refine Grow.lex_assign rfl ?_ rfl ?_; (· first | exact Grow.wanted_none | (rw [Hopsq.out]; rfl)); intro K hK; simp only [Grow.put_lit, Grow.setAt, Grow.eval_lit, Grow.ev]; refine hK _ _ ?_; clear hK K) | (refine Grow.lex_plain rfl rfl ?_ rfl ?_; (· first | exact Grow.wanted_none | (rw [Hopsq.out]; rfl)); apply Exists.intro; refine ⟨fun wq hCq _ => ?_, ?_⟩; (· (go_wp2_with fail; refine ⟨rfl, Below.refl _ _, ?_⟩; simp only [Grow.getD_lit, Grow.nth]; rfl)); intro K hK; simp only [Grow.put_lit, Grow.setAt]; refine hK _ _ ?_; clear hK K) | (refine Grow.lex_nilCheck rfl rfl ?_ rfl ?_; (· first | exact Grow.wanted_none | (rw [Hopsq.out]; rfl)); intro K hK; simp only [Grow.put_lit, Grow.setAt]; refine hK _ _ ?_; clear hK K) | (refine Grow.lex_skip ?_ ?_; (· (rw [Hopsq.out]; rfl)); intro K hK; simp only [Grow.put_lit, Grow.setAt]; refine hK _ _ ?_; clear hK K))
  (refine Grow.lex_call ?_ rfl ?_; (· first | exact Grow.wanted_none | (rw [Hopsq.out]; rfl)); apply Exists.intro; apply Exists.intro; refine ⟨fun wq => ?_, ?_⟩; (· (go_simp; exact ⟨rfl, rfl⟩)); apply Exists.intro; refine ⟨fun wq hCq hKq => ?_, ?_⟩; (· exact HPR2.out _ (HR2.out.next (Grow.Cl.base hCq))); intro K hK; simp only [Grow.put_lit, Grow.setAt]; refine hK _ _ ?_; clear hK K)
  repeat (first | (refine Grow.lex_move rfl ?_ rfl ?_; (· first | exact Grow.wanted_none | (rw [Hopsq.out]; rfl)); intro K hK; simp only [Grow.put_lit, Grow.setAt, Grow.eval_lit, Grow.ev]; refine hK _ _ ?_; clear hK K) | (refine Grow.lex_assign rfl ?_ rfl ?_; (· first | exact Grow.wanted_none | (rw [Hopsq.out]; rfl)); intro K hK; simp only [Grow.put_lit, Grow.setAt, Grow.eval_lit, Grow.ev]; refine hK _ _ ?_; clear hK K) | (refine Grow.lex_plain rfl rfl ?_ rfl ?_; (· first | exact Grow.wanted_none | (rw [Hopsq.out]; rfl)); apply Exists.intro; refine ⟨fun wq hCq _ => ?_, ?_⟩; (· (go_wp2_with fail; refine ⟨rfl, Below.refl _ _, ?_⟩; simp only [Grow.getD_lit, Grow.nth]; rfl)); intro K hK; simp only [Grow.put_lit, Grow.setAt]; refine hK _ _ ?_; clear hK K) | (refine Grow.lex_nilCheck rfl rfl ?_ rfl ?_; (· first | exact Grow.wanted_none | (rw [Hopsq.out]; rfl)); intro K hK; simp only [Grow.put_lit, Grow.setAt]; refine hK _ _ ?_; clear hK K) | (refine Grow.lex_skip ?_ ?_; (· (rw [Hopsq.out]; rfl)); intro K hK; simp only [Grow.put_lit, Grow.setAt]; refine hK _ _ ?_; clear hK K))
  (refine Grow.lex_nil ?_; intro w3 hb3 _; replace hb3 := Grow.Cl.base hb3; clear Hopsq opsq)
  have HX3 := Lib.hid (HX2.out.next hb3); have HOW3 := Lib.hid (rowLater HOW2.out hb3); have HU3 := Lib.hid (HU2.out.next hb3); have HW3 := Lib.hid (HW2.out.trans (hb3.mono HW2.out.size))
  have y0 : w3.cell? ⟨g, 0, none⟩ = some (.int .i64 (c15 t (fl18 n) 0).dl) := by
    rw [HOW3.out.cellAt 0 (by omega)]
    exact carCells_at _ 0 _ (L15_zero n t) 0 _ rfl
  have fy0 := row_fr HOW3.out 0
  clear hb3 k0 k1 k2 k3 k4 k5 k6 k7 HX2 HR2 HOW2 HU2 HW2
  go_upto_region 3 with fail
  have hg5g : g5 ≠ g := by omega
  have hwgg : w.heap.size ≤ g := by omega
  have hRC4 := HRD.out w3 HOW3.out
  have hX4 := HX3.out.other hg5g (i := 0) (.int .i64 (P + 1))
  have hW4 := HW3.out.setCell (p := ⟨g, 0, none⟩) hwgg (.int .i64 (P + 1))
  rw [HBE.out] at hX4
  have HRC4 := Lib.hid hRC4; have HX4 := Lib.hid hX4; have HW4 := Lib.hid hW4
  clear hRC4 hX4 hW4 HOW3 HX3 HU3 HW3 HRD HBE y0 fy0 HPR2 HKL HNC hnc0 hk0
  generalize w3.setCell ⟨g, 0, none⟩ (.int .i64 (P + 1)) = w4 at *
  go_wp2_with fail
  refine (newR_any 0 w4).mono ?_
  rintro e w5 ⟨rfl, hb⟩
  have HRC5 := Lib.hid (HRC4.out.next hb); have HX5 := Lib.hid (HX4.out.next hb); have HW5 := Lib.hid (HW4.out.trans (hb.mono HW4.out.size))
  clear hb HRC4 HX4 HW4
  have HALL : Hid (∀ W, Below w5.heap.size w5 W → Blk W g5 [.int .i64 b1.fl, .int .i64 b1.deb, .int .i64 b1.room, .int .i64 b1.park, .float .f64 b1.em, .float .f64 b1.fu, .float .f64 b1.ov, .slice (some ⟨g, 0, none⟩) b1.cars.length cap] ∧ RdC W (some ⟨g, 0, none⟩) b1.cars ∧ RdU W ql l ∧ Below w.heap.size w W) := Lib.hid fun W h => by
    have h0 := HW5.out.trans (h.mono HW5.out.size)
    exact ⟨HX5.out.next h, HRC5.out.next h, HUU.out.next h0, h0⟩
  have hg5l : g5 < w5.heap.size := HX5.out.lt
  clear HX5 HRC5 HW5
  go_upto_region 4 with fail
  have BR := Blk.new w5 [.int .i64 (newV 0).st, .int .i64 (newV 0).fl, .int .i64 (newV 0).dr, .int .i64 (newV 0).op, .int .i64 (newV 0).dor, .int .i64 (newV 0).tm, .int .u32 ((newV 0).calls.1.toNat : Int), .int .u32 ((newV 0).calls.2.toNat : Int), .int .u32 ((newV 0).car.toNat : Int)] 59
  have hbr := below1' w5 (.cells #[.int .i64 (newV 0).st, .int .i64 (newV 0).fl, .int .i64 (newV 0).dr, .int .i64 (newV 0).op, .int .i64 (newV 0).dor, .int .i64 (newV 0).tm, .int .u32 ((newV 0).calls.1.toNat : Int), .int .u32 ((newV 0).calls.2.toNat : Int), .int .u32 ((newV 0).car.toNat : Int)] 59)
  change Blk (w5.alloc (.cells #[.int .i64 0, .int .i64 0, .int .i64 0, .int .i64 0, .int .i64 2, .int .i64 0, .int .u32 0, .int .u32 0, .int .u32 0] 59)) _ _ at BR
  change Below _ _ (w5.alloc (.cells #[.int .i64 0, .int .i64 0, .int .i64 0, .int .i64 0, .int .i64 2, .int .i64 0, .int .u32 0, .int .u32 0, .int .u32 0] 59)) at hbr
  have hg6l : (w5.alloc (.cells #[.int .i64 0, .int .i64 0, .int .i64 0, .int .i64 0, .int .i64 2, .int .i64 0, .int .u32 0, .int .u32 0, .int .u32 0] 59)).heap.size = w5.heap.size + 1 := by simp
  have HR6 := Lib.hid BR; have HB6 := Lib.hid hbr
  clear BR hbr
  generalize w5.alloc (.cells #[.int .i64 0, .int .i64 0, .int .i64 0, .int .i64 0, .int .i64 2, .int .i64 0, .int .u32 0, .int .u32 0, .int .u32 0] 59) = w6 at *
  obtain ⟨g6, hg6⟩ : ∃ g6, w5.heap.size = g6 := ⟨_, rfl⟩
  rw [hg6] at HR6 hg6l hg5l ⊢
  have HG6 := Lib.hid hg6
  clear hg6
  go_wp2_with fail
  go_loopw [7, 8] (fun v7 v8 wr => ∃ (i : Nat) (s : RelV) (L : List MarkV), i ≤ 300 ∧ v8 = .int .i64 (i : Int) ∧ TrOk b1.fl (hallC b1) ⟨kc.st, kc.tr, kc.dw⟩ i s L ∧ Blk wr g6 [.int .i64 s.st, .int .i64 s.fl, .int .i64 s.dr, .int .i64 s.op, .int .i64 s.dor, .int .i64 s.tm, .int .u32 (s.calls.1.toNat : Int), .int .u32 (s.calls.2.toNat : Int), .int .u32 (s.car.toNat : Int)] ∧ wr.ownsRow w6.heap.size 51 5 v7 L.length (markCells L) ∧ Below g6 w5 wr) (fun _ v8 _ => 300 - (intOf v8).toNat)
  case atStart => exact ⟨0, newV 0, [], by omega, rfl, trOk_zero _ _ _, HR6.out, World.ownsRow_nil _ _ _ _, by rw [← HG6.out]; exact HB6.out⟩
  case round =>
    clear HR6 HB6
    obtain ⟨i, s, L, hi, rfl, htr, hR, hO, hB⟩ := hrel
    have HTR := Lib.hid htr; have HR := Lib.hid hR; have HO := Lib.hid hO; have HB := Lib.hid hB
    have HLL := Lib.hid (trOk_len htr)
    have HOK := Lib.hid (trOk_ok (hall_ok HV1.out) HCF.out htr)
    have HALW : Hid (∀ W, Below g6 wr W → Blk W g5 [.int .i64 b1.fl, .int .i64 b1.deb, .int .i64 b1.room, .int .i64 b1.park, .float .f64 b1.em, .float .f64 b1.fu, .float .f64 b1.ov, .slice (some ⟨g, 0, none⟩) b1.cars.length cap] ∧ RdC W (some ⟨g, 0, none⟩) b1.cars ∧ RdU W ql l ∧ Below w.heap.size w W) := Lib.hid fun W h => by
      refine HALL.out W ?_
      rw [HG6.out]
      exact HB.out.trans h
    clear htr hR hO hB
    have hg6r : g6 < wr.heap.size := HR.out.lt
    by_cases hlt : i < 300
    rotate_left 1
    · have hd : decide ((i : Int) < 300) = false := by simp; omega
      obtain ⟨q9, cap9, rfl⟩ := row_form HO.out
      have HKE : Hid (∀ W, Below g6 wr W → RdM W q9 L → Calls Try.prog 14 #[cvB b1 (some ⟨g, 0, none⟩) cap, .int .i64 0, .slice q9 L.length cap9] W fun e w' => e = .returned (.bool true) ∧ Below W.heap.size W w') := Lib.hid fun W h hm => by
        have hh := keeps_any b1 (some ⟨g, 0, none⟩) cap 0 L q9 cap9 W (by rw [HLN.out]; omega) (HALW.out W h).2.1 (by rw [HLL.out]; unfold maxLen; omega) hm
        rw [trOk_keeps HV1.out HCF.out HDL.out (by omega) HTR.out] at hh
        exact hh
      have HKE2 := Lib.hid (HKE.out wr (Below.refl _ _) (rdM_of_owns HO.out rfl))
      have hWr := (HALW.out wr (Below.refl _ _)).2.2.2
      have HWr := Lib.hid hWr
      have XB := (HALW.out wr (Below.refl _ _)).1
      have k0 := (XB).cell 0 _ rfl
      have k1 := (XB).cell 1 _ rfl
      have k2 := (XB).cell 2 _ rfl
      have k3 := (XB).cell 3 _ rfl
      have k4 := (XB).cell 4 _ rfl
      have k5 := (XB).cell 5 _ rfl
      have k6 := (XB).cell 6 _ rfl
      have k7 := (XB).cell 7 _ rfl
      clear XB hWr
      go_wp2_with fail
      refine HKE2.out.mono ?_
      rintro e z1 ⟨rfl, hb1⟩
      have HW1 := Lib.hid (HWr.out.trans (hb1.mono HWr.out.size))
      clear hb1 k0 k1 k2 k3 k4 k5 k6 k7
      go_wp2_with fail
      refine (sane18_any _).mono ?_
      rintro e z2 ⟨rfl, hb2⟩
      go_wp2_with fail
      go_ret
      exact ⟨rfl, HW1.out.trans (hb2.mono HW1.out.size)⟩
    have hd : decide ((i : Int) < 300) = true := by simp; omega
    obtain ⟨wo, hwo⟩ : ∃ wo, wo = wr := ⟨_, rfl⟩
    subst hwo
    go_upto_block 2 with fail
    clear hd
    have BX := Blk.new wo [.int .u8 ((0 : Nat) : Int), .int .u8 ((0 : Nat) : Int), .int .u8 ((0 : Nat) : Int)] 61
    have hbx := below1' wo (.cells #[.int .u8 ((0 : Nat) : Int), .int .u8 ((0 : Nat) : Int), .int .u8 ((0 : Nat) : Int)] 61)
    change Blk (wo.alloc (.cells #[.int .u8 0, .int .u8 0, .int .u8 0] 61)) _ _ at BX
    change Below _ _ (wo.alloc (.cells #[.int .u8 0, .int .u8 0, .int .u8 0] 61)) at hbx
    have hgxl : wo.heap.size < (wo.alloc (.cells #[.int .u8 0, .int .u8 0, .int .u8 0] 61)).heap.size := by simp
    have HX7 := Lib.hid BX; have HB7 := Lib.hid hbx
    clear BX hbx
    generalize wo.alloc (.cells #[.int .u8 0, .int .u8 0, .int .u8 0] 61) = w7 at *
    obtain ⟨gx, hgx⟩ : ∃ gx, wo.heap.size = gx := ⟨_, rfl⟩
    rw [hgx] at HX7 hgxl HB7 hg6r ⊢
    have HGX := Lib.hid hgx
    clear hgx
    have hi0 : (0 : Int) ≤ (i : Int) := by omega
    go_cut [] from 30 to 50 (fun wx => ∃ a0 a1 a2 : Nat, a0 < 256 ∧ a1 < 256 ∧ a2 < 256 ∧ Blk wx gx [.int .u8 (a0 : Int), .int .u8 (a1 : Int), .int .u8 (a2 : Int)] ∧ Below gx wo wx)
    case first =>
      go_wp2_with fail
      go_loopw [10] (fun v wx => ∃ (j a0 a1 a2 : Nat), j ≤ 3 ∧ v = .int .i64 (j : Int) ∧ a0 < 256 ∧ a1 < 256 ∧ a2 < 256 ∧ Blk wx gx [.int .u8 (a0 : Int), .int .u8 (a1 : Int), .int .u8 (a2 : Int)] ∧ Below gx wo wx) (fun v _ => 3 - (intOf v).toNat)
      case atStart => exact ⟨0, 0, 0, 0, by omega, rfl, by omega, by omega, by omega, HX7.out, HB7.out⟩
      case round =>
        obtain ⟨j, a0, a1, a2, hj, rfl, h0, h1, h2, hX, hB⟩ := hrel
        have HX := Lib.hid hX; have HBX := Lib.hid hB
        clear hX hB
        by_cases hlt3 : j < 3 ∧ 0 < nl
        rotate_left 1
        · have HEND : Hid (∃ a0 a1 a2 : Nat, a0 < 256 ∧ a1 < 256 ∧ a2 < 256 ∧ Blk wr gx [.int .u8 (a0 : Int), .int .u8 (a1 : Int), .int .u8 (a2 : Int)] ∧ Below gx wo wr) := Lib.hid ⟨a0, a1, a2, h0, h1, h2, HX.out, HBX.out⟩
          by_cases hj3 : j < 3
          · have hd : decide ((j : Int) < 3) = true := by simp; omega
            have hd2 : decide (0 < nl) = false := by simp; omega
            clear hlt3
            go_wp2_with fail
            go_meet
            exact HEND.out
          · have hd : decide ((j : Int) < 3) = false := by simp; omega
            clear hlt3
            go_wp2_with fail
            go_meet
            exact HEND.out
        · obtain ⟨hj3, hnl0⟩ := hlt3
          have hd : decide ((j : Int) < 3) = true := by simp; omega
          have hd2 : decide (0 < nl) = true := by simp; omega
          obtain ⟨rr, hrr⟩ : ∃ rr : Nat, (3 * (i : Int) + (j : Int)) % (nl : Int) = (rr : Int) := ⟨(3 * i + j) % nl, by simp⟩
          have hrn : rr < nl := by
            have := Int.emod_lt_of_pos (3 * (i : Int) + (j : Int)) (show (0 : Int) < (nl : Int) by omega)
            omega
          obtain ⟨y, hy⟩ : ∃ y, l[rr]? = some y := ⟨_, List.getElem?_eq_getElem (by rw [← HNL.out]; exact hrn)⟩
          have hWy : Below g6 wo wr := HBX.out.mono (Nat.le_of_lt hg6r)
          obtain ⟨hy256, A, hqA, hA, cA⟩ := (HALW.out wr hWy).2.2.1 rr y hy
          have hr0 : (0 : Int) ≤ (rr : Int) := by omega
          have hrni : (rr : Int) < (nl : Int) := by omega
          have hnz : ((nl : Int) == 0) = false := by simp; omega
          have hnz2 : ¬ (nl : Int) = 0 := by omega
          have hy0 : (0 : Int) ≤ (y : Int) := by omega
          subst hqA
          clear hy hA hWy hlt
          have hz : ∃ v, wr.cell? ⟨gx, j, none⟩ = some v := by
            have hj012 : j = 0 ∨ j = 1 ∨ j = 2 := by omega
            rcases hj012 with rfl | rfl | rfl
            · exact ⟨_, HX.out.cell 0 _ rfl⟩
            · exact ⟨_, HX.out.cell 1 _ rfl⟩
            · exact ⟨_, HX.out.cell 2 _ rfl⟩
          obtain ⟨zv, hz⟩ := hz
          have fz := HX.out.fr j
          have hj0i : (0 : Int) ≤ (j : Int) := by omega
          have hj3i : (j : Int) < 3 := by omega
          have HS := Lib.hid (HX.out.set j (.int .u8 (y : Int)))
          have HSB := Lib.hid (HBX.out.setCell (p := ⟨gx, j, none⟩) (Nat.le_refl _) (.int .u8 (y : Int)))
          go_wp2_with fail
          have hj012 : j = 0 ∨ j = 1 ∨ j = 2 := by omega
          rcases hj012 with rfl | rfl | rfl
          · exact ⟨⟨1, y, a1, a2, by omega, by rfl, hy256, h1, h2, HS.out, HSB.out⟩, by simp [intOf]⟩
          · exact ⟨⟨2, a0, y, a2, by omega, by rfl, h0, hy256, h2, HS.out, HSB.out⟩, by simp [intOf]⟩
          · exact ⟨⟨3, a0, a1, y, by omega, by rfl, h0, h1, hy256, HS.out, HSB.out⟩, by simp [intOf]⟩
    case rest =>
    obtain ⟨a0, a1, a2, h0, h1, h2, hX, hB⟩ := hcut
    generalize wc = w8 at *
    have HX8 := Lib.hid hX; have HB8 := Lib.hid hB
    clear hX hB HX7 HB7
    obtain ⟨v01, hv01⟩ := u8_nat (Int.emod_nonneg (bits BinOp.and IntKind.u8 (a0 : Int) (a1 : Int)) (show (4294967296 : Int) ≠ 0 by omega)) (Int.emod_lt_of_pos _ (by omega))
    obtain ⟨v12, hv12⟩ := u8_nat (Int.emod_nonneg (bits BinOp.and IntKind.u8 (a1 : Int) (a2 : Int)) (show (4294967296 : Int) ≠ 0 by omega)) (Int.emod_lt_of_pos _ (by omega))
    obtain ⟨v20, hv20⟩ := u8_nat (Int.emod_nonneg (bits BinOp.and IntKind.u8 (a2 : Int) (a0 : Int)) (show (4294967296 : Int) ≠ 0 by omega)) (Int.emod_lt_of_pos _ (by omega))
    have z0 := (HX8.out).cell 0 _ rfl
    have z1 := (HX8.out).cell 1 _ rfl
    have z2 := (HX8.out).cell 2 _ rfl
    go_upto_if 66 with fail
    have BC := Blk.new w8 [.int .u32 (v01.toNat : Int), .int .u32 (v12.toNat : Int)] 45
    have hbc := below1' w8 (.cells #[.int .u32 (v01.toNat : Int), .int .u32 (v12.toNat : Int)] 45)
    change Blk (w8.alloc (.cells #[.int .u32 (v01.toNat : Int), .int .u32 (v12.toNat : Int)] 45)) _ _ at BC
    have hgxc : gx < w8.heap.size := HX8.out.lt
    have HC9 := Lib.hid BC; have HX9 := Lib.hid (HX8.out.next hbc)
    have HB9 := Lib.hid (HB8.out.trans (hbc.mono (Nat.le_of_lt hgxc)))
    clear BC hbc z0 z1 z2 HX8 HB8 hv01 hv12
    generalize w8.alloc (.cells #[.int .u32 (v01.toNat : Int), .int .u32 (v12.toNat : Int)] 45) = w9 at *
    generalize w8.heap.size = gc at *
    have HB9c := Lib.hid (Below.refl gc w9)
    go_cut [] from 64 to 67 (fun wx => ∃ cI : CS, Blk wx gc [.int .u32 (cI.1.toNat : Int), .int .u32 (cI.2.toNat : Int)] ∧ Below gc w9 wx)
    case first =>
      cases e3 : ((i : Int) % 3 != 0)
      · go_wp2_with fail
        go_meet
        exact ⟨(v01, v12), HC9.out, HB9c.out⟩
      · have z0 := HC9.out.cell 0 _ rfl; have z1 := HC9.out.cell 1 _ rfl
        have f0 := HC9.out.fr 0; have f1 := HC9.out.fr 1
        go_wp2_with fail
        go_meet
        exact ⟨(0#32, 0#32), (HC9.out.set 0 (.int .u32 0)).set 1 (.int .u32 0), (HB9c.out.setCell (p := ⟨gc, 0, none⟩) (Nat.le_refl _) (.int .u32 0)).setCell (p := ⟨gc, 1, none⟩) (Nat.le_refl _) (.int .u32 0)⟩
    case rest =>
    obtain ⟨cI, hC, hBc⟩ := hcut
    generalize wc = w10 at *
    have HC10 := Lib.hid hC; have HX10 := Lib.hid (HX9.out.later hBc hgxc)
    have HB10 := Lib.hid (HB9.out.trans (hBc.mono (Nat.le_of_lt hgxc)))
    clear hC hBc HC9 HX9 HB9 HB9c
    obtain ⟨ci1, ci2⟩ := cI
    have hs10 : gx ≤ w10.heap.size := Nat.le_of_lt HX10.out.lt
    have HO10 : Hid (w10.ownsRow w6.heap.size 51 5 u7 L.length (markCells L)) := Lib.hid (rowLater HO.out (by rw [HGX.out]; exact HB10.out))
    have HR10 : Hid (Blk w10 g6 [.int .i64 s.st, .int .i64 s.fl, .int .i64 s.dr, .int .i64 s.op, .int .i64 s.dor, .int .i64 s.tm, .int .u32 (s.calls.1.toNat : Int), .int .u32 (s.calls.2.toNat : Int), .int .u32 (s.car.toNat : Int)]) := Lib.hid (HR.out.next (by rw [HGX.out]; exact HB10.out))
    have HBW : Hid (∀ W, Below w10.heap.size w10 W → Below g6 wo W) := Lib.hid fun W h => (HB10.out.mono (Nat.le_of_lt hg6r)).trans (h.mono (Nat.le_of_lt (Nat.lt_of_lt_of_le hg6r hs10)))
    obtain ⟨xb, hxb⟩ : ∃ xb, (if s.st = 1 then 0#32 else bit s.fl) = xb := ⟨_, rfl⟩
    obtain ⟨fo, hfo⟩ : ∃ fo, (obsR s).1 = fo := ⟨_, rfl⟩
    have hsf := HOK.out.fl
    have hsd := HOK.out.dr
    have HFO : Hid (∀ W, Calls Try.prog 39 #[.int .i64 b1.fl, .int .u32 (xb.toNat : Int)] W fun e w' => e = .returned (.int .i64 fo) ∧ Below W.heap.size W w') := Lib.hid fun W => by
      have hf1 := HF1.out
      by_cases h1 : s.st = 1
      · have e1 : xb = 0#32 := by rw [← hxb, if_pos h1]
        have e2 : fo = -1 := by rw [← hfo]; show (if s.st = 1 then (-1 : Int) else s.fl) = -1; rw [if_pos h1]
        rw [e1, e2]
        exact floorNo_any b1.fl W ⟨hf1.1, by omega⟩
      · obtain ⟨p, hp⟩ := Int.eq_ofNat_of_zero_le hsf.1
        have e1 : xb = bit (p : Int) := by rw [← hxb, if_neg h1, hp]
        have e2 : fo = (p : Int) := by rw [← hfo]; show (if s.st = 1 then (-1 : Int) else s.fl) = p; rw [if_neg h1, hp]
        rw [e1, e2]
        exact floorAt_any b1.fl p W ⟨hf1.1, by omega⟩ (by omega)
    have hdor : s.dor = 0 ∨ s.dor = 1 ∨ s.dor = 2 := by
      rw [HOK.out.dor]
      unfold doorOf
      repeat' split
      all_goals omega
    have HCT : Hid (∀ W, Calls Try.prog 27 #[cvRel s] W fun e w' => e = .returned (.agg #[.int .u32 (xb.toNat : Int), .bool (s.dr == 1), .bool (s.dr == 2), .bool (s.dor == 1), .bool (s.dor == 2)]) ∧ Below W.heap.size W w') := Lib.hid fun W => by
      have hf1 := HF1.out
      rw [← hxb]; exact contacts_any s W ⟨hsf.1, by omega⟩
    have HDE : Hid (∀ W, Calls Try.prog 26 #[.int .i64 b1.fl, .agg #[.int .u32 (xb.toNat : Int), .bool (s.dr == 1), .bool (s.dr == 2), .bool (s.dor == 1), .bool (s.dor == 2)]] W fun e w' => e = .returned (.agg #[.int .i64 fo, .int .i64 s.dr, .int .i64 s.dor]) ∧ Below W.heap.size W w') := Lib.hid fun W => decode_any b1.fl xb fo s.dr s.dor W HFO (by omega) hdor
    have HOB : Hid (obsR s = (fo, s.dr, s.dor)) := Lib.hid (by rw [← hfo]; rfl)
    have HSTP : Hid (∀ W, Below g6 wo W → Calls Try.prog 28 #[cvB b1 (some ⟨g, 0, none⟩) cap, .int .i64 0, cvRel s, cv (ci1, ci2), .int .u32 (v20.toNat : Int)] W fun e w' => e = .returned (cvRel (stepV b1.fl (hallC b1) ⟨kc.st, kc.tr, kc.dw⟩ s (ci1, ci2) v20)) ∧ Below W.heap.size W w') := Lib.hid fun W h => by
      have hf1 := HF1.out
      exact step_any b1 g cap kc s (ci1, ci2) v20 W HV1.out HC0.out HCF.out (by omega) HOK.out (by rw [HLN.out]; omega) HSL.out (HALW.out W h).2.1
    clear hxb hfo HFO hdor hsf hsd
    have HT11 : Hid (TrOk b1.fl (hallC b1) ⟨kc.st, kc.tr, kc.dw⟩ (i + 1) (stepV b1.fl (hallC b1) ⟨kc.st, kc.tr, kc.dw⟩ s (ci1, ci2) v20) (L ++ [((ci1, ci2), (fo, s.dr, s.dor))])) := Lib.hid (by rw [← HOB.out]; exact trOk_step HTR.out (ci1, ci2) v20)
    generalize stepV b1.fl (hallC b1) ⟨kc.st, kc.tr, kc.dw⟩ s (ci1, ci2) v20 = s2 at *
    dsimp only [cvRel] at HCT HDE HSTP
    generalize hq1 : (s.dr == 1) = q1 at *
    generalize hq2 : (s.dr == 2) = q2 at *
    generalize hq3 : (s.dor == 1) = q3 at *
    generalize hq4 : (s.dor == 2) = q4 at *
    clear hq1 hq2 hq3 hq4 HOB
    have XB := (HALW.out w10 (HBW.out w10 (Below.refl _ _))).1
    have k0 := (XB).reg 0 _ rfl
    clear XB
    have y0 := (HR10.out).reg 0 _ rfl
    have y1 := (HR10.out).reg 1 _ rfl
    have y2 := (HR10.out).reg 2 _ rfl
    have y3 := (HR10.out).reg 3 _ rfl
    have y4 := (HR10.out).reg 4 _ rfl
    have y5 := (HR10.out).reg 5 _ rfl
    have y6 := (HR10.out).reg 6 _ rfl
    have y7 := (HR10.out).reg 7 _ rfl
    have y8 := (HR10.out).reg 8 _ rfl
    have c0 := (HC10.out).reg 0 _ rfl
    have c1 := (HC10.out).reg 1 _ rfl
    have hlo : w10.heap.size ≤ w10.drew.heap.size := Nat.le_refl _
    go_upto_region 16 with fail
    refine Grow.wp_region_tail 9 (mkPlan 8 newS w10.heap.size (MarkV.cells ((ci1, ci2), (fo, s.dr, s.dor)))) (mkPlan_stable _ _ _ _) (by kernel_rfl) (by kernel_rfl) ?_
    intro opsq Hopsq
    simp only [List.take_succ_cons, List.take_zero, List.drop_succ_cons, List.drop_zero]
    repeat (first | (refine Grow.lex_move rfl ?_ rfl ?_; (· first | exact Grow.wanted_none | (rw [Hopsq.out]; rfl)); intro K hK; simp only [Grow.put_lit, Grow.setAt, Grow.eval_lit, Grow.ev]; refine hK _ _ ?_; clear hK K) | (refine Grow.lex_assign rfl ?_ rfl ?_; (· first | exact Grow.wanted_none | (rw [Hopsq.out]; rfl)); intro K hK; simp only [Grow.put_lit, Grow.setAt, Grow.eval_lit, Grow.ev]; refine hK _ _ ?_; clear hK K) | (refine Grow.lex_plain rfl rfl ?_ rfl ?_; (· first | exact Grow.wanted_none | (rw [Hopsq.out]; rfl)); apply Exists.intro; refine ⟨fun wq hCq _ => ?_, ?_⟩; (· (go_wp2_with fail; refine ⟨rfl, Below.refl _ _, ?_⟩; simp only [Grow.getD_lit, Grow.nth]; rfl)); intro K hK; simp only [Grow.put_lit, Grow.setAt]; refine hK _ _ ?_; clear hK K) | (refine Grow.lex_nilCheck rfl rfl ?_ rfl ?_; (· first | exact Grow.wanted_none | (rw [Hopsq.out]; rfl)); intro K hK; simp only [Grow.put_lit, Grow.setAt]; refine hK _ _ ?_; clear hK K) | (refine Grow.lex_skip ?_ ?_; (· (rw [Hopsq.out]; rfl)); intro K hK; simp only [Grow.put_lit, Grow.setAt]; refine hK _ _ ?_; clear hK K))
    (refine Grow.lex_call ?_ rfl ?_; (· first | exact Grow.wanted_none | (rw [Hopsq.out]; rfl)); apply Exists.intro; apply Exists.intro; refine ⟨fun wq => ?_, ?_⟩; (· (go_simp; exact ⟨rfl, rfl⟩)); apply Exists.intro; refine ⟨fun wq hCq hKq => ?_, ?_⟩; (· exact HCT.out _); intro K hK; simp only [Grow.put_lit, Grow.setAt]; refine hK _ _ ?_; clear hK K)
    repeat (first | (refine Grow.lex_move rfl ?_ rfl ?_; (· first | exact Grow.wanted_none | (rw [Hopsq.out]; rfl)); intro K hK; simp only [Grow.put_lit, Grow.setAt, Grow.eval_lit, Grow.ev]; refine hK _ _ ?_; clear hK K) | (refine Grow.lex_assign rfl ?_ rfl ?_; (· first | exact Grow.wanted_none | (rw [Hopsq.out]; rfl)); intro K hK; simp only [Grow.put_lit, Grow.setAt, Grow.eval_lit, Grow.ev]; refine hK _ _ ?_; clear hK K) | (refine Grow.lex_plain rfl rfl ?_ rfl ?_; (· first | exact Grow.wanted_none | (rw [Hopsq.out]; rfl)); apply Exists.intro; refine ⟨fun wq hCq _ => ?_, ?_⟩; (· (go_wp2_with fail; refine ⟨rfl, Below.refl _ _, ?_⟩; simp only [Grow.getD_lit, Grow.nth]; rfl)); intro K hK; simp only [Grow.put_lit, Grow.setAt]; refine hK _ _ ?_; clear hK K) | (refine Grow.lex_nilCheck rfl rfl ?_ rfl ?_; (· first | exact Grow.wanted_none | (rw [Hopsq.out]; rfl)); intro K hK; simp only [Grow.put_lit, Grow.setAt]; refine hK _ _ ?_; clear hK K) | (refine Grow.lex_skip ?_ ?_; (· (rw [Hopsq.out]; rfl)); intro K hK; simp only [Grow.put_lit, Grow.setAt]; refine hK _ _ ?_; clear hK K))
    (refine Grow.lex_call ?_ rfl ?_; (· first | exact Grow.wanted_none | (rw [Hopsq.out]; rfl)); apply Exists.intro; apply Exists.intro; refine ⟨fun wq => ?_, ?_⟩; (· (go_simp; exact ⟨rfl, rfl⟩)); apply Exists.intro; refine ⟨fun wq hCq hKq => ?_, ?_⟩; (· exact HDE.out _); intro K hK; simp only [Grow.put_lit, Grow.setAt]; refine hK _ _ ?_; clear hK K)
    repeat (first | (refine Grow.lex_move rfl ?_ rfl ?_; (· first | exact Grow.wanted_none | (rw [Hopsq.out]; rfl)); intro K hK; simp only [Grow.put_lit, Grow.setAt, Grow.eval_lit, Grow.ev]; refine hK _ _ ?_; clear hK K) | (refine Grow.lex_assign rfl ?_ rfl ?_; (· first | exact Grow.wanted_none | (rw [Hopsq.out]; rfl)); intro K hK; simp only [Grow.put_lit, Grow.setAt, Grow.eval_lit, Grow.ev]; refine hK _ _ ?_; clear hK K) | (refine Grow.lex_plain rfl rfl ?_ rfl ?_; (· first | exact Grow.wanted_none | (rw [Hopsq.out]; rfl)); apply Exists.intro; refine ⟨fun wq hCq _ => ?_, ?_⟩; (· (go_wp2_with fail; refine ⟨rfl, Below.refl _ _, ?_⟩; simp only [Grow.getD_lit, Grow.nth]; rfl)); intro K hK; simp only [Grow.put_lit, Grow.setAt]; refine hK _ _ ?_; clear hK K) | (refine Grow.lex_nilCheck rfl rfl ?_ rfl ?_; (· first | exact Grow.wanted_none | (rw [Hopsq.out]; rfl)); intro K hK; simp only [Grow.put_lit, Grow.setAt]; refine hK _ _ ?_; clear hK K) | (refine Grow.lex_skip ?_ ?_; (· (rw [Hopsq.out]; rfl)); intro K hK; simp only [Grow.put_lit, Grow.setAt]; refine hK _ _ ?_; clear hK K))
    refine lex_mk 8 newS w10.heap.size (MarkV.cells ((ci1, ci2), (fo, s.dr, s.dor))) 51 ?_ (fun wq => ?_) hlo ?_
    · first | exact Grow.wanted_none | (rw [Hopsq.out]; rfl)
    · go_simp
      first | rfl | exact ⟨rfl, rfl⟩
    intro gs hgs
    simp only [Grow.put_lit, Grow.setAt]
    refine Grow.lex_nil ?_
    intro w11 hb11 hTq
    have BG := mk_blk newS_inj hTq
    replace hb11 := Grow.Cl.base hb11
    clear hTq Hopsq opsq k0 y0 y1 y2 y3 y4 y5 y6 y7 y8 c0 c1 hlo
    have HNW := Lib.hid (blk_news BG)
    have HO11 := Lib.hid (rowLater HO10.out hb11); have HR11 := Lib.hid (HR10.out.next hb11); have HC11 := Lib.hid (HC10.out.next hb11); have HX11 := Lib.hid (HX10.out.next hb11); have HB11 := Lib.hid (HBW.out w11 hb11)
    have hs11 : w6.heap.size ≤ w11.heap.size := by have h2 := hb11.size; omega
    clear BG hb11 HO10 HR10 HC10 HX10
    have hL300 : L.length ≤ 300 := by rw [HLL.out]; exact hi
    simp only [newS]
    go_wp2_with ((at_builtin; refine wpList_append_own _ rfl _ _ 24 rfl w6.heap.size 51 i0 (.agg #[.int .u32 0, .int .u32 0, .int .i64 0, .int .i64 0, .int .i64 0]) 5 32 Try.underlying24 Hi.out Hz0.out Hz1.out Hz2.out rfl (by decide) _ _ _ rfl HO11.out ⟨gs, 0, none⟩ 1 1 (MarkV.cells ((ci1, ci2), (fo, s.dr, s.dor))) rfl rfl HNW.out (mark_one _) (by unfold maxLen; omega) (by omega) hs11 ?_))
    intro v' w12 hown2 hg12 _
    have hrow : ∀ gg, gx ≤ gg → some gg ≠ u7.ownBlock := fun gg hgg e => by
      have h1 := (HO.out.lt gg e.symm).2
      have h2 := HGX.out
      omega
    have hrow6 : some g6 ≠ u7.ownBlock := fun e => by
      have h1 := (HO.out.lt g6 e.symm).1
      omega
    have HR12 := Lib.hid (HR11.out.grown hg12 hrow6)
    have HC12 := Lib.hid (HC11.out.grown hg12 (hrow gc (by omega)))
    have HX12 := Lib.hid (HX11.out.grown hg12 (hrow gx (by omega)))
    have hg6s : g6 ≤ w11.heap.size := by omega
    have HB12 := Lib.hid (HB11.out.grown hg12 hg6s (fun q hq => by have h1 := (HO.out.lt q hq).1; omega))
    have HO12 : Hid (w12.ownsRow w6.heap.size 51 5 v' (L ++ [((ci1, ci2), (fo, s.dr, s.dor))]).length (markCells (L ++ [((ci1, ci2), (fo, s.dr, s.dor))]))) := Lib.hid (by
      rw [markCells_snoc, List.length_append, hg6l]; exact hown2)
    clear hown2 hg12 hrow hrow6 HO11 HR11 HC11 HX11 HB11 HNW
    have XB := (HALW.out w12 HB12.out).1
    have k0 := (XB).cell 0 _ rfl
    have k1 := (XB).cell 1 _ rfl
    have k2 := (XB).cell 2 _ rfl
    have k3 := (XB).cell 3 _ rfl
    have k4 := (XB).cell 4 _ rfl
    have k5 := (XB).cell 5 _ rfl
    have k6 := (XB).cell 6 _ rfl
    have k7 := (XB).cell 7 _ rfl
    clear XB
    have y0 := (HR12.out).cell 0 _ rfl
    have y1 := (HR12.out).cell 1 _ rfl
    have y2 := (HR12.out).cell 2 _ rfl
    have y3 := (HR12.out).cell 3 _ rfl
    have y4 := (HR12.out).cell 4 _ rfl
    have y5 := (HR12.out).cell 5 _ rfl
    have y6 := (HR12.out).cell 6 _ rfl
    have y7 := (HR12.out).cell 7 _ rfl
    have y8 := (HR12.out).cell 8 _ rfl
    have c0 := (HC12.out).cell 0 _ rfl
    have c1 := (HC12.out).cell 1 _ rfl
    have z0 := (HX12.out).cell 0 _ rfl
    have z1 := (HX12.out).cell 1 _ rfl
    have z2 := (HX12.out).cell 2 _ rfl
    have HSTP2 := Lib.hid (HSTP.out w12 HB12.out)
    clear HSTP HCT HDE
    go_wp2_with fail
    refine HSTP2.out.mono ?_
    rintro e w13 ⟨rfl, hb⟩
    have HR13 := Lib.hid (HR12.out.next hb); have HO13 := Lib.hid (rowLater HO12.out hb)
    have HB13 := Lib.hid (HB12.out.trans (hb.mono (by have := HR12.out.lt; omega)))
    clear hb k0 k1 k2 k3 k4 k5 k6 k7 y0 y1 y2 y3 y4 y5 y6 y7 y8 c0 c1 z0 z1 z2 HR12 HO12 HC12 HX12 HB12 HSTP2
    obtain ⟨x0, x1, x2, x3, x4, x5, ⟨x6, x7⟩, x8⟩ := s2
    have y0 := (HR13.out).cell 0 _ rfl
    have y1 := (HR13.out).cell 1 _ rfl
    have y2 := (HR13.out).cell 2 _ rfl
    have y3 := (HR13.out).cell 3 _ rfl
    have y4 := (HR13.out).cell 4 _ rfl
    have y5 := (HR13.out).cell 5 _ rfl
    have y6 := (HR13.out).cell 6 _ rfl
    have y7 := (HR13.out).cell 7 _ rfl
    have y8 := (HR13.out).cell 8 _ rfl
    have f0 := HR13.out.fr 0; have f1 := HR13.out.fr 1; have f2 := HR13.out.fr 2; have f3 := HR13.out.fr 3; have f4 := HR13.out.fr 4; have f5 := HR13.out.fr 5; have f6' := HR13.out.fr 6; have f7 := HR13.out.fr 7; have f8 := HR13.out.fr 8
    have HRE := Lib.hid (set9 HR13.out (.int .i64 x0) (.int .i64 x1) (.int .i64 x2) (.int .i64 x3) (.int .i64 x4) (.int .i64 x5) (.int .u32 (x6.toNat : Int)) (.int .u32 (x7.toNat : Int)) (.int .u32 (x8.toNat : Int)))
    have HBE := Lib.hid (low9 HB13.out (Nat.le_refl _) (.int .i64 x0) (.int .i64 x1) (.int .i64 x2) (.int .i64 x3) (.int .i64 x4) (.int .i64 x5) (.int .u32 (x6.toNat : Int)) (.int .u32 (x7.toNat : Int)) (.int .u32 (x8.toNat : Int)))
    have hne6 : some g6 ≠ v'.ownBlock := fun e => by
      have h1 := (HO13.out.lt g6 e.symm).1
      omega
    have HOE := Lib.hid (row_set (i := 8) (u := .int .u32 (x8.toNat : Int)) (row_set (i := 7) (u := .int .u32 (x7.toNat : Int)) (row_set (i := 6) (u := .int .u32 (x6.toNat : Int)) (row_set (i := 5) (u := .int .i64 x5) (row_set (i := 4) (u := .int .i64 x4) (row_set (i := 3) (u := .int .i64 x3) (row_set (i := 2) (u := .int .i64 x2) (row_set (i := 1) (u := .int .i64 x1) (row_set (i := 0) (u := .int .i64 x0) HO13.out hne6) hne6) hne6) hne6) hne6) hne6) hne6) hne6) hne6)
    have HBF := Lib.hid (HB.out.trans HBE.out)
    clear HR13 HO13 HB13 hne6
    go_wp2_with fail
    exact ⟨⟨i + 1, ⟨x0, x1, x2, x3, x4, x5, (x6, x7), x8⟩, L ++ [((ci1, ci2), (fo, s.dr, s.dor))], by omega, by go_num, HT11.out, HRE.out, HOE.out, HBF.out⟩, by simp [intOf]; omega⟩
end Rel
open Go.ChangeShapes Go.WideShapes Go.ChangeAt Go.RowKit
set_option maxHeartbeats 1000000 in
set_option maxRecDepth 100000 in
theorem contractRelays_lifted (os : Os) (started : os.Started) (H : Type) (enc : TypeId × Value → H) :
    ReturnsInHanded {} Try.checked os 6 .any (Rows.contractRelaysSpec.pre6 enc Try.prog Try.f6 Rows.contractRelaysRow.domain false) (Rows.contractRelaysSpec.post enc Try.prog Try.f6 false true false false) := by
  refine law_lifted (C := Try.checked) own laidOut started (by kernel_rfl) Try.func6 4 rfl Try.underlying4 (by kernel_rfl) rfl H enc
    (fun ds h => by match ds, h with | [d0, d1], _ => rfl)
    (ChangeSpec.witness6 (enc := enc) (C := Try.checked) false ⟨#[], #[.agg #[.int .u8 0, .int .u8 0], .slice none 0 0], []⟩ 8 (by kernel_rfl) (by kernel_rfl) (by kernel_rfl) (by kernel_rfl)) ?_
  intro W base args ds ps hval hA hsz
  have hA' : DataW.TrodAll enc Try.prog W 0 (fun _ => true) true Try.f6.params.toList args.toList ds ps := hA
  have hval' : ∀ (j : Nat) t v, Try.f6.params[j]? = some t → args[j]? = some v → Value.okWide Try.prog W .any base t v := hval
  rw [Try.params6] at hA' hval'
  obtain ⟨v0, vs0, d0, ds0, p0, q0, hargs, rfl, rfl, h0, r0⟩ := trodAll_cons hA'
  obtain ⟨v1, vs1, d1, ds1, p1, q1, rfl, rfl, rfl, h1, r1⟩ := trodAll_cons r0
  obtain ⟨rfl, rfl, rfl⟩ := trodAll_nil r1
  obtain rfl : args = #[v0, v1] := by cases args; simp_all
  obtain ⟨n0, t0, rfl, hn0, ht0⟩ := open_u8x2 (hval' 0 22 v0 rfl rfl) h0
  obtain ⟨l1, q1x, cap1, rfl, hl1, hu1⟩ := open_u8s (hval' 1 23 v1 rfl rfl) h1
  exact Rel.relays_walk n0 t0 l1 q1x cap1 W hn0 ht0 hl1 hu1

theorem contractRelays_over : Rows.contractRelaysRow.holds Try.pinned (OpenSpec.ofChange Rows.contractRelaysSpec) :=
  OpenClaim.holds_of_wide 6 Try.f6 rfl rfl rfl rfl rfl rfl rfl ⟨rfl, rfl, rfl, rfl, rfl⟩ rfl rfl rfl rfl rfl (by kernel_rfl) Try.func6 (by kernel_rfl)
    (of_decide_eq_true (by kernel_rfl)) (by unfold Func.isWrapper; first | (rw [if_pos (by decide +kernel)]; kernel_rfl) | (rw [if_neg (by decide +kernel)]; exact ⟨rfl, rfl⟩))
    (fun os started H enc _ => contractRelays_lifted os started H enc)

/-- THE STATEMENT. -/
theorem contractRelays_holds : Rows.ContractRelaysSaid := contractRelays_over
#print axioms contractRelays_holds
end Go.Proofs.Ytfmmiafdlfdfoaa
