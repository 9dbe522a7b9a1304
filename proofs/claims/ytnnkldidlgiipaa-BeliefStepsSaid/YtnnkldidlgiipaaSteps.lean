/- BeliefSteps: the belief behind an observation, a blind tick, an injection and forgetting. The law's function answers true at every argument. Conditions: none. -/
import Derived.Test.YtnnkldidlgiipaaLawSame
import Derived.Test.YtnnkldidlgiipaaPlaces
import Derived.Test.YtnnkldidlgiipaaArgsBel
namespace Go.Proofs.Ytnnkldidlgiipaa
open Go.ChangeShapes Go.WideShapes Go.ChangeAt Go.RowKit
attribute [local go_sem] run_store_float
def zBld : BldV := ⟨0, 0, 0, 0, 0, 0, 0, []⟩
theorem RdB.at {w : World} {q : Option Addr} {l : List BelE} (h : RdB w q l) {i : Nat} {e : BelE} (hi : l[i]? = some e) : ∃ A, q = some A ∧ A.block < w.heap.size ∧ RdD w e.2.1 e.1.du ∧
    w.cell? (A.add (i * 6)) = some (.int .i64 e.1.fl) ∧ w.cell? ⟨(A.add (i * 6)).block, (A.add (i * 6)).off + 1, none⟩ = some (.int .i64 e.1.dir) ∧ w.cell? ⟨(A.add (i * 6)).block, (A.add (i * 6)).off + 2, none⟩ = some (.int .i64 e.1.door) ∧
    w.cell? ⟨(A.add (i * 6)).block, (A.add (i * 6)).off + 3, none⟩ = some (.slice e.2.1 e.1.du.length e.2.2) ∧ w.cell? ⟨(A.add (i * 6)).block, (A.add (i * 6)).off + 4, none⟩ = some (.int .i64 e.1.still) ∧ w.cell? ⟨(A.add (i * 6)).block, (A.add (i * 6)).off + 5, none⟩ = some (.bool e.1.late) := by
  obtain ⟨A, hq, hA, hc, hd⟩ := h i e hi
  refine ⟨A, hq, hA, hd, hc 0 _ rfl, ?_, ?_, ?_, ?_, ?_⟩
  · rw [← addr_one]; exact hc 1 _ rfl
  · rw [← addr_one]; exact hc 2 _ rfl
  · rw [← addr_one]; exact hc 3 _ rfl
  · rw [← addr_one]; exact hc 4 _ rfl
  · rw [← addr_one]; exact hc 5 _ rfl
theorem rdD_none (w : World) (q : Option Addr) : RdD w q [] := fun i d h => by simp at h
theorem cl_cell {w : World} {a : Addr} {v : Value} (h : w.cell? a = some v) : ∀ W, Grow.Cl w.drew W → W.cell? a = some v := fun _ hW => cell_later (Grow.Cl.base hW) h
set_option maxHeartbeats 8000000 in
set_option maxRecDepth 100000 in
theorem steps_walk (n t : Nat) (l : List Nat) (ql : Option Addr) (capl : Nat) (x : List BelE) (qx : Option Addr) (capx : Nat) (w : World) (hn : n < 256) (ht : t < 256) (hl : l.length ≤ maxLen) (hu : RdU w ql l) (hxl : x.length ≤ maxLen) (hx : RdB w qx x) :
    Calls Try.prog 5 #[.agg #[.int .u8 n, .int .u8 t], .slice ql l.length capl, .slice qx x.length capx] w fun e w' => e = .returned (.bool true) ∧ Below w.heap.size w w' := by
  have X0 : Blk (w.alloc (.cells #[.int .u8 n, .int .u8 t] 22)) w.heap.size [.int .u8 n, .int .u8 t] := by
    have hx := Blk.new w [.int .u8 n, .int .u8 t] 22
    exact hx
  have XW : Below w.heap.size w (w.alloc (.cells #[.int .u8 n, .int .u8 t] 22)) := below1' w _
  have HWW := Lib.hid XW; have HX0 := Lib.hid X0
  clear XW X0
  have HU := Lib.hid (hu.next HWW.out); have HXB := Lib.hid (hx.next HWW.out)
  have HL2 := Lib.hid hl
  clear hu hx
  obtain ⟨nl, hnl⟩ : ∃ n, n = l.length := ⟨_, rfl⟩
  have HNL := Lib.hid hnl
  rw [← hnl] at hl ⊢
  clear hnl
  obtain ⟨nx, hnx⟩ : ∃ n, n = x.length := ⟨_, rfl⟩
  have HNX := Lib.hid hnx
  rw [← hnx] at hxl ⊢
  clear hnx
  unfold maxLen at hxl
  obtain ⟨un, hun⟩ := u8_nat (e := (n : Int)) (by omega) (by omega)
  obtain ⟨ut, hut⟩ := u8_nat (e := (t : Int)) (by omega) (by omega)
  have HUN := Lib.hid hun; have HUT := Lib.hid hut
  clear hun hut
  go_enter Try.func5, Try.ntmps5
  go_upto_region 1 with fail
  generalize (w.alloc (.cells #[.int .u8 n, .int .u8 t] 22)) = w0 at *
  have HW := Lib.hid (Below.refl w0.heap.size w0)
  have hz0 := HX0.out.lt
  have k0 := (HX0.out).cell 0 _ rfl
  have k1 := (HX0.out).cell 1 _ rfl
  go_wp2_with fail
  refine (b18_val2 n t _ hn ht).mono ?_
  rintro e w1 ⟨g, cap, rfl, hg0, hg1, hown, hr, hb⟩
  have HL1 : Hid ((b18 n t).cars.length ≤ 1000) := Lib.hid (by show (cars18 n t).length ≤ 1000; rw [cars18_len]; have := (k18_range n).2; omega)
  have HSL : Hid (∀ c ∈ (b18 n t).cars, -9223372036854775808 ≤ c.sl ∧ c.sl < 9223372036854775807) := Lib.hid (slack18 n t)
  have hfl : 2 ≤ (b18 n t).fl ∧ (b18 n t).fl ≤ 6 := fl18_range n
  have hcl : 1 ≤ (b18 n t).cars.length ∧ (b18 n t).cars.length ≤ 3 := by show 1 ≤ (cars18 n t).length ∧ (cars18 n t).length ≤ 3; rw [cars18_len]; exact k18_range n
  obtain ⟨hf2, hf6⟩ := hfl
  have HR1 := Lib.hid hr; have HB1 := Lib.hid (HW.out.trans (hb.mono HW.out.size))
  clear hown hr hb HW k0 k1
  generalize b18 n t = b at *
  go_upto_region 2 with fail
  have B5 := Blk.new w1 [.int .i64 b.fl, .int .i64 b.deb, .int .i64 b.room, .int .i64 b.park, .float .f64 b.em, .float .f64 b.fu, .float .f64 b.ov, .slice (some ⟨g, 0, none⟩) b.cars.length cap] 27
  have hb5 := below1' w1 (.cells #[.int .i64 b.fl, .int .i64 b.deb, .int .i64 b.room, .int .i64 b.park, .float .f64 b.em, .float .f64 b.fu, .float .f64 b.ov, .slice (some ⟨g, 0, none⟩) b.cars.length cap] 27)
  change Blk (w1.alloc (.cells #[.int .i64 b.fl, .int .i64 b.deb, .int .i64 b.room, .int .i64 b.park, .float .f64 b.em, .float .f64 b.fu, .float .f64 b.ov, .slice (some ⟨g, 0, none⟩) b.cars.length cap] 27)) _ _ at B5
  have HB3 := Lib.hid (HB1.out.trans (hb5.mono HB1.out.size))
  have HR3 := Lib.hid (HR1.out.next hb5)
  have HB5 := Lib.hid B5
  clear B5 hb5 HB1 HR1
  generalize w1.alloc (.cells #[.int .i64 b.fl, .int .i64 b.deb, .int .i64 b.room, .int .i64 b.park, .float .f64 b.em, .float .f64 b.fu, .float .f64 b.ov, .slice (some ⟨g, 0, none⟩) b.cars.length cap] 27) = w2 at *
  generalize w1.heap.size = g5 at *
  have hzz5 : g5 < w2.heap.size := HB5.out.lt
  have ht := trace_any b (some ⟨g, 0, none⟩) cap l ql capl w2 HL2.out hf2 (by omega) (HU.out.next HB3.out)
  rw [← HNL.out] at ht
  have HTR := Lib.hid ht
  clear ht
  have k0 := (HB5.out).cell 0 _ rfl
  have k1 := (HB5.out).cell 1 _ rfl
  have k2 := (HB5.out).cell 2 _ rfl
  have k3 := (HB5.out).cell 3 _ rfl
  have k4 := (HB5.out).cell 4 _ rfl
  have k5 := (HB5.out).cell 5 _ rfl
  have k6 := (HB5.out).cell 6 _ rfl
  have k7 := (HB5.out).cell 7 _ rfl
  go_wp2_with fail
  refine HTR.out.mono ?_
  rintro e w3 ⟨v, L, rfl, hL150, hobs, hown, hb3⟩
  obtain ⟨qm, capm, rfl⟩ := row_form hown
  have HM := Lib.hid (rdM_of_owns hown rfl)
  have HB4 := Lib.hid (HB3.out.trans (hb3.mono HB3.out.size))
  have HB53 := Lib.hid (HB5.out.next hb3)
  have HR4 := Lib.hid (HR3.out.next hb3)
  have hz53 : g5 < w3.heap.size := HB53.out.lt
  clear hobs hown hb3 HTR HB5 HR3 HB3 k0 k1 k2 k3 k4 k5 k6 k7
  obtain ⟨N, hN⟩ : ∃ N, N = L.length := ⟨_, rfl⟩
  have HN := Lib.hid hN
  rw [← hN] at hL150 ⊢
  clear hN
  have hs := mkState_any b (some ⟨g, 0, none⟩) cap l ql capl w3 HL2.out HL1.out hf2 (by omega) HSL.out HR4.out (HU.out.next HB4.out)
  rw [← HNL.out] at hs
  have HST := Lib.hid hs
  clear hs
  have k0 := (HB53.out).cell 0 _ rfl
  have k1 := (HB53.out).cell 1 _ rfl
  have k2 := (HB53.out).cell 2 _ rfl
  have k3 := (HB53.out).cell 3 _ rfl
  have k4 := (HB53.out).cell 4 _ rfl
  have k5 := (HB53.out).cell 5 _ rfl
  have k6 := (HB53.out).cell 6 _ rfl
  have k7 := (HB53.out).cell 7 _ rfl
  go_wp2_with fail
  refine HST.out.mono ?_
  rintro e w4 ⟨L2, q9, cap9, rfl, _, _, h64, hrd, _, hb4⟩
  have HB6 := Lib.hid (HB4.out.trans (hb4.mono HB4.out.size))
  have HB54 := Lib.hid (HB53.out.next hb4)
  have HR5 := Lib.hid (HR4.out.next hb4)
  have HM4 := Lib.hid (HM.out.next hb4)
  have HD4 := Lib.hid hrd
  have H64 := Lib.hid h64
  generalize foldV b L2 = S at *
  clear hb4 HM HB4 HB53 HR4 hrd h64 HST k0 k1 k2 k3 k4 k5 k6 k7
  go_upto_region 4 with fail
  have B7 := Blk.new w4 (S.cells q9 cap9) 35
  have hb7 := below1' w4 (.cells #[.int .i64 S.fl, .int .i64 S.dir, .int .i64 S.door, .slice q9 S.du.length cap9, .int .i64 S.still, .bool S.late] 35)
  change Blk (w4.alloc (.cells #[.int .i64 S.fl, .int .i64 S.dir, .int .i64 S.door, .slice q9 S.du.length cap9, .int .i64 S.still, .bool S.late] 35)) _ _ at B7
  have HSB := Lib.hid B7
  have HB7 := Lib.hid (HB6.out.trans (hb7.mono HB6.out.size))
  have HB55 := Lib.hid (HB54.out.next hb7)
  have HR7 := Lib.hid (HR5.out.next hb7)
  have HM7 := Lib.hid (HM4.out.next hb7)
  have HD7 := Lib.hid (HD4.out.next hb7)
  have HX7 := Lib.hid (HXB.out.next HB7.out)
  have HX17 := Lib.hid (HX0.out.later HB7.out hz0)
  clear B7 hb7 HB6 HB54 HR5 HM4 HD4 HXB HU
  generalize w4.alloc (.cells #[.int .i64 S.fl, .int .i64 S.dir, .int .i64 S.door, .slice q9 S.du.length cap9, .int .i64 S.still, .bool S.late] 35) = y at *
  generalize w4.heap.size = g9 at *
  have hz5 := HB55.out.lt; have hz9 := HSB.out.lt; have hz1 := HX17.out.lt
  have k0 := (HB55.out).cell 0 _ rfl
  have k1 := (HB55.out).cell 1 _ rfl
  have k2 := (HB55.out).cell 2 _ rfl
  have k3 := (HB55.out).cell 3 _ rfl
  have k4 := (HB55.out).cell 4 _ rfl
  have k5 := (HB55.out).cell 5 _ rfl
  have k6 := (HB55.out).cell 6 _ rfl
  have k7 := (HB55.out).cell 7 _ rfl
  have j0 := (HSB.out).cell 0 _ rfl
  have j1 := (HSB.out).cell 1 _ rfl
  have j2 := (HSB.out).cell 2 _ rfl
  have j3 := (HSB.out).cell 3 _ rfl
  have j4 := (HSB.out).cell 4 _ rfl
  have j5 := (HSB.out).cell 5 _ rfl
  have HLS : Hid (∀ (W : World) (m : MarkV), Below y.heap.size y W → Calls Try.prog 15 #[cvB b (some ⟨g, 0, none⟩) cap, .int .i64 0, cvS S q9 cap9, cvM m] W fun e w' => e = .returned (.bool true) ∧ Below W.heap.size W w') :=
    Lib.hid fun W m hW => lawSame_any b (some ⟨g, 0, none⟩) cap 0 S q9 cap9 m W HL1.out (by have := H64.out; omega) HSL.out (HR7.out.next hW) (HD7.out.next hW)
  have HLZ : Hid (∀ W : World, Below y.heap.size y W → Calls Try.prog 15 #[cvB zBld none 0, .int .i64 0, cvS S q9 cap9, cvM ((0#32, 0#32), 0, 0, 0)] W fun e w' => e = .returned (.bool true) ∧ Below W.heap.size W w') :=
    Lib.hid fun W hW => lawSame_any zBld none 0 0 S q9 cap9 ((0#32, 0#32), 0, 0, 0) W (by simp [zBld]) (by have := H64.out; omega) (fun c hc => by simp [zBld] at hc) (fun i c h => by simp [zBld] at h) (HD7.out.next hW)
  have HLX : Hid (∀ (W : World) (car : Int) (V : BelV) (q1 : Option Addr) (cap1 : Nat), V.du.length ≤ 80 → RdD y q1 V.du → Below y.heap.size y W → Calls Try.prog 15 #[cvB b (some ⟨g, 0, none⟩) cap, .int .i64 car, cvS V q1 cap1, .agg #[.int .u32 (n : Int), .int .u32 (t : Int), .int .i64 V.fl, .int .i64 V.dir, .int .i64 1]] W fun e w' => e = .returned (.bool true) ∧ Below W.heap.size W w') := by
    refine Lib.hid fun W car V q1 cap1 h80 hrd hW => ?_
    rw [HUN.out, HUT.out]
    exact lawSame_any b (some ⟨g, 0, none⟩) cap car V q1 cap1 ((un, ut), V.fl, V.dir, 1) W HL1.out (by omega) HSL.out (HR7.out.next hW) (hrd.next hW)
  go_wp2_with fail
  go_loopw [10] (fun v wr => ∃ k : Nat, k ≤ N ∧ v = .int .i64 k ∧ Below y.heap.size y wr) (fun v _ => N - (intOf v).toNat)
  case atStart => exact ⟨0, by omega, rfl, Below.refl _ _⟩
  case round =>
    obtain ⟨k, hk, rfl, hb⟩ := hrel
    have HW := Lib.hid hb
    have c0 := base_cell HW.out
    clear hb
    go_upto_region 5 with fail
    go_cut [31] from 24 to 31 (fun v wx => v = .bool (decide (k < N ∧ k < 20)) ∧ wx = wr)
    case first =>
      go_wp2_with fail
      all_goals
        go_meet
        refine ⟨?_, rfl⟩
        first
          | rw [decide_eq_false (show ¬ (k < N ∧ k < 20) by omega)]
          | rw [decide_eq_true (show k < N ∧ k < 20 by omega)]
          | (congr 1; rw [decide_eq_decide]; omega)
    case rest =>
    obtain ⟨rfl, hwc⟩ := hcut
    subst hwc
    by_cases hlt : k < N ∧ k < 20
    · rw [decide_eq_true hlt]
      obtain ⟨hlt1, hlt2⟩ := hlt
      obtain ⟨m, hm⟩ : ∃ m, L[k]? = some m := ⟨_, List.getElem?_eq_getElem (by rw [← HN.out]; exact hlt1)⟩
      obtain ⟨A, hqA, hA, d0, d1, d2, d3, d4⟩ := (HM7.out.next HW.out).reg hm
      subst hqA
      have hiw : (0 : Int) ≤ (k : Int) := by omega
      have hiw' : (k : Int) < (N : Int) := by omega
      clear hm
      go_upto_region 7 with fail
      clear k0 k1 k2 k3 k4 k5 k6 k7 j0 j1 j2 j3 j4 j5 c0 hA
      have t0 := ((HB55.out.next HW.out)).reg 0 _ rfl
      have t1 := ((HB55.out.next HW.out)).reg 1 _ rfl
      have t2 := ((HB55.out.next HW.out)).reg 2 _ rfl
      have t3 := ((HB55.out.next HW.out)).reg 3 _ rfl
      have t4 := ((HB55.out.next HW.out)).reg 4 _ rfl
      have t5 := ((HB55.out.next HW.out)).reg 5 _ rfl
      have t6 := ((HB55.out.next HW.out)).reg 6 _ rfl
      have t7 := ((HB55.out.next HW.out)).reg 7 _ rfl
      have u0 := ((HSB.out.next HW.out)).reg 0 _ rfl
      have u1 := ((HSB.out.next HW.out)).reg 1 _ rfl
      have u2 := ((HSB.out.next HW.out)).reg 2 _ rfl
      have u3 := ((HSB.out.next HW.out)).reg 3 _ rfl
      have u4 := ((HSB.out.next HW.out)).reg 4 _ rfl
      have u5 := ((HSB.out.next HW.out)).reg 5 _ rfl
      (refine Grow.wp_region Grow.noPlan Grow.noPlan_stable (by kernel_rfl) (by kernel_rfl) ?_; intro opsq Hopsq)
      repeat (first | (refine Grow.lex_move rfl ?_ rfl ?_; (· first | exact Grow.wanted_none | (rw [Hopsq.out]; rfl)); intro K hK; simp only [Grow.put_lit, Grow.setAt, Grow.eval_lit, Grow.ev]; refine hK _ _ ?_; clear hK K) | (refine Grow.lex_assign rfl ?_ rfl ?_; (· first | exact Grow.wanted_none | (rw [Hopsq.out]; rfl)); intro K hK; simp only [Grow.put_lit, Grow.setAt, Grow.eval_lit, Grow.ev]; refine hK _ _ ?_; clear hK K) | (refine Grow.lex_plain rfl rfl ?_ rfl ?_; (· first | exact Grow.wanted_none | (rw [Hopsq.out]; rfl)); apply Exists.intro; refine ⟨fun wq hCq _ => ?_, ?_⟩; (· (go_wp2_with fail; refine ⟨rfl, Below.refl _ _, ?_⟩; simp only [Grow.getD_lit, Grow.nth]; rfl)); intro K hK; simp only [Grow.put_lit, Grow.setAt]; refine hK _ _ ?_; clear hK K) | (refine Grow.lex_nilCheck rfl rfl ?_ rfl ?_; (· first | exact Grow.wanted_none | (rw [Hopsq.out]; rfl)); intro K hK; simp only [Grow.put_lit, Grow.setAt]; refine hK _ _ ?_; clear hK K) | (refine Grow.lex_skip ?_ ?_; (· (rw [Hopsq.out]; rfl)); intro K hK; simp only [Grow.put_lit, Grow.setAt]; refine hK _ _ ?_; clear hK K))
      (refine Grow.lex_call ?_ rfl ?_; (· first | exact Grow.wanted_none | (rw [Hopsq.out]; rfl)); apply Exists.intro; apply Exists.intro; refine ⟨fun wq => ?_, ?_⟩; (· (go_simp; exact ⟨rfl, rfl⟩)); apply Exists.intro; refine ⟨fun wq hCq hKq => ?_, ?_⟩; (· exact HLS.out _ m (HW.out.trans ((Grow.Cl.base hCq).mono HW.out.size))); intro K hK; simp only [Grow.put_lit, Grow.setAt]; refine hK _ _ ?_; clear hK K)
      repeat (first | (refine Grow.lex_move rfl ?_ rfl ?_; (· first | exact Grow.wanted_none | (rw [Hopsq.out]; rfl)); intro K hK; simp only [Grow.put_lit, Grow.setAt, Grow.eval_lit, Grow.ev]; refine hK _ _ ?_; clear hK K) | (refine Grow.lex_assign rfl ?_ rfl ?_; (· first | exact Grow.wanted_none | (rw [Hopsq.out]; rfl)); intro K hK; simp only [Grow.put_lit, Grow.setAt, Grow.eval_lit, Grow.ev]; refine hK _ _ ?_; clear hK K) | (refine Grow.lex_plain rfl rfl ?_ rfl ?_; (· first | exact Grow.wanted_none | (rw [Hopsq.out]; rfl)); apply Exists.intro; refine ⟨fun wq hCq _ => ?_, ?_⟩; (· (go_wp2_with fail; refine ⟨rfl, Below.refl _ _, ?_⟩; simp only [Grow.getD_lit, Grow.nth]; rfl)); intro K hK; simp only [Grow.put_lit, Grow.setAt]; refine hK _ _ ?_; clear hK K) | (refine Grow.lex_nilCheck rfl rfl ?_ rfl ?_; (· first | exact Grow.wanted_none | (rw [Hopsq.out]; rfl)); intro K hK; simp only [Grow.put_lit, Grow.setAt]; refine hK _ _ ?_; clear hK K) | (refine Grow.lex_skip ?_ ?_; (· (rw [Hopsq.out]; rfl)); intro K hK; simp only [Grow.put_lit, Grow.setAt]; refine hK _ _ ?_; clear hK K))
      (refine Grow.lex_nil ?_; intro wz hbz _; replace hbz := Grow.Cl.base hbz; clear Hopsq opsq)
      have HWz := Lib.hid (HW.out.trans (hbz.mono HW.out.size))
      clear hbz HW t0 t1 t2 t3 t4 t5 t6 t7 u0 u1 u2 u3 u4 u5 d0 d1 d2 d3 d4
      go_wp2_with fail
      exact ⟨⟨k + 1, by omega, by go_num, HWz.out⟩, by simp [intOf]; omega⟩
    · rw [decide_eq_false hlt]
      clear hlt hk c0
      go_wp2_with fail
      go_loopw [11] (fun v wx => ∃ i : Nat, i ≤ nx ∧ v = .int .i64 i ∧ Below y.heap.size y wx) (fun v _ => nx - (intOf v).toNat)
      case atStart => exact ⟨0, by omega, rfl, HW.out⟩
      case round =>
        clear HW
        obtain ⟨i, hi, rfl, hb⟩ := hrel
        have HW := Lib.hid hb
        have c0 := base_cell HW.out
        clear hb
        go_upto_region 10 with fail
        go_cut [49] from 42 to 49 (fun v wx => v = .bool (decide (i < nx ∧ i < 10)) ∧ wx = wr)
        case first =>
          go_wp2_with fail
          all_goals
            go_meet
            refine ⟨?_, rfl⟩
            first
              | rw [decide_eq_false (show ¬ (i < nx ∧ i < 10) by omega)]
              | rw [decide_eq_true (show i < nx ∧ i < 10 by omega)]
              | (congr 1; rw [decide_eq_decide]; omega)
        case rest =>
        obtain ⟨rfl, hwc⟩ := hcut
        subst hwc
        by_cases hlt : i < nx ∧ i < 10
        · rw [decide_eq_true hlt]
          obtain ⟨hlt1, hlt2⟩ := hlt
          obtain ⟨⟨V, q1, cap1⟩, hm⟩ : ∃ m, x[i]? = some m := ⟨_, List.getElem?_eq_getElem (by rw [← HNX.out]; exact hlt1)⟩
          obtain ⟨A, hqA, hA, hrd1, d0, d1, d2, d3, d4, d5⟩ := HX7.out.at hm
          have HD1 := Lib.hid hrd1
          subst hqA
          have hiw : (0 : Int) ≤ (i : Int) := by omega
          have hiw' : (i : Int) < (nx : Int) := by omega
          have HQ0 := Lib.hid d0; have HQ1 := Lib.hid d1; have HQ2 := Lib.hid d2; have HQ3 := Lib.hid d3; have HQ4 := Lib.hid d4; have HQ5 := Lib.hid d5
          simp only at HQ0 HQ1 HQ2 HQ3 HQ4 HQ5 HD1
          clear hm hA hrd1 d0 d1 d2 d3 d4 d5
          have e3 := cell_later HW.out HQ3.out
          by_cases h80 : V.du.length ≤ 80
          · have hd : decide ((80 : Int) < (V.du.length : Int)) = false := by simp; omega
            go_upto_region 13 with fail
            go_wp2_with fail
            go_loopw [12] (fun v wx => ∃ car : Int, -1 ≤ car ∧ car ≤ (b.cars.length : Int) + 1 ∧ v = .int .i64 car ∧ Below y.heap.size y wx) (fun v _ => ((b.cars.length : Int) + 1 - intOf v).toNat)
            case atStart => exact ⟨-1, by omega, by omega, rfl, HW.out⟩
            case round =>
              clear HW c0 e3 hd
              obtain ⟨car, hc0, hc1, rfl, hb⟩ := hrel
              have HW := Lib.hid hb
              have c0 := base_cell HW.out
              clear hb
              by_cases hlc : car ≤ (b.cars.length : Int)
              · go_upto_region 16 with fail
                clear k0 k1 k2 k3 k4 k5 k6 k7 j0 j1 j2 j3 j4 j5 c0
                have HSM := Lib.hid (fun W hW => same_any S q9 cap9 V q1 cap1 W (by have := H64.out; omega) (HD7.out.next hW) (HD1.out.next hW))
                have HSR := Lib.hid (fun W hW => refSame_any S q9 cap9 V q1 cap1 W (by have := H64.out; omega) (HD7.out.next hW) (HD1.out.next hW))
                generalize sameB S V = sv at *
                have t0 := ((HB55.out.next HW.out)).reg 0 _ rfl
                have t1 := ((HB55.out.next HW.out)).reg 1 _ rfl
                have t2 := ((HB55.out.next HW.out)).reg 2 _ rfl
                have t3 := ((HB55.out.next HW.out)).reg 3 _ rfl
                have t4 := ((HB55.out.next HW.out)).reg 4 _ rfl
                have t5 := ((HB55.out.next HW.out)).reg 5 _ rfl
                have t6 := ((HB55.out.next HW.out)).reg 6 _ rfl
                have t7 := ((HB55.out.next HW.out)).reg 7 _ rfl
                have u0 := ((HSB.out.next HW.out)).reg 0 _ rfl
                have u1 := ((HSB.out.next HW.out)).reg 1 _ rfl
                have u2 := ((HSB.out.next HW.out)).reg 2 _ rfl
                have u3 := ((HSB.out.next HW.out)).reg 3 _ rfl
                have u4 := ((HSB.out.next HW.out)).reg 4 _ rfl
                have u5 := ((HSB.out.next HW.out)).reg 5 _ rfl
                have z0 := ((HX17.out.next HW.out)).reg 0 _ rfl
                have z1 := ((HX17.out.next HW.out)).reg 1 _ rfl
                have d0 := cl_cell (cell_later HW.out HQ0.out); have d1 := cl_cell (cell_later HW.out HQ1.out); have d2 := cl_cell (cell_later HW.out HQ2.out)
                have d3 := cl_cell (cell_later HW.out HQ3.out); have d4 := cl_cell (cell_later HW.out HQ4.out); have d5 := cl_cell (cell_later HW.out HQ5.out)
                (refine Grow.wp_region Grow.noPlan Grow.noPlan_stable (by kernel_rfl) (by kernel_rfl) ?_; intro opsq Hopsq)
                repeat (first | (refine Grow.lex_move rfl ?_ rfl ?_; (· first | exact Grow.wanted_none | (rw [Hopsq.out]; rfl)); intro K hK; simp only [Grow.put_lit, Grow.setAt, Grow.eval_lit, Grow.ev]; refine hK _ _ ?_; clear hK K) | (refine Grow.lex_assign rfl ?_ rfl ?_; (· first | exact Grow.wanted_none | (rw [Hopsq.out]; rfl)); intro K hK; simp only [Grow.put_lit, Grow.setAt, Grow.eval_lit, Grow.ev]; refine hK _ _ ?_; clear hK K) | (refine Grow.lex_plain rfl rfl ?_ rfl ?_; (· first | exact Grow.wanted_none | (rw [Hopsq.out]; rfl)); apply Exists.intro; refine ⟨fun wq hCq _ => ?_, ?_⟩; (· (go_wp2_with fail; refine ⟨rfl, Below.refl _ _, ?_⟩; simp only [Grow.getD_lit, Grow.nth]; rfl)); intro K hK; simp only [Grow.put_lit, Grow.setAt]; refine hK _ _ ?_; clear hK K) | (refine Grow.lex_nilCheck rfl rfl ?_ rfl ?_; (· first | exact Grow.wanted_none | (rw [Hopsq.out]; rfl)); intro K hK; simp only [Grow.put_lit, Grow.setAt]; refine hK _ _ ?_; clear hK K) | (refine Grow.lex_skip ?_ ?_; (· (rw [Hopsq.out]; rfl)); intro K hK; simp only [Grow.put_lit, Grow.setAt]; refine hK _ _ ?_; clear hK K))
                (refine Grow.lex_call ?_ rfl ?_; (· first | exact Grow.wanted_none | (rw [Hopsq.out]; rfl)); apply Exists.intro; apply Exists.intro; refine ⟨fun wq => ?_, ?_⟩; (· (go_simp; exact ⟨rfl, rfl⟩)); apply Exists.intro; refine ⟨fun wq hCq hKq => ?_, ?_⟩; (· exact HLX.out _ car V q1 cap1 h80 HD1.out (HW.out.trans ((Grow.Cl.base hCq).mono HW.out.size))); intro K hK; simp only [Grow.put_lit, Grow.setAt]; refine hK _ _ ?_; clear hK K)
                repeat (first | (refine Grow.lex_move rfl ?_ rfl ?_; (· first | exact Grow.wanted_none | (rw [Hopsq.out]; rfl)); intro K hK; simp only [Grow.put_lit, Grow.setAt, Grow.eval_lit, Grow.ev]; refine hK _ _ ?_; clear hK K) | (refine Grow.lex_assign rfl ?_ rfl ?_; (· first | exact Grow.wanted_none | (rw [Hopsq.out]; rfl)); intro K hK; simp only [Grow.put_lit, Grow.setAt, Grow.eval_lit, Grow.ev]; refine hK _ _ ?_; clear hK K) | (refine Grow.lex_plain rfl rfl ?_ rfl ?_; (· first | exact Grow.wanted_none | (rw [Hopsq.out]; rfl)); apply Exists.intro; refine ⟨fun wq hCq _ => ?_, ?_⟩; (· (go_wp2_with fail; refine ⟨rfl, Below.refl _ _, ?_⟩; simp only [Grow.getD_lit, Grow.nth]; rfl)); intro K hK; simp only [Grow.put_lit, Grow.setAt]; refine hK _ _ ?_; clear hK K) | (refine Grow.lex_nilCheck rfl rfl ?_ rfl ?_; (· first | exact Grow.wanted_none | (rw [Hopsq.out]; rfl)); intro K hK; simp only [Grow.put_lit, Grow.setAt]; refine hK _ _ ?_; clear hK K) | (refine Grow.lex_skip ?_ ?_; (· (rw [Hopsq.out]; rfl)); intro K hK; simp only [Grow.put_lit, Grow.setAt]; refine hK _ _ ?_; clear hK K))
                (refine Grow.lex_call ?_ rfl ?_; (· first | exact Grow.wanted_none | (rw [Hopsq.out]; rfl)); apply Exists.intro; apply Exists.intro; refine ⟨fun wq => ?_, ?_⟩; (· (go_simp; exact ⟨rfl, rfl⟩)); apply Exists.intro; refine ⟨fun wq hCq hKq => ?_, ?_⟩; (· exact HSM.out _ (HW.out.trans ((Grow.Cl.base hCq).mono HW.out.size))); intro K hK; simp only [Grow.put_lit, Grow.setAt]; refine hK _ _ ?_; clear hK K)
                repeat (first | (refine Grow.lex_move rfl ?_ rfl ?_; (· first | exact Grow.wanted_none | (rw [Hopsq.out]; rfl)); intro K hK; simp only [Grow.put_lit, Grow.setAt, Grow.eval_lit, Grow.ev]; refine hK _ _ ?_; clear hK K) | (refine Grow.lex_assign rfl ?_ rfl ?_; (· first | exact Grow.wanted_none | (rw [Hopsq.out]; rfl)); intro K hK; simp only [Grow.put_lit, Grow.setAt, Grow.eval_lit, Grow.ev]; refine hK _ _ ?_; clear hK K) | (refine Grow.lex_plain rfl rfl ?_ rfl ?_; (· first | exact Grow.wanted_none | (rw [Hopsq.out]; rfl)); apply Exists.intro; refine ⟨fun wq hCq _ => ?_, ?_⟩; (· (go_wp2_with fail; refine ⟨rfl, Below.refl _ _, ?_⟩; simp only [Grow.getD_lit, Grow.nth]; rfl)); intro K hK; simp only [Grow.put_lit, Grow.setAt]; refine hK _ _ ?_; clear hK K) | (refine Grow.lex_nilCheck rfl rfl ?_ rfl ?_; (· first | exact Grow.wanted_none | (rw [Hopsq.out]; rfl)); intro K hK; simp only [Grow.put_lit, Grow.setAt]; refine hK _ _ ?_; clear hK K) | (refine Grow.lex_skip ?_ ?_; (· (rw [Hopsq.out]; rfl)); intro K hK; simp only [Grow.put_lit, Grow.setAt]; refine hK _ _ ?_; clear hK K))
                (refine Grow.lex_call ?_ rfl ?_; (· first | exact Grow.wanted_none | (rw [Hopsq.out]; rfl)); apply Exists.intro; apply Exists.intro; refine ⟨fun wq => ?_, ?_⟩; (· (go_simp; exact ⟨rfl, rfl⟩)); apply Exists.intro; refine ⟨fun wq hCq hKq => ?_, ?_⟩; (· exact HSR.out _ (HW.out.trans ((Grow.Cl.base hCq).mono HW.out.size))); intro K hK; simp only [Grow.put_lit, Grow.setAt]; refine hK _ _ ?_; clear hK K)
                repeat (first | (refine Grow.lex_move rfl ?_ rfl ?_; (· first | exact Grow.wanted_none | (rw [Hopsq.out]; rfl)); intro K hK; simp only [Grow.put_lit, Grow.setAt, Grow.eval_lit, Grow.ev]; refine hK _ _ ?_; clear hK K) | (refine Grow.lex_assign rfl ?_ rfl ?_; (· first | exact Grow.wanted_none | (rw [Hopsq.out]; rfl)); intro K hK; simp only [Grow.put_lit, Grow.setAt, Grow.eval_lit, Grow.ev]; refine hK _ _ ?_; clear hK K) | (refine Grow.lex_plain rfl rfl ?_ rfl ?_; (· first | exact Grow.wanted_none | (rw [Hopsq.out]; rfl)); apply Exists.intro; refine ⟨fun wq hCq _ => ?_, ?_⟩; (· (go_wp2_with fail; refine ⟨rfl, Below.refl _ _, ?_⟩; simp only [Grow.getD_lit, Grow.nth]; rfl)); intro K hK; simp only [Grow.put_lit, Grow.setAt]; refine hK _ _ ?_; clear hK K) | (refine Grow.lex_nilCheck rfl rfl ?_ rfl ?_; (· first | exact Grow.wanted_none | (rw [Hopsq.out]; rfl)); intro K hK; simp only [Grow.put_lit, Grow.setAt]; refine hK _ _ ?_; clear hK K) | (refine Grow.lex_skip ?_ ?_; (· (rw [Hopsq.out]; rfl)); intro K hK; simp only [Grow.put_lit, Grow.setAt]; refine hK _ _ ?_; clear hK K))
                (refine Grow.lex_nil ?_; intro wz hbz _; replace hbz := Grow.Cl.base hbz; clear Hopsq opsq)
                have HWz := Lib.hid (HW.out.trans (hbz.mono HW.out.size))
                clear hbz HW t0 t1 t2 t3 t4 t5 t6 t7 u0 u1 u2 u3 u4 u5 d0 d1 d2 d3 d4 d5 z0 z1
                go_wp2_with fail
                exact ⟨⟨car + 1, by omega, by omega, by go_num, HWz.out⟩, by simp [intOf]; omega⟩
              · go_wp2_with fail
                exact ⟨⟨i + 1, by omega, by go_num, HW.out⟩, by simp [intOf]; omega⟩
          · have hd : decide ((80 : Int) < (V.du.length : Int)) = true := by simp; omega
            go_wp2_with fail
            exact ⟨⟨i + 1, by omega, by go_num, HW.out⟩, by simp [intOf]; omega⟩
        · rw [decide_eq_false hlt]
          clear hlt hi
          go_wp2_with fail
          refine (new_any _).mono ?_
          rintro e z1 ⟨rfl, hb1⟩
          go_wp2_with fail
          refine (refNew_any _).mono ?_
          rintro e z2 ⟨rfl, hb2⟩
          have HW2 := Lib.hid (HW.out.trans ((hb1.trans (hb2.mono hb1.size)).mono HW.out.size))
          clear hb1 hb2 c0 HW
          go_wp2_with fail
          refine (refSame_self newB none 0 none 0 _ (by simp [newB]) (rdD_none _ _) (rdD_none _ _)).mono ?_
          rintro e z3 ⟨rfl, hb3⟩
          have HW3 := Lib.hid (HW2.out.trans (hb3.mono HW2.out.size))
          clear hb3 HW2
          have c0 := base_cell HW3.out
          go_wp2_with fail
          refine (calls_bool (same_any S q9 cap9 S q9 cap9 _ (by have := H64.out; omega) (HD7.out.next HW3.out) (HD7.out.next HW3.out)) (sameB_self S)).mono ?_
          rintro e z4 ⟨rfl, hb4⟩
          have HW4 := Lib.hid (HW3.out.trans (hb4.mono HW3.out.size))
          clear hb4 c0 HW3
          have c0 := base_cell HW4.out
          go_wp2_with fail
          refine (HLZ.out _ HW4.out).mono ?_
          rintro e z5 ⟨rfl, hb5⟩
          have HW5 := Lib.hid (HW4.out.trans (hb5.mono HW4.out.size))
          clear hb5 c0 HW4
          go_wp2_with fail
          refine (sane19_any _).mono ?_
          rintro e z6 ⟨rfl, hb6⟩
          have HW6 := Lib.hid (HB7.out.trans ((HW5.out.trans (hb6.mono HW5.out.size)).mono HB7.out.size))
          clear hb6 HW5
          go_wp2_with fail
          go_ret
          exact ⟨rfl, HWW.out.trans (HW6.out.mono HWW.out.size)⟩
set_option maxHeartbeats 1000000 in
set_option maxRecDepth 100000 in
theorem beliefSteps_lifted (os : Os) (started : os.Started) (H : Type) (enc : TypeId × Value → H) :
    ReturnsInHanded {} Try.checked os 5 .any (Rows.beliefStepsSpec.pre6 enc Try.prog Try.f5 Rows.beliefStepsRow.domain false) (Rows.beliefStepsSpec.post enc Try.prog Try.f5 false true false false) := by
  refine law_lifted (C := Try.checked) own laidOut started (by kernel_rfl) Try.func5 4 rfl Try.underlying4 (by kernel_rfl) rfl H enc
    (fun ds h => by match ds, h with | [d0, d1, d2], _ => rfl)
    (ChangeSpec.witness6 (enc := enc) (C := Try.checked) false ⟨#[], #[.agg #[.int .u8 0, .int .u8 0], .slice none 0 0, .slice none 0 0], []⟩ 8 (by kernel_rfl) (by kernel_rfl) (by kernel_rfl) (by kernel_rfl)) ?_
  intro W base args ds ps hval hA hsz
  have hA' : DataW.TrodAll enc Try.prog W 0 (fun _ => true) true Try.f5.params.toList args.toList ds ps := hA
  have hval' : ∀ (j : Nat) t v, Try.f5.params[j]? = some t → args[j]? = some v → Value.okWide Try.prog W .any base t v := hval
  rw [Try.params5] at hA' hval'
  obtain ⟨v0, vs0, d0, ds0, p0, q0, hargs, rfl, rfl, h0, r0⟩ := trodAll_cons hA'
  obtain ⟨v1, vs1, d1, ds1, p1, q1, rfl, rfl, rfl, h1, r1⟩ := trodAll_cons r0
  obtain ⟨v2, vs2, d2, ds2, p2, q2, rfl, rfl, rfl, h2, r2⟩ := trodAll_cons r1
  obtain ⟨rfl, rfl, rfl⟩ := trodAll_nil r2
  obtain rfl : args = #[v0, v1, v2] := by cases args; simp_all
  obtain ⟨n0, t0, rfl, hn0, ht0⟩ := open_u8x2 (hval' 0 22 v0 rfl rfl) h0
  obtain ⟨l1, q1x, cap1, rfl, hl1, hu1⟩ := open_u8s (hval' 1 23 v1 rfl rfl) h1
  obtain ⟨x2, q2x, cap2, rfl, hl2, hx2⟩ := open_bels (hval' 2 51 v2 rfl rfl) h2
  exact steps_walk n0 t0 l1 q1x cap1 x2 q2x cap2 W hn0 ht0 hl1 hu1 hl2 hx2

theorem beliefSteps_over : Rows.beliefStepsRow.holds Try.pinned (OpenSpec.ofChange Rows.beliefStepsSpec) :=
  OpenClaim.holds_of_wide 5 Try.f5 rfl rfl rfl rfl rfl rfl rfl ⟨rfl, rfl, rfl, rfl, rfl⟩ rfl rfl rfl rfl rfl (by kernel_rfl) Try.func5 (by kernel_rfl)
    (of_decide_eq_true (by kernel_rfl)) (by unfold Func.isWrapper; first | (rw [if_pos (by decide +kernel)]; kernel_rfl) | (rw [if_neg (by decide +kernel)]; exact ⟨rfl, rfl⟩))
    (fun os started H enc _ => beliefSteps_lifted os started H enc)

/-- THE STATEMENT. -/
theorem beliefSteps_holds : Rows.BeliefStepsSaid := beliefSteps_over
#print axioms beliefSteps_holds
end Go.Proofs.Ytnnkldidlgiipaa
