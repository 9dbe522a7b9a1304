/- InjectOut: no coil is energised for a car that is cut out, and a cut-out is closed exactly in Legacy and Draining. The law's function answers true at every pair of numbers and every slice of bytes. Conditions: none. -/
import Derived.Test.YtbhhjlemdpefkaaArgs
import Derived.Test.YtbhhjlemdpefkaaMade
import Derived.Test.YtbhhjlemdpefkaaLawState
import Derived.Test.YtbhhjlemdpefkaaSane20
namespace Go.Proofs.Ytbhhjlemdpefkaa
open Go.ChangeShapes Go.WideShapes Go.ChangeAt Go.RowKit
theorem newB_state (b : BldV) (hv : validN b = 0) (hf : 2 ≤ b.fl) (hc : 1 ≤ b.cars.length) : stateB b 0 newB = true :=
  (stateB_iff _ _ _).2 ⟨(headB_iff _ _ _).2 ⟨hv, ⟨by omega, by omega⟩, ⟨by show (-1 : Int) ≤ -1; omega, by show (-1 : Int) ≤ b.fl - 1; omega⟩, by show (0 : Int) ≤ 0 ∧ (0 : Int) ≤ 3; omega, by show (0 : Int) ≤ 0 ∧ (0 : Int) ≤ 3; omega, by show (0 : Int) ≤ 0 ∧ (0 : Int) ≤ 1000000; omega, fun _ => rfl⟩, fun d h => (by simp [newB] at h), by simp [newB]⟩
theorem fold_state (b : BldV) (L : List MarkV) (hv : validN b = 0) (hf : 2 ≤ b.fl) (hc : 1 ≤ b.cars.length) (ho : ∀ m ∈ L, obsB b.fl m.2 = true) : stateB b 0 (foldV b L) = true := by
  have key : ∀ (L : List MarkV) (s : BelV), stateB b 0 s = true → (∀ m ∈ L, obsB b.fl m.2 = true) → stateB b 0 (L.foldl (fun s m => injectV b 0 (observeV b 0 s m.2) m.1) s) = true := by
    intro L
    induction L with
    | nil => intro s hs _; exact hs
    | cons m L ih =>
      intro s hs ho
      refine ih _ (inject_state b 0 _ m.1 (observe_state b 0 s m.2 ?_)) fun m' hm' => ho m' (List.mem_cons_of_mem _ hm')
      unfold obsOk
      rw [hs, ho m List.mem_cons_self]; rfl
  exact key L newB (newB_state b hv hf hc) ho
theorem wired_state (b : BldV) (p : Int) (s : BelV) (h : stateB b 0 s = true) : wiredOn b 0 p s = wiredB p := by unfold wiredOn; rw [h, Bool.and_true]
attribute [local go_sem ↓] run_eql_cs run_neq_cs
attribute [local go_sem] run_store_float
set_option maxHeartbeats 4000000 in
set_option maxRecDepth 100000 in
theorem out_walk (n t : Nat) (l : List Nat) (ql : Option Addr) (capl : Nat) (w : World) (hn : n < 256) (ht : t < 256) (hl : l.length ≤ maxLen) (hu : RdU w ql l) :
    Calls Try.prog 5 #[.agg #[.int .u8 n, .int .u8 t], .slice ql l.length capl] w fun e w' => e = .returned (.bool true) ∧ Below w.heap.size w w' := by
  have X0 : Blk (w.alloc (.cells #[.int .u8 n, .int .u8 t] 22)) w.heap.size [.int .u8 n, .int .u8 t] := by
    have hx := Blk.new w [.int .u8 n, .int .u8 t] 22
    exact hx
  have XW : Below w.heap.size w (w.alloc (.cells #[.int .u8 n, .int .u8 t] 22)) := below1' w _
  have HWW := Lib.hid XW; have HX0 := Lib.hid X0
  clear XW X0
  have HU := Lib.hid (hu.next HWW.out)
  have HL2 := Lib.hid hl
  clear hu
  obtain ⟨nl, hnl⟩ : ∃ n, n = l.length := ⟨_, rfl⟩
  have HNL := Lib.hid hnl
  rw [← hnl] at hl ⊢
  clear hnl
  go_enter Try.func5, Try.ntmps5
  go_upto_region 1 with fail
  generalize (w.alloc (.cells #[.int .u8 n, .int .u8 t] 22)) = w0 at *
  have HW := Lib.hid (Below.refl w0.heap.size w0)
  have hz0 := HX0.out.lt
  have k0 := (HX0.out).cell 0 _ rfl
  have k1 := (HX0.out).cell 1 _ rfl
  go_wp2_with fail
  refine (b18_val n t _ hn ht).mono ?_
  rintro e w1 ⟨g, cap, rfl, hg0, hg1, hown, hr, hb⟩
  have HR := Lib.hid hr
  have HB := Lib.hid (HW.out.trans (hb.mono HW.out.size))
  obtain ⟨b, hbb⟩ : ∃ b, b = b18 n t := ⟨_, rfl⟩
  rw [← hbb] at HR
  have HV : Hid (validN b = 0) := Lib.hid (by rw [hbb]; exact valid18 n t)
  have HSL : Hid (∀ c ∈ b.cars, -9223372036854775808 ≤ c.sl ∧ c.sl < 9223372036854775807) := Lib.hid (by rw [hbb]; exact slack18 n t)
  have hfl : 2 ≤ b.fl ∧ b.fl ≤ 6 := by rw [hbb]; exact fl18_range n
  have hcl : 1 ≤ b.cars.length ∧ b.cars.length ≤ 3 := by rw [hbb]; show 1 ≤ (cars18 n t).length ∧ (cars18 n t).length ≤ 3; rw [cars18_len]; exact k18_range n
  rw [← hbb]
  clear hbb hb hr hown HW k0 k1
  go_upto_region 2 with fail
  have B5 := Blk.new w1 [.int .i64 b.fl, .int .i64 b.deb, .int .i64 b.room, .int .i64 b.park, .float .f64 b.em, .float .f64 b.fu, .float .f64 b.ov, .slice (some ⟨g, 0, none⟩) b.cars.length cap] 31
  have hb5 := below1' w1 (.cells #[.int .i64 b.fl, .int .i64 b.deb, .int .i64 b.room, .int .i64 b.park, .float .f64 b.em, .float .f64 b.fu, .float .f64 b.ov, .slice (some ⟨g, 0, none⟩) b.cars.length cap] 31)
  change Blk (w1.alloc (.cells #[.int .i64 b.fl, .int .i64 b.deb, .int .i64 b.room, .int .i64 b.park, .float .f64 b.em, .float .f64 b.fu, .float .f64 b.ov, .slice (some ⟨g, 0, none⟩) b.cars.length cap] 31)) _ _ at B5
  have HB2 := Lib.hid (HB.out.trans (hb5.mono HB.out.size))
  have HR2 := Lib.hid (HR.out.next hb5)
  have HB5 := Lib.hid B5
  clear B5 hb5 HB HR
  generalize w1.alloc (.cells #[.int .i64 b.fl, .int .i64 b.deb, .int .i64 b.room, .int .i64 b.park, .float .f64 b.em, .float .f64 b.fu, .float .f64 b.ov, .slice (some ⟨g, 0, none⟩) b.cars.length cap] 31) = w2 at *
  generalize w1.heap.size = g5 at *
  have k0 := (HB5.out).cell 0 _ rfl
  have k1 := (HB5.out).cell 1 _ rfl
  have k2 := (HB5.out).cell 2 _ rfl
  have k3 := (HB5.out).cell 3 _ rfl
  have k4 := (HB5.out).cell 4 _ rfl
  have k5 := (HB5.out).cell 5 _ rfl
  have k6 := (HB5.out).cell 6 _ rfl
  have k7 := (HB5.out).cell 7 _ rfl
  have hms := mkState_any b (some ⟨g, 0, none⟩) cap l ql capl w2 HL2.out (by omega) (by omega) (by omega) HSL.out HR2.out (HU.out.next HB2.out)
  rw [← HNL.out] at hms
  have HMS := Lib.hid hms
  clear hms
  go_wp2_with fail
  refine HMS.out.mono ?_
  rintro e w3 ⟨L, q', cap', rfl, hL150, hobs, h64, hrd, hlo, hb3⟩
  have HST : Hid (stateB b 0 (foldV b L) = true) := Lib.hid (fold_state b L HV.out (by omega) hcl.1 hobs)
  have HB3 := Lib.hid (HB2.out.trans (hb3.mono HB2.out.size))
  have HR3 := Lib.hid (HR2.out.next hb3)
  have HB53 := Lib.hid (HB5.out.next hb3)
  have HD := Lib.hid hrd
  clear hobs hlo hrd hb3 HMS HB2 HR2 HB5 k0 k1 k2 k3 k4 k5 k6 k7 hL150
  generalize foldV b L = V at *
  have B6 := Blk.new w3 [.int .i64 V.fl, .int .i64 V.dir, .int .i64 V.door, .slice q' V.du.length cap', .int .i64 V.still, .bool V.late] 26
  change Blk (w3.alloc (.cells #[.int .i64 V.fl, .int .i64 V.dir, .int .i64 V.door, .slice q' V.du.length cap', .int .i64 V.still, .bool V.late] 26)) _ _ at B6
  have hb6 := below1' w3 (.cells #[.int .i64 V.fl, .int .i64 V.dir, .int .i64 V.door, .slice q' V.du.length cap', .int .i64 V.still, .bool V.late] 26)
  have HB4 := Lib.hid (HB3.out.trans (hb6.mono HB3.out.size))
  have HR4 := Lib.hid (HR3.out.next hb6)
  have HB54 := Lib.hid (HB53.out.next hb6)
  have HD4 := Lib.hid (HD.out.next hb6)
  have HB6 := Lib.hid B6
  clear B6 hb6 HB3 HR3 HB53 HD
  go_upto_region 3 with fail
  generalize w3.alloc (.cells #[.int .i64 V.fl, .int .i64 V.dir, .int .i64 V.door, .slice q' V.du.length cap', .int .i64 V.still, .bool V.late] 26) = w4 at *
  generalize w3.heap.size = g6 at *
  have hz5 := HB54.out.lt
  have hz6 := HB6.out.lt
  have k0 := (HB54.out).cell 0 _ rfl
  have k1 := (HB54.out).cell 1 _ rfl
  have k2 := (HB54.out).cell 2 _ rfl
  have k3 := (HB54.out).cell 3 _ rfl
  have k4 := (HB54.out).cell 4 _ rfl
  have k5 := (HB54.out).cell 5 _ rfl
  have k6 := (HB54.out).cell 6 _ rfl
  have k7 := (HB54.out).cell 7 _ rfl
  have j0 := (HB6.out).cell 0 _ rfl
  have j1 := (HB6.out).cell 1 _ rfl
  have j2 := (HB6.out).cell 2 _ rfl
  have j3 := (HB6.out).cell 3 _ rfl
  have j4 := (HB6.out).cell 4 _ rfl
  have j5 := (HB6.out).cell 5 _ rfl
  go_wp2_with fail
  go_loopw [7] (fun v wr => ∃ p : Int, 0 ≤ p ∧ p ≤ 5 ∧ v = .int .i64 p ∧ Below w4.heap.size w4 wr) (fun v _ => (5 - intOf v).toNat)
  case atStart => exact ⟨0, by omega, by omega, rfl, Below.refl _ _⟩
  case round =>
    obtain ⟨p, hp0, hp5, rfl, hb⟩ := hrel
    have HW := Lib.hid hb
    have c0 := base_cell HW.out
    clear hb
    by_cases hlt : p < 5
    · rcases (show p = 0 ∨ p = 1 ∨ p = 2 ∨ p = 3 ∨ p = 4 by omega) with rfl | rfl | rfl | rfl | rfl
      · have hco := coils_any b (some ⟨g, 0, none⟩) cap 0 0 V q' cap' wr (by omega) (Nat.le_trans h64 (by omega)) (HR4.out.next HW.out) (HD4.out.next HW.out)
        have hK : cvK (coilV b 0 0 V) (!wiredOn b 0 0 V) = cvK (coilC (puOf b 0) V.du) false := by
          unfold coilV
          rw [wired_state b 0 V HST.out]
          rfl
        have HC := Lib.hid (calls_val hco hK)
        clear hco hK
        go_wp2_with fail
        refine HC.out.mono ?_
        rintro e w7 ⟨rfl, hb7⟩
        have HW7 := Lib.hid (HW.out.trans (hb7.mono HW.out.size))
        clear hb7 HW c0 HC
        generalize coilC (puOf b 0) V.du = kk at *
        have hsz : w4.heap.size ≤ w7.heap.size := HW7.out.size
        go_wp2_with fail
        all_goals exact ⟨⟨1, by omega, by omega, rfl, HW7.out.alloc hsz _⟩, by simp [intOf]⟩
      · have hco := coils_any b (some ⟨g, 0, none⟩) cap 0 1 V q' cap' wr (by omega) (Nat.le_trans h64 (by omega)) (HR4.out.next HW.out) (HD4.out.next HW.out)
        have hK : cvK (coilV b 0 1 V) (!wiredOn b 0 1 V) = cvK (coilC (puOf b 0) V.du) false := by
          unfold coilV
          rw [wired_state b 1 V HST.out]
          rfl
        have HC := Lib.hid (calls_val hco hK)
        clear hco hK
        go_wp2_with fail
        refine HC.out.mono ?_
        rintro e w7 ⟨rfl, hb7⟩
        have HW7 := Lib.hid (HW.out.trans (hb7.mono HW.out.size))
        clear hb7 HW c0 HC
        generalize coilC (puOf b 0) V.du = kk at *
        have hsz : w4.heap.size ≤ w7.heap.size := HW7.out.size
        go_wp2_with fail
        all_goals exact ⟨⟨2, by omega, by omega, rfl, HW7.out.alloc hsz _⟩, by simp [intOf]⟩
      · have hco := coils_any b (some ⟨g, 0, none⟩) cap 0 2 V q' cap' wr (by omega) (Nat.le_trans h64 (by omega)) (HR4.out.next HW.out) (HD4.out.next HW.out)
        have hK : cvK (coilV b 0 2 V) (!wiredOn b 0 2 V) = cvK (0#32, 0#32) true := by
          unfold coilV
          rw [wired_state b 2 V HST.out]
          rfl
        have HC := Lib.hid (calls_val hco hK)
        clear hco hK
        go_wp2_with fail
        refine HC.out.mono ?_
        rintro e w7 ⟨rfl, hb7⟩
        have HW7 := Lib.hid (HW.out.trans (hb7.mono HW.out.size))
        clear hb7 HW c0 HC
        generalize coilC (puOf b 0) V.du = kk at *
        have hsz : w4.heap.size ≤ w7.heap.size := HW7.out.size
        go_wp2_with fail
        all_goals exact ⟨⟨3, by omega, by omega, rfl, HW7.out.alloc hsz _⟩, by simp [intOf]⟩
      · have hco := coils_any b (some ⟨g, 0, none⟩) cap 0 3 V q' cap' wr (by omega) (Nat.le_trans h64 (by omega)) (HR4.out.next HW.out) (HD4.out.next HW.out)
        have hK : cvK (coilV b 0 3 V) (!wiredOn b 0 3 V) = cvK (0#32, 0#32) true := by
          unfold coilV
          rw [wired_state b 3 V HST.out]
          rfl
        have HC := Lib.hid (calls_val hco hK)
        clear hco hK
        go_wp2_with fail
        refine HC.out.mono ?_
        rintro e w7 ⟨rfl, hb7⟩
        have HW7 := Lib.hid (HW.out.trans (hb7.mono HW.out.size))
        clear hb7 HW c0 HC
        generalize coilC (puOf b 0) V.du = kk at *
        have hsz : w4.heap.size ≤ w7.heap.size := HW7.out.size
        go_wp2_with fail
        all_goals exact ⟨⟨4, by omega, by omega, rfl, HW7.out.alloc hsz _⟩, by simp [intOf]⟩
      · have hco := coils_any b (some ⟨g, 0, none⟩) cap 0 4 V q' cap' wr (by omega) (Nat.le_trans h64 (by omega)) (HR4.out.next HW.out) (HD4.out.next HW.out)
        have hK : cvK (coilV b 0 4 V) (!wiredOn b 0 4 V) = cvK (0#32, 0#32) true := by
          unfold coilV
          rw [wired_state b 4 V HST.out]
          rfl
        have HC := Lib.hid (calls_val hco hK)
        clear hco hK
        go_wp2_with fail
        refine HC.out.mono ?_
        rintro e w7 ⟨rfl, hb7⟩
        have HW7 := Lib.hid (HW.out.trans (hb7.mono HW.out.size))
        clear hb7 HW c0 HC
        generalize coilC (puOf b 0) V.du = kk at *
        have hsz : w4.heap.size ≤ w7.heap.size := HW7.out.size
        go_wp2_with fail
        all_goals exact ⟨⟨5, by omega, by omega, rfl, HW7.out.alloc hsz _⟩, by simp [intOf]⟩
    · obtain rfl : p = 5 := by omega
      go_wp2_with fail
      refine (sane20_any _).mono ?_
      rintro e w9 ⟨rfl, hb9⟩
      go_wp2_with fail
      go_ret
      exact ⟨rfl, HWW.out.trans ((HB4.out.trans ((HW.out.trans (hb9.mono HW.out.size)).mono HB4.out.size)).mono HWW.out.size)⟩
set_option maxHeartbeats 1000000 in
set_option maxRecDepth 100000 in
theorem injectOut_lifted (os : Os) (started : os.Started) (H : Type) (enc : TypeId × Value → H) :
    ReturnsInHanded {} Try.checked os 5 .any (Rows.injectOutSpec.pre6 enc Try.prog Try.f5 Rows.injectOutRow.domain false) (Rows.injectOutSpec.post enc Try.prog Try.f5 false true false false) := by
  refine law_lifted (C := Try.checked) own laidOut started (by kernel_rfl) Try.func5 4 rfl Try.underlying4 (by kernel_rfl) rfl H enc
    (fun ds h => by match ds, h with | [d0, d1], _ => rfl)
    (ChangeSpec.witness6 (enc := enc) (C := Try.checked) false ⟨#[], #[.agg #[.int .u8 0, .int .u8 0], .slice none 0 0], []⟩ 8 (by kernel_rfl) (by kernel_rfl) (by kernel_rfl) (by kernel_rfl)) ?_
  intro W base args ds ps hval hA hsz
  have hA' : DataW.TrodAll enc Try.prog W 0 (fun _ => true) true Try.f5.params.toList args.toList ds ps := hA
  have hval' : ∀ (j : Nat) t v, Try.f5.params[j]? = some t → args[j]? = some v → Value.okWide Try.prog W .any base t v := hval
  rw [Try.params5] at hA' hval'
  obtain ⟨v0, vs0, d0, ds0, p0, q0, hargs, rfl, rfl, h0, r0⟩ := trodAll_cons hA'
  obtain ⟨v1, vs1, d1, ds1, p1, q1, rfl, rfl, rfl, h1, r1⟩ := trodAll_cons r0
  obtain ⟨rfl, rfl, rfl⟩ := trodAll_nil r1
  obtain rfl : args = #[v0, v1] := by cases args; simp_all
  obtain ⟨n0, t0, rfl, hn0, ht0⟩ := open_u8x2 (hval' 0 22 v0 rfl rfl) h0
  obtain ⟨l1, q1x, cap1, rfl, hl1, hu1⟩ := open_u8s (hval' 1 23 v1 rfl rfl) h1
  exact out_walk n0 t0 l1 q1x cap1 W hn0 ht0 hl1 hu1

theorem injectOut_over : Rows.injectOutRow.holds Try.pinned (OpenSpec.ofChange Rows.injectOutSpec) :=
  OpenClaim.holds_of_wide 5 Try.f5 rfl rfl rfl rfl rfl rfl rfl ⟨rfl, rfl, rfl, rfl, rfl⟩ rfl rfl rfl rfl rfl (by kernel_rfl) Try.func5 (by kernel_rfl)
    (of_decide_eq_true (by kernel_rfl)) (by unfold Func.isWrapper; first | (rw [if_pos (by decide +kernel)]; kernel_rfl) | (rw [if_neg (by decide +kernel)]; exact ⟨rfl, rfl⟩))
    (fun os started H enc _ => injectOut_lifted os started H enc)

/-- THE STATEMENT. -/
theorem injectOut_holds : Rows.InjectOutSaid := injectOut_over
#print axioms injectOut_holds
end Go.Proofs.Ytbhhjlemdpefkaa
