/- The walks over contract's proper, run, Check, Duties and Keeps. Conditions: a building whose cars can be read, marks that can be read. -/
import Derived.Test.YtfmmiafdlfdfoaaZRunLaw
namespace Go.Proofs.Ytfmmiafdlfdfoaa
open Go.RowKit
/-- The duties in a slice, from block lo on. -/
def duR (lo : Nat) (D : List Duty) (v : Value) (w : World) : Prop := ∃ q cap, v = .slice q D.length cap ∧ RdD w q D ∧ ∀ A, q = some A → lo ≤ A.block
theorem rdD_nil (w : World) (q : Option Addr) : RdD w q [] := fun i d h => by simp at h
theorem duR_next {lo : Nat} {D : List Duty} {v : Value} {w w' : World} (h : duR lo D v w) (hb : Below w.heap.size w w') : duR lo D v w' := by
  obtain ⟨q, cap, hv, hr, hl⟩ := h
  exact ⟨q, cap, hv, hr.next hb, hl⟩
theorem duR_form {lo : Nat} {D : List Duty} {v : Value} {w : World} (h : duR lo D v w) : ∃ q cap, v = .slice q D.length cap := by
  obtain ⟨q, cap, hv, _⟩ := h
  exact ⟨q, cap, hv⟩
theorem duR_lo {lo lo' : Nat} {D : List Duty} {v : Value} {w : World} (h : duR lo D v w) (hl : lo' ≤ lo) : duR lo' D v w := by
  obtain ⟨q, cap, hv, hr, h2⟩ := h
  exact ⟨q, cap, hv, hr, fun A hA => Nat.le_trans hl (h2 A hA)⟩
theorem duR_out {lo : Nat} {D : List Duty} {q : Option Addr} {n cap : Nat} {w : World} (h : duR lo D (.slice q n cap) w) : RdD w q D ∧ ∀ A, q = some A → lo ≤ A.block := by
  obtain ⟨q', cap', hv, hr, h2⟩ := h
  have : q = q' := by simp at hv; exact hv.1
  subst this
  exact ⟨hr, h2⟩
theorem RdM.atc {w : World} {q : Option Addr} {l : List MarkV} (h : RdM w q l) {i : Nat} {m : MarkV} (hi : l[i]? = some m) : ∃ A, q = some A ∧ A.block < w.heap.size ∧
    w.cell? (A.add (i * 5)) = some (.int .u32 (m.1.1.toNat : Int)) ∧ w.cell? ⟨(A.add (i * 5)).block, (A.add (i * 5)).off + 1, none⟩ = some (.int .u32 (m.1.2.toNat : Int)) ∧ w.cell? ⟨(A.add (i * 5)).block, (A.add (i * 5)).off + 2, none⟩ = some (.int .i64 m.2.1) ∧ w.cell? ⟨(A.add (i * 5)).block, (A.add (i * 5)).off + 3, none⟩ = some (.int .i64 m.2.2.1) ∧ w.cell? ⟨(A.add (i * 5)).block, (A.add (i * 5)).off + 4, none⟩ = some (.int .i64 m.2.2.2) := by
  obtain ⟨A, hq, hA, hc⟩ := h i m hi
  refine ⟨A, hq, hA, hc 0 _ rfl, ?_, ?_, ?_, ?_⟩
  · rw [← addr_one]; exact hc 1 _ rfl
  · rw [← addr_one]; exact hc 2 _ rfl
  · rw [← addr_one]; exact hc 3 _ rfl
  · rw [← addr_one]; exact hc 4 _ rfl
set_option maxHeartbeats 1000000 in
theorem proper_any (b : BldV) (q : Option Addr) (cap : Nat) (car : Int) (qm : Option Addr) (nm capm : Nat) (w : World) (hlen : b.cars.length ≤ 1000) (hr : RdC w q b.cars) (hm : nm ≤ maxLen) :
    Calls Try.prog 34 #[cvB b q cap, .int .i64 car, .slice qm nm capm] w fun e w' => e = .returned (.bool (properB b car nm)) ∧ Below w.heap.size w w' := by
  have X0 : Blk (w.alloc (.cells #[.int .i64 b.fl, .int .i64 b.deb, .int .i64 b.room, .int .i64 b.park, .float .f64 b.em, .float .f64 b.fu, .float .f64 b.ov, .slice q b.cars.length cap] 29)) w.heap.size [.int .i64 b.fl, .int .i64 b.deb, .int .i64 b.room, .int .i64 b.park, .float .f64 b.em, .float .f64 b.fu, .float .f64 b.ov, .slice q b.cars.length cap] := by
    have hx := Blk.new w [.int .i64 b.fl, .int .i64 b.deb, .int .i64 b.room, .int .i64 b.park, .float .f64 b.em, .float .f64 b.fu, .float .f64 b.ov, .slice q b.cars.length cap] 29
    exact hx
  have XW : Below w.heap.size w (w.alloc (.cells #[.int .i64 b.fl, .int .i64 b.deb, .int .i64 b.room, .int .i64 b.park, .float .f64 b.em, .float .f64 b.fu, .float .f64 b.ov, .slice q b.cars.length cap] 29)) := below1' w _
  have HWW := Lib.hid XW; have HX0 := Lib.hid X0
  clear XW X0
  have HR := Lib.hid (hr.next HWW.out); have HL1 := Lib.hid hlen
  clear hr
  unfold maxLen at hm
  go_enter Try.func34, Try.ntmps34
  go_upto_region 1 with fail
  generalize (w.alloc (.cells #[.int .i64 b.fl, .int .i64 b.deb, .int .i64 b.room, .int .i64 b.park, .float .f64 b.em, .float .f64 b.fu, .float .f64 b.ov, .slice q b.cars.length cap] 29)) = w0 at *
  have HW := Lib.hid (Below.refl w0.heap.size w0)
  have hz0 := HX0.out.lt
  have k0 := (HX0.out).cell 0 _ rfl
  have k1 := (HX0.out).cell 1 _ rfl
  have k2 := (HX0.out).cell 2 _ rfl
  have k3 := (HX0.out).cell 3 _ rfl
  have k4 := (HX0.out).cell 4 _ rfl
  have k5 := (HX0.out).cell 5 _ rfl
  have k6 := (HX0.out).cell 6 _ rfl
  have k7 := (HX0.out).cell 7 _ rfl
  have c0 := base_cell HW.out
  go_wp2_with fail
  refine (valid_any b q cap _ (by unfold maxLen; have := HL1.out; omega) HR.out).mono ?_
  rintro e w1 ⟨rfl, hbn⟩
  have HWn := Lib.hid (HW.out.trans (hbn.mono HW.out.size))
  try clear c0
  clear HW hbn
  have HW := HWn
  clear HWn
  have c0 := base_cell HW.out
  obtain ⟨vn, hvn⟩ : ∃ vn, vn = validN b := ⟨_, rfl⟩
  have HP : Hid (properB b car nm = (decide (vn = 0) && decide (0 ≤ car) && decide (car < (b.cars.length : Int)) && decide (nm ≤ 5000))) := Lib.hid (by rw [hvn]; rfl)
  rw [← hvn]
  have hc7 : (b.cars.length : Int) ≤ 1000 := by omega
  clear hvn
  by_cases h0 : vn = 0
  · have e0 : (vn == 0) = true := by simpa using h0
    go_wp2_with fail
    all_goals
      go_ret
      refine ⟨?_, HWW.out.trans (HW.out.mono HWW.out.size)⟩
      rw [HP.out, decide_eq_true h0]
      refine congrArg (fun x => Ending.returned (.bool x)) ?_
      simp only [Bool.true_and]
      first
        | (rw [decide_eq_false (show ¬ (0 ≤ car) by omega)]; rfl)
        | (rw [decide_eq_true (show 0 ≤ car by omega), decide_eq_false (show ¬ (car < (b.cars.length : Int)) by omega)]; rfl)
        | (rw [decide_eq_true (show 0 ≤ car by omega), decide_eq_true (show car < (b.cars.length : Int) by omega)]; first | rfl | (simp only [Bool.true_and]; show _ = decide _; rw [decide_eq_decide]; omega))
  · have e0 : (vn == 0) = false := by simpa using h0
    go_wp2_with fail
    go_ret
    refine ⟨?_, HWW.out.trans (HW.out.mono HWW.out.size)⟩
    rw [HP.out, decide_eq_false h0]
    rfl
theorem rdM_low {w w' : World} {q : Option Addr} {l : List MarkV} (h : RdM w q l) (hb : Below w.heap.size w w') : RdM w' q l := h.next hb
theorem rdC_block {w : World} {q : Option Addr} {l : List CarV} (h : RdC w q l) (hl : 1 ≤ l.length) : ∀ A, q = some A → A.block < w.heap.size := by
  intro A hA
  obtain ⟨c, hc⟩ : ∃ c, l[0]? = some c := ⟨_, List.getElem?_eq_getElem (by omega)⟩
  obtain ⟨A', hA', hlt, _⟩ := h 0 c hc
  rw [hA] at hA'
  cases hA'
  exact hlt
theorem row_nil {w : World} {base size : Nat} {e : TypeId} : w.ownsRow base e size (.slice none 0 0) 0 [] := ⟨by simp, .inl ⟨rfl, rfl⟩⟩
set_option maxHeartbeats 4000000 in
set_option maxRecDepth 100000 in
theorem run_any (b : BldV) (q : Option Addr) (cap : Nat) (car : Int) (L : List MarkV) (qm : Option Addr) (capm : Nat) (w : World) (hlen : b.cars.length ≤ 1000) (hr : RdC w q b.cars) (hm : L.length ≤ maxLen) (hmr : RdM w qm L) :
    Calls Try.prog 31 #[cvB b q cap, .int .i64 car, .slice qm L.length capm] w fun e w' => ∃ v, e = .returned (.tuple #[.int .i64 (runB b car L).1, v]) ∧ Below w.heap.size w w' ∧ duR w.heap.size (runB b car L).2 v w' := by
  have X0 : Blk (w.alloc (.cells #[.int .i64 b.fl, .int .i64 b.deb, .int .i64 b.room, .int .i64 b.park, .float .f64 b.em, .float .f64 b.fu, .float .f64 b.ov, .slice q b.cars.length cap] 29)) w.heap.size [.int .i64 b.fl, .int .i64 b.deb, .int .i64 b.room, .int .i64 b.park, .float .f64 b.em, .float .f64 b.fu, .float .f64 b.ov, .slice q b.cars.length cap] := by
    have hx := Blk.new w [.int .i64 b.fl, .int .i64 b.deb, .int .i64 b.room, .int .i64 b.park, .float .f64 b.em, .float .f64 b.fu, .float .f64 b.ov, .slice q b.cars.length cap] 29
    exact hx
  have XW : Below w.heap.size w (w.alloc (.cells #[.int .i64 b.fl, .int .i64 b.deb, .int .i64 b.room, .int .i64 b.park, .float .f64 b.em, .float .f64 b.fu, .float .f64 b.ov, .slice q b.cars.length cap] 29)) := below1' w _
  have HWW := Lib.hid XW; have HX0 := Lib.hid X0
  clear XW X0
  have HR0 := Lib.hid hr; have HM0 := Lib.hid hmr
  have HR := Lib.hid (hr.next HWW.out); have HL1 := Lib.hid hlen
  clear hr hmr
  obtain ⟨N, hN⟩ : ∃ N, N = L.length := ⟨_, rfl⟩
  have HN := Lib.hid hN
  have HPB : Hid (runB b car L = if properB b car N then runV b (dlOf b car) 0 [] L else (-1, [])) := Lib.hid (by rw [hN]; rfl)
  rw [← hN] at hm ⊢
  clear hN
  go_enter Try.func31, Try.ntmps31
  go_upto_region 1 with fail
  generalize (w.alloc (.cells #[.int .i64 b.fl, .int .i64 b.deb, .int .i64 b.room, .int .i64 b.park, .float .f64 b.em, .float .f64 b.fu, .float .f64 b.ov, .slice q b.cars.length cap] 29)) = w0 at *
  have HW := Lib.hid (Below.refl w0.heap.size w0)
  have hz0 := HX0.out.lt
  have k0 := (HX0.out).cell 0 _ rfl
  have k1 := (HX0.out).cell 1 _ rfl
  have k2 := (HX0.out).cell 2 _ rfl
  have k3 := (HX0.out).cell 3 _ rfl
  have k4 := (HX0.out).cell 4 _ rfl
  have k5 := (HX0.out).cell 5 _ rfl
  have k6 := (HX0.out).cell 6 _ rfl
  have k7 := (HX0.out).cell 7 _ rfl
  have c0 := base_cell HW.out
  go_wp2_with fail
  refine (proper_any b q cap car qm N capm _ HL1.out HR.out hm).mono ?_
  rintro e w1 ⟨rfl, hbn⟩
  have HWn := Lib.hid (HW.out.trans (hbn.mono HW.out.size))
  try clear c0
  clear HW hbn
  have HW := HWn
  clear HWn
  have c0 := base_cell HW.out
  cases hp : properB b car N
  · have HP := Lib.hid hp
    go_wp2_with fail
    exact bodyPost_ret (v := .tuple #[.int .i64 (-1), .slice none 0 0]) (by simp [results, Try.results31, go_sem]) rfl ⟨_, by rw [HPB.out, HP.out]; rfl, HWW.out.trans (HW.out.mono HWW.out.size), by rw [HPB.out, HP.out]; exact ⟨none, 0, rfl, rdD_nil _ _, fun A h => by cases h⟩⟩
  · obtain ⟨hv, hcr, hN5⟩ := properB_car _ _ _ hp
    obtain ⟨cc, hcn, hcl, hcg, hdl⟩ := car_at b car hcr
    have hdm := valid_dl b hv _ _ hcg
    obtain ⟨_, _, hcar1, _⟩ := valid_range b hv
    have HQB := Lib.hid (rdC_block HR0.out hcar1)
    have HRN : Hid (runB b car L = runV b cc.dl 0 [] L) := Lib.hid (by rw [HPB.out, hp, hdl]; rfl)
    have HOK := Lib.hid (okD_nil b car hv hcr)
    have HDL := Lib.hid hdl; have X3 := Lib.hid hcg
    clear hv hcr hdl hcg hp HPB
    go_upto_region 3 with fail
    have hgw0 : w.heap.size < w1.heap.size := Nat.lt_of_lt_of_le hz0 HW.out.size
    have hlo : w1.heap.size ≤ w1.drew.heap.size := Nat.le_refl _
    have t0 := ((HX0.out.later HW.out hz0)).reg 0 _ rfl
    have t1 := ((HX0.out.later HW.out hz0)).reg 1 _ rfl
    have t2 := ((HX0.out.later HW.out hz0)).reg 2 _ rfl
    have t3 := ((HX0.out.later HW.out hz0)).reg 3 _ rfl
    have t4 := ((HX0.out.later HW.out hz0)).reg 4 _ rfl
    have t5 := ((HX0.out.later HW.out hz0)).reg 5 _ rfl
    have t6 := ((HX0.out.later HW.out hz0)).reg 6 _ rfl
    have t7 := ((HX0.out.later HW.out hz0)).reg 7 _ rfl
    obtain ⟨A', hq2, hA2, q0⟩ := (HR.out.next HW.out).reg0 X3.out
    subst hq2
    clear hA2 k0 k1 k2 k3 k4 k5 k6 k7 c0
    refine Grow.wp_region (mkPlan 8 ptrS w1.heap.size (trC b (some A') cap cc.dl 0 none 0)) (mkPlan_stable _ _ _ _) (by kernel_rfl) (by kernel_rfl) ?_
    intro opsq Hopsq
    repeat (first | (refine Grow.lex_move rfl ?_ rfl ?_; (· first | exact Grow.wanted_none | (rw [Hopsq.out]; rfl)); intro K hK; simp only [Grow.put_lit, Grow.setAt, Grow.eval_lit, Grow.ev]; refine hK _ _ ?_; clear hK K) | (refine Grow.lex_assign rfl ?_ rfl ?_; (· first | exact Grow.wanted_none | (rw [Hopsq.out]; rfl)); intro K hK; simp only [Grow.put_lit, Grow.setAt, Grow.eval_lit, Grow.ev]; refine hK _ _ ?_; clear hK K) | (refine Grow.lex_plain rfl rfl ?_ rfl ?_; (· first | exact Grow.wanted_none | (rw [Hopsq.out]; rfl)); apply Exists.intro; refine ⟨fun wq hCq _ => ?_, ?_⟩; (· (go_wp2_with fail; refine ⟨rfl, Below.refl _ _, ?_⟩; simp only [Grow.getD_lit, Grow.nth]; rfl)); intro K hK; simp only [Grow.put_lit, Grow.setAt]; refine hK _ _ ?_; clear hK K) | (refine Grow.lex_nilCheck rfl rfl ?_ rfl ?_; (· first | exact Grow.wanted_none | (rw [Hopsq.out]; rfl)); intro K hK; simp only [Grow.put_lit, Grow.setAt]; refine hK _ _ ?_; clear hK K) | (refine Grow.lex_skip ?_ ?_; (· (rw [Hopsq.out]; rfl)); intro K hK; simp only [Grow.put_lit, Grow.setAt]; refine hK _ _ ?_; clear hK K))
    refine lex_mk 8 ptrS w1.heap.size (trC b (some A') cap cc.dl 0 none 0) 90 ?_ (fun wq => ?_) hlo ?_
    · first | exact Grow.wanted_none | (rw [Hopsq.out]; rfl)
    · go_simp
      first | rfl | exact ⟨rfl, rfl⟩
    intro gt hgt
    simp only [Grow.put_lit, Grow.setAt, ptrS]
    repeat (first | (refine Grow.lex_move rfl ?_ rfl ?_; (· first | exact Grow.wanted_none | (rw [Hopsq.out]; rfl)); intro K hK; simp only [Grow.put_lit, Grow.setAt, Grow.eval_lit, Grow.ev]; refine hK _ _ ?_; clear hK K) | (refine Grow.lex_assign rfl ?_ rfl ?_; (· first | exact Grow.wanted_none | (rw [Hopsq.out]; rfl)); intro K hK; simp only [Grow.put_lit, Grow.setAt, Grow.eval_lit, Grow.ev]; refine hK _ _ ?_; clear hK K) | (refine Grow.lex_plain rfl rfl ?_ rfl ?_; (· first | exact Grow.wanted_none | (rw [Hopsq.out]; rfl)); apply Exists.intro; refine ⟨fun wq hCq _ => ?_, ?_⟩; (· (go_wp2_with fail; refine ⟨rfl, Below.refl _ _, ?_⟩; simp only [Grow.getD_lit, Grow.nth]; rfl)); intro K hK; simp only [Grow.put_lit, Grow.setAt]; refine hK _ _ ?_; clear hK K) | (refine Grow.lex_nilCheck rfl rfl ?_ rfl ?_; (· first | exact Grow.wanted_none | (rw [Hopsq.out]; rfl)); intro K hK; simp only [Grow.put_lit, Grow.setAt]; refine hK _ _ ?_; clear hK K) | (refine Grow.lex_skip ?_ ?_; (· (rw [Hopsq.out]; rfl)); intro K hK; simp only [Grow.put_lit, Grow.setAt]; refine hK _ _ ?_; clear hK K))
    refine Grow.lex_nil ?_
    intro w2 hb2 hTq
    have htt := mk_blk ptrS_inj hTq
    replace hb2 := Grow.Cl.base hb2
    clear hTq Hopsq opsq t0 t1 t2 t3 t4 t5 t6 t7 q0 hlo
    have hgt1 := htt.lt
    have HT2 := Lib.hid htt
    have hb02 := HW.out.trans (hb2.mono HW.out.size)
    have HB2 := Lib.hid (HWW.out.trans (hb02.mono HWW.out.size))
    have hgw : w.heap.size ≤ gt := by omega
    have hgb : gt < gt + 1 := Nat.lt_succ_self _
    clear htt hb2 hb02 HW HR
    have hDL := dl_pos b car (sD []) ((okD_iff b car []).1 HOK.out).1
    rw [HDL.out] at hDL
    go_wp2_with fail
    go_loopw [27] (fun v wr => ∃ (k : Nat) (D : List Duty) (q9 : Option Addr) (cap9 : Nat), k ≤ N ∧ v = .int .i64 k ∧ runB b car L = runV b cc.dl k D (L.drop k) ∧ okD b car D = true ∧ Blk wr gt (trC b (some A') cap cc.dl D.length q9 cap9) ∧ wr.ownsRow (gt + 1) 71 3 (.slice q9 D.length cap9) D.length (dutyCells D) ∧ Below gt w2 wr ∧ gt + 1 ≤ wr.heap.size) (fun v _ => N - (intOf v).toNat)
    case atStart => exact ⟨0, [], none, 0, by omega, rfl, by rw [HRN.out]; rfl, HOK.out, HT2.out, row_nil, Below.refl _ _, hgt1⟩
    case round =>
      clear HT2 HOK hgt1
      obtain ⟨k, D, q9, cap9, hk, rfl, hrun, hok, hT, hO, hb, hs⟩ := hrel
      have HT := Lib.hid hT; have HO := Lib.hid hO; have HRUN := Lib.hid hrun; have HOK := Lib.hid hok
      have HWr := Lib.hid (HB2.out.trans (hb.mono hgw))
      have HBr := Lib.hid hb
      clear hT hO hrun hok hb
      by_cases hlt : k < N
      · have hd : decide ((k : Int) < (N : Int)) = true := by simp; omega
        obtain ⟨m, hmk⟩ : ∃ m, L[k]? = some m := ⟨_, List.getElem?_eq_getElem (by rw [← HN.out]; exact hlt)⟩
        obtain ⟨A, hqA, hA, d0, d1, d2, d3, d4⟩ := RdM.atc (HM0.out.next HWr.out) hmk
        subst hqA
        have HMK := Lib.hid hmk
        have hkw : (0 : Int) ≤ (k : Int) := by omega
        have hkw' : (k : Int) < (N : Int) := by omega
        clear hmk hA
        have HWo := HWW
        have X0 : Blk (wr.alloc (.cells #[.int .u32 (m.1.1.toNat : Int), .int .u32 (m.1.2.toNat : Int), .int .i64 m.2.1, .int .i64 m.2.2.1, .int .i64 m.2.2.2] 51)) wr.heap.size [.int .u32 (m.1.1.toNat : Int), .int .u32 (m.1.2.toNat : Int), .int .i64 m.2.1, .int .i64 m.2.2.1, .int .i64 m.2.2.2] := by
          have hx := Blk.new wr [.int .u32 (m.1.1.toNat : Int), .int .u32 (m.1.2.toNat : Int), .int .i64 m.2.1, .int .i64 m.2.2.1, .int .i64 m.2.2.2] 51
          exact hx
        have XW : Below wr.heap.size wr (wr.alloc (.cells #[.int .u32 (m.1.1.toNat : Int), .int .u32 (m.1.2.toNat : Int), .int .i64 m.2.1, .int .i64 m.2.2.1, .int .i64 m.2.2.2] 51)) := below1' wr _
        have HWW := Lib.hid XW; have HX0 := Lib.hid X0
        clear XW X0
        go_upto_region 7 with fail
        generalize (wr.alloc (.cells #[.int .u32 (m.1.1.toNat : Int), .int .u32 (m.1.2.toNat : Int), .int .i64 m.2.1, .int .i64 m.2.2.1, .int .i64 m.2.2.2] 51)) = w6 at *
        have HW := Lib.hid (Below.refl w6.heap.size w6)
        have hz0 := HX0.out.lt
        obtain ⟨h1, h2, h3, h4⟩ := okD_parts b car D HOK.out
        have HT6 := Lib.hid (HT.out.next HWW.out); have HO6 := Lib.hid (rowLater HO.out HWW.out)
        have hgtr : gt ≤ wr.heap.size := Nat.le_of_lt HT.out.lt
        have HB6 := Lib.hid (HBr.out.trans (HWW.out.mono hgtr))
        have hs6 : gt + 1 ≤ w6.heap.size := Nat.le_trans hs HWW.out.size
        have hTK := tick_any b (some A') cap cc.dl D q9 cap9 gt (gt + 1) m w6 HL1.out h1 (by rw [← HDL.out]; exact h2) hdm h3 h4 (HR0.out.next (HWr.out.trans (HWW.out.mono HWr.out.size))) (fun A hA => Nat.lt_of_lt_of_le (HQB.out A hA) hgw) HT6.out hgb hs6 HO6.out
        have HTK := Lib.hid hTK
        clear hTK h1 h2 h3 h4 d0 d1 d2 d3 d4 HT HO HBr HWr
        have x0 := (HX0.out).cell 0 _ rfl
        have x1 := (HX0.out).cell 1 _ rfl
        have x2 := (HX0.out).cell 2 _ rfl
        have x3 := (HX0.out).cell 3 _ rfl
        have x4 := (HX0.out).cell 4 _ rfl
        cases hl : agedLate cc.dl D
        · have HST := Lib.hid (runV_step b cc.dl k D L m HMK.out hl)
          have HOK2 := Lib.hid (tick_ok b car D m HOK.out (by rw [HDL.out]; exact hl))
          rw [hl] at HTK
          clear hl
          go_wp2_with fail
          refine HTK.out.mono ?_
          rintro e w7 ⟨rfl, hb7, h7⟩
          obtain ⟨q10, cap10, hT7, hO7⟩ := h7 trivial
          have HT7 := Lib.hid hT7; have HO7 := Lib.hid hO7
          have HB7 := Lib.hid (HB6.out.trans hb7)
          have hs7 : gt + 1 ≤ w7.heap.size := HT7.out.lt
          clear hT7 hO7 hb7 h7 x0 x1 x2 x3 x4
          go_wp2_with fail
          exact ⟨⟨k + 1, tickD b D m, q10, cap10, by omega, by go_num, by rw [HRUN.out, HST.out], HOK2.out, HT7.out, HO7.out, HB7.out, hs7⟩, by simp [intOf]; omega⟩
        · have HST := Lib.hid (runV_late b cc.dl k D L m HMK.out hl)
          rw [hl] at HTK
          clear hl
          go_wp2_with fail
          refine HTK.out.mono ?_
          rintro e w7 ⟨rfl, hb7, _⟩
          have HB7 := Lib.hid (HB6.out.trans hb7)
          clear hb7 x0 x1 x2 x3 x4
          go_wp2_with fail
          exact bodyPost_ret (v := .tuple #[.int .i64 (k : Int), .slice none 0 0]) (by simp [results, Try.results31, go_sem]) rfl ⟨_, by rw [HRUN.out, HST.out], HB2.out.trans (HB7.out.mono hgw), by rw [HRUN.out, HST.out]; exact ⟨none, 0, rfl, rdD_nil _ _, fun A h => by cases h⟩⟩
      · obtain rfl : k = N := by omega
        have hd : decide ((k : Int) < (k : Int)) = false := by simp
        have hdr : L.drop k = [] := by rw [HN.out, List.drop_length]
        have HRU : Hid (runB b car L = (-1, D)) := Lib.hid (by rw [HRUN.out, hdr]; rfl)
        clear hdr
        go_upto_region 10 with fail
        have t9 := (HT.out).reg 9 _ rfl
        (refine Grow.wp_region Grow.noPlan Grow.noPlan_stable (by kernel_rfl) (by kernel_rfl) ?_; intro opsq Hopsq)
        repeat (first | (refine Grow.lex_move rfl ?_ rfl ?_; (· first | exact Grow.wanted_none | (rw [Hopsq.out]; rfl)); intro K hK; simp only [Grow.put_lit, Grow.setAt, Grow.eval_lit, Grow.ev]; refine hK _ _ ?_; clear hK K) | (refine Grow.lex_assign rfl ?_ rfl ?_; (· first | exact Grow.wanted_none | (rw [Hopsq.out]; rfl)); intro K hK; simp only [Grow.put_lit, Grow.setAt, Grow.eval_lit, Grow.ev]; refine hK _ _ ?_; clear hK K) | (refine Grow.lex_plain rfl rfl ?_ rfl ?_; (· first | exact Grow.wanted_none | (rw [Hopsq.out]; rfl)); apply Exists.intro; refine ⟨fun wq hCq _ => ?_, ?_⟩; (· (go_wp2_with fail; refine ⟨rfl, Below.refl _ _, ?_⟩; simp only [Grow.getD_lit, Grow.nth]; rfl)); intro K hK; simp only [Grow.put_lit, Grow.setAt]; refine hK _ _ ?_; clear hK K) | (refine Grow.lex_nilCheck rfl rfl ?_ rfl ?_; (· first | exact Grow.wanted_none | (rw [Hopsq.out]; rfl)); intro K hK; simp only [Grow.put_lit, Grow.setAt]; refine hK _ _ ?_; clear hK K) | (refine Grow.lex_skip ?_ ?_; (· (rw [Hopsq.out]; rfl)); intro K hK; simp only [Grow.put_lit, Grow.setAt]; refine hK _ _ ?_; clear hK K))
        (refine Grow.lex_nil ?_; intro wz hbz _; replace hbz := Grow.Cl.base hbz; clear Hopsq opsq)
        go_wp2_with fail
        exact bodyPost_ret (v := .tuple #[.int .i64 (-1), .slice q9 D.length cap9]) (by simp [results, Try.results31, go_sem]) rfl ⟨_, by rw [HRU.out], HWr.out.trans (hbz.mono HWr.out.size), by rw [HRU.out]; exact ⟨q9, cap9, rfl, (rdD_of_owns HO.out rfl).next hbz, fun A hA => by have := row_lo HO.out A hA; omega⟩⟩
set_option maxHeartbeats 1000000 in
theorem check_any (b : BldV) (q : Option Addr) (cap : Nat) (car : Int) (L : List MarkV) (qm : Option Addr) (capm : Nat) (w : World) (hlen : b.cars.length ≤ 1000) (hr : RdC w q b.cars) (hm : L.length ≤ maxLen) (hmr : RdM w qm L) :
    Calls Try.prog 12 #[cvB b q cap, .int .i64 car, .slice qm L.length capm] w fun e w' => e = .returned (.int .i64 (runB b car L).1) ∧ Below w.heap.size w w' := by
  have X0 : Blk (w.alloc (.cells #[.int .i64 b.fl, .int .i64 b.deb, .int .i64 b.room, .int .i64 b.park, .float .f64 b.em, .float .f64 b.fu, .float .f64 b.ov, .slice q b.cars.length cap] 29)) w.heap.size [.int .i64 b.fl, .int .i64 b.deb, .int .i64 b.room, .int .i64 b.park, .float .f64 b.em, .float .f64 b.fu, .float .f64 b.ov, .slice q b.cars.length cap] := by
    have hx := Blk.new w [.int .i64 b.fl, .int .i64 b.deb, .int .i64 b.room, .int .i64 b.park, .float .f64 b.em, .float .f64 b.fu, .float .f64 b.ov, .slice q b.cars.length cap] 29
    exact hx
  have XW : Below w.heap.size w (w.alloc (.cells #[.int .i64 b.fl, .int .i64 b.deb, .int .i64 b.room, .int .i64 b.park, .float .f64 b.em, .float .f64 b.fu, .float .f64 b.ov, .slice q b.cars.length cap] 29)) := below1' w _
  have HWW := Lib.hid XW; have HX0 := Lib.hid X0
  clear XW X0
  have HR := Lib.hid (hr.next HWW.out); have HM := Lib.hid (hmr.next HWW.out); have HL1 := Lib.hid hlen; have HL2 := Lib.hid hm
  clear hr hmr
  go_enter Try.func12, Try.ntmps12
  go_upto_region 1 with fail
  generalize (w.alloc (.cells #[.int .i64 b.fl, .int .i64 b.deb, .int .i64 b.room, .int .i64 b.park, .float .f64 b.em, .float .f64 b.fu, .float .f64 b.ov, .slice q b.cars.length cap] 29)) = w0 at *
  have HW := Lib.hid (Below.refl w0.heap.size w0)
  have hz0 := HX0.out.lt
  have k0 := (HX0.out).cell 0 _ rfl
  have k1 := (HX0.out).cell 1 _ rfl
  have k2 := (HX0.out).cell 2 _ rfl
  have k3 := (HX0.out).cell 3 _ rfl
  have k4 := (HX0.out).cell 4 _ rfl
  have k5 := (HX0.out).cell 5 _ rfl
  have k6 := (HX0.out).cell 6 _ rfl
  have k7 := (HX0.out).cell 7 _ rfl
  go_wp2_with fail
  refine (run_any b q cap car L qm capm _ HL1.out HR.out HL2.out HM.out).mono ?_
  rintro e w1 ⟨v, rfl, hb1, hd⟩
  obtain ⟨q9, cap9, rfl⟩ := duR_form hd
  have HD := Lib.hid hd
  clear hd
  go_wp2_with fail
  go_ret
  exact ⟨rfl, HWW.out.trans (hb1.mono HWW.out.size)⟩
set_option maxHeartbeats 1000000 in
theorem duties_any (b : BldV) (q : Option Addr) (cap : Nat) (car : Int) (L : List MarkV) (qm : Option Addr) (capm : Nat) (w : World) (hlen : b.cars.length ≤ 1000) (hr : RdC w q b.cars) (hm : L.length ≤ maxLen) (hmr : RdM w qm L) :
    Calls Try.prog 17 #[cvB b q cap, .int .i64 car, .slice qm L.length capm] w fun e w' => ∃ v, e = .returned v ∧ Below w.heap.size w w' ∧ duR w.heap.size (runB b car L).2 v w' := by
  have X0 : Blk (w.alloc (.cells #[.int .i64 b.fl, .int .i64 b.deb, .int .i64 b.room, .int .i64 b.park, .float .f64 b.em, .float .f64 b.fu, .float .f64 b.ov, .slice q b.cars.length cap] 29)) w.heap.size [.int .i64 b.fl, .int .i64 b.deb, .int .i64 b.room, .int .i64 b.park, .float .f64 b.em, .float .f64 b.fu, .float .f64 b.ov, .slice q b.cars.length cap] := by
    have hx := Blk.new w [.int .i64 b.fl, .int .i64 b.deb, .int .i64 b.room, .int .i64 b.park, .float .f64 b.em, .float .f64 b.fu, .float .f64 b.ov, .slice q b.cars.length cap] 29
    exact hx
  have XW : Below w.heap.size w (w.alloc (.cells #[.int .i64 b.fl, .int .i64 b.deb, .int .i64 b.room, .int .i64 b.park, .float .f64 b.em, .float .f64 b.fu, .float .f64 b.ov, .slice q b.cars.length cap] 29)) := below1' w _
  have HWW := Lib.hid XW; have HX0 := Lib.hid X0
  clear XW X0
  have HR := Lib.hid (hr.next HWW.out); have HM := Lib.hid (hmr.next HWW.out); have HL1 := Lib.hid hlen; have HL2 := Lib.hid hm
  clear hr hmr
  go_enter Try.func17, Try.ntmps17
  go_upto_region 1 with fail
  generalize (w.alloc (.cells #[.int .i64 b.fl, .int .i64 b.deb, .int .i64 b.room, .int .i64 b.park, .float .f64 b.em, .float .f64 b.fu, .float .f64 b.ov, .slice q b.cars.length cap] 29)) = w0 at *
  have HW := Lib.hid (Below.refl w0.heap.size w0)
  have hz0 := HX0.out.lt
  have k0 := (HX0.out).cell 0 _ rfl
  have k1 := (HX0.out).cell 1 _ rfl
  have k2 := (HX0.out).cell 2 _ rfl
  have k3 := (HX0.out).cell 3 _ rfl
  have k4 := (HX0.out).cell 4 _ rfl
  have k5 := (HX0.out).cell 5 _ rfl
  have k6 := (HX0.out).cell 6 _ rfl
  have k7 := (HX0.out).cell 7 _ rfl
  go_wp2_with fail
  refine (run_any b q cap car L qm capm _ HL1.out HR.out HL2.out HM.out).mono ?_
  rintro e w1 ⟨v, rfl, hb1, hd⟩
  obtain ⟨q9, cap9, rfl⟩ := duR_form hd
  have HD := Lib.hid (duR_lo hd (Nat.le_of_lt hz0))
  clear hd
  go_wp2_with fail
  go_ret
  exact ⟨_, rfl, HWW.out.trans (hb1.mono HWW.out.size), HD.out⟩
def keepsB (b : BldV) (car : Int) (L : List MarkV) : Bool := properB b car L.length && decide ((runB b car L).1 < 0)
set_option maxHeartbeats 1000000 in
theorem keeps_any (b : BldV) (q : Option Addr) (cap : Nat) (car : Int) (L : List MarkV) (qm : Option Addr) (capm : Nat) (w : World) (hlen : b.cars.length ≤ 1000) (hr : RdC w q b.cars) (hm : L.length ≤ maxLen) (hmr : RdM w qm L) :
    Calls Try.prog 14 #[cvB b q cap, .int .i64 car, .slice qm L.length capm] w fun e w' => e = .returned (.bool (keepsB b car L)) ∧ Below w.heap.size w w' := by
  have X0 : Blk (w.alloc (.cells #[.int .i64 b.fl, .int .i64 b.deb, .int .i64 b.room, .int .i64 b.park, .float .f64 b.em, .float .f64 b.fu, .float .f64 b.ov, .slice q b.cars.length cap] 29)) w.heap.size [.int .i64 b.fl, .int .i64 b.deb, .int .i64 b.room, .int .i64 b.park, .float .f64 b.em, .float .f64 b.fu, .float .f64 b.ov, .slice q b.cars.length cap] := by
    have hx := Blk.new w [.int .i64 b.fl, .int .i64 b.deb, .int .i64 b.room, .int .i64 b.park, .float .f64 b.em, .float .f64 b.fu, .float .f64 b.ov, .slice q b.cars.length cap] 29
    exact hx
  have XW : Below w.heap.size w (w.alloc (.cells #[.int .i64 b.fl, .int .i64 b.deb, .int .i64 b.room, .int .i64 b.park, .float .f64 b.em, .float .f64 b.fu, .float .f64 b.ov, .slice q b.cars.length cap] 29)) := below1' w _
  have HWW := Lib.hid XW; have HX0 := Lib.hid X0
  clear XW X0
  have HR := Lib.hid (hr.next HWW.out); have HM := Lib.hid (hmr.next HWW.out); have HL1 := Lib.hid hlen; have HL2 := Lib.hid hm
  have HK : Hid (keepsB b car L = (properB b car L.length && decide ((runB b car L).1 < 0))) := Lib.hid rfl
  clear hr hmr
  go_enter Try.func14, Try.ntmps14
  go_upto_region 1 with fail
  generalize (w.alloc (.cells #[.int .i64 b.fl, .int .i64 b.deb, .int .i64 b.room, .int .i64 b.park, .float .f64 b.em, .float .f64 b.fu, .float .f64 b.ov, .slice q b.cars.length cap] 29)) = w0 at *
  have HW := Lib.hid (Below.refl w0.heap.size w0)
  have hz0 := HX0.out.lt
  have k0 := (HX0.out).cell 0 _ rfl
  have k1 := (HX0.out).cell 1 _ rfl
  have k2 := (HX0.out).cell 2 _ rfl
  have k3 := (HX0.out).cell 3 _ rfl
  have k4 := (HX0.out).cell 4 _ rfl
  have k5 := (HX0.out).cell 5 _ rfl
  have k6 := (HX0.out).cell 6 _ rfl
  have k7 := (HX0.out).cell 7 _ rfl
  have c0 := base_cell HW.out
  go_wp2_with fail
  refine (proper_any b q cap car qm L.length capm _ HL1.out HR.out HL2.out).mono ?_
  rintro e w1 ⟨rfl, hbn⟩
  have HWn := Lib.hid (HW.out.trans (hbn.mono HW.out.size))
  try clear c0
  clear HW hbn
  have HW := HWn
  clear HWn
  have c0 := base_cell HW.out
  cases hp : properB b car L.length
  · have HP := Lib.hid hp
    clear hp
    go_wp2_with fail
    go_ret
    exact ⟨by rw [HK.out, HP.out]; rfl, HWW.out.trans (HW.out.mono HWW.out.size)⟩
  · have HP := Lib.hid hp
    clear hp
    go_wp2_with fail
    refine (check_any b q cap car L qm capm _ HL1.out (HR.out.next HW.out) HL2.out (HM.out.next HW.out)).mono ?_
    rintro e w2 ⟨rfl, hbn⟩
    have HWn := Lib.hid (HW.out.trans (hbn.mono HW.out.size))
    try clear c0
    clear HW hbn
    have HW := HWn
    clear HWn
    have c0 := base_cell HW.out
    go_wp2_with fail
    go_ret
    exact ⟨by rw [HK.out, HP.out]; rfl, HWW.out.trans (HW.out.mono HWW.out.size)⟩
end Go.Proofs.Ytfmmiafdlfdfoaa
