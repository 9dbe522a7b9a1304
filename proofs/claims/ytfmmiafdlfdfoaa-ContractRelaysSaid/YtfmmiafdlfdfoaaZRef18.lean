/- The walks over overlayref18's known, follow, Check, Duties and Keeps. Conditions: a building whose cars can be read, marks that can be read, at most 5000; slack times that are no more than the greatest number less one. -/
import Derived.Test.YtfmmiafdlfdfoaaZRun
import Derived.Test.YtfmmiafdlfdfoaaZSame18
namespace Go.Proofs.Ytfmmiafdlfdfoaa
open Go.RowKit
/-- One tick of one call: when its duty began, or -1. -/
def stepG (b : BldV) (f d : Int) (i : Nat) (g : Int) (m : MarkV) : Int :=
  if (if decide (0 ≤ g) && has (showsV b.fl m.2) f d then -1 else g) < 0 ∧ has m.1 f d = true then (i : Int) else (if decide (0 ≤ g) && has (showsV b.fl m.2) f d then -1 else g)
/-- One call: the tick in which its duty breaks the contract, or -1; the tick in which its last duty began, or -1. -/
def followV (b : BldV) (lim f d : Int) : Nat → Int → List MarkV → Int × Int
  | _, g, [] => (-1, g)
  | i, g, m :: l => if 0 ≤ g ∧ lim < (i : Int) - g then ((i : Int), g) else followV b lim f d (i + 1) (stepG b f d i g m) l
theorem followV_late (b : BldV) (lim f d : Int) (i : Nat) (g : Int) (L : List MarkV) (m : MarkV) (h : L[i]? = some m) (hl : 0 ≤ g ∧ lim < (i : Int) - g) : followV b lim f d i g (L.drop i) = ((i : Int), g) := by
  obtain ⟨hi, rfl⟩ := List.getElem?_eq_some_iff.1 h
  rw [List.drop_eq_getElem_cons hi, followV, if_pos hl]
theorem followV_step (b : BldV) (lim f d : Int) (i : Nat) (g : Int) (L : List MarkV) (m : MarkV) (h : L[i]? = some m) (hl : ¬ (0 ≤ g ∧ lim < (i : Int) - g)) : followV b lim f d i g (L.drop i) = followV b lim f d (i + 1) (stepG b f d i g m) (L.drop (i + 1)) := by
  obtain ⟨hi, rfl⟩ := List.getElem?_eq_some_iff.1 h
  rw [List.drop_eq_getElem_cons hi, followV, if_neg hl]
/-- The first of two ticks, -1 for none. -/
def firstI (a n : Int) : Int := if 0 ≤ n ∧ (a < 0 ∨ n < a) then n else a
def checkV (b : BldV) (lim : Int) (L : List MarkV) (all : List (Int × Int)) : Int := all.foldl (fun a p => firstI a (followV b lim p.1 p.2 0 (-1) L).1) (-1)
theorem checkV_snoc (b : BldV) (lim : Int) (L : List MarkV) (all : List (Int × Int)) (i : Nat) (p : Int × Int) (h : all[i]? = some p) : checkV b lim L (all.take (i + 1)) = firstI (checkV b lim L (all.take i)) (followV b lim p.1 p.2 0 (-1) L).1 := by
  rw [List.take_add_one, h]
  simp [checkV]
def itemF (b : BldV) (lim : Int) (L : List MarkV) (p : Int × Int) : List Duty := if 0 ≤ (followV b lim p.1 p.2 0 (-1) L).2 then [(p.1, p.2, (L.length : Int) - 1 - (followV b lim p.1 p.2 0 (-1) L).2)] else []
def duV (b : BldV) (lim : Int) (L : List MarkV) (all : List (Int × Int)) : List Duty := all.flatMap (itemF b lim L)
theorem duV_snoc (b : BldV) (lim : Int) (L : List MarkV) (all : List (Int × Int)) (i : Nat) (p : Int × Int) (h : all[i]? = some p) : duV b lim L (all.take (i + 1)) = duV b lim L (all.take i) ++ itemF b lim L p := by
  rw [List.take_add_one, h]
  simp [duV]
theorem duV_len (b : BldV) (lim : Int) (L : List MarkV) (all : List (Int × Int)) : (duV b lim L all).length ≤ all.length := by
  induction all with
  | nil => simp [duV]
  | cons p t ih =>
    simp only [duV, List.flatMap_cons, List.length_append, List.length_cons] at *
    have : (itemF b lim L p).length ≤ 1 := by unfold itemF; split <;> simp
    omega
def refCheckB (b : BldV) (car : Int) (L : List MarkV) : Int := if properB b car L.length then checkV b (dlOf b car) L (listC (hallC b)) else -1
def refDutiesB (b : BldV) (car : Int) (L : List MarkV) : List Duty := if properB b car L.length ∧ refCheckB b car L < 0 then duV b (dlOf b car) L (listC (hallC b)) else []
theorem followV_range (b : BldV) (lim f d : Int) : ∀ (L : List MarkV) (i : Nat) (g : Int), -1 ≤ g → g < (i : Int) → -1 ≤ (followV b lim f d i g L).1 ∧ (followV b lim f d i g L).1 < ((i + L.length : Nat) : Int) ∧ -1 ≤ (followV b lim f d i g L).2 ∧ (followV b lim f d i g L).2 < ((i + L.length : Nat) : Int)
  | [], i, g, h1, h2 => ⟨Int.le_refl _, by show (-1 : Int) < _; omega, h1, by show g < _; rw [List.length_nil]; omega⟩
  | m :: L, i, g, h1, h2 => by
    unfold followV
    rw [List.length_cons]
    split
    · simp only; omega
    · have hs : -1 ≤ stepG b f d i g m ∧ stepG b f d i g m < ((i + 1 : Nat) : Int) := by unfold stepG; split <;> (try split) <;> omega
      have := followV_range b lim f d L (i + 1) (stepG b f d i g m) hs.1 hs.2
      omega
theorem RdC.at0 {w : World} {q : Option Addr} {l : List CarV} (h : RdC w q l) {i : Nat} {c : CarV} (hi : l[i]? = some c) : ∃ A, q = some A ∧ A.block < w.heap.size ∧ w.cell? (A.add (i * 9)) = some (.int .i64 c.dl) := by
  obtain ⟨A, hq, hA, hc⟩ := h i c hi
  exact ⟨A, hq, hA, hc 0 _ rfl⟩
set_option maxHeartbeats 1000000 in
theorem known_any (b : BldV) (q : Option Addr) (cap : Nat) (car : Int) (qm : Option Addr) (nm capm : Nat) (w : World) (hlen : b.cars.length ≤ 1000) (hsl : ∀ c ∈ b.cars, -9223372036854775808 ≤ c.sl ∧ c.sl < 9223372036854775807) (hr : RdC w q b.cars) (hm : nm ≤ maxLen) :
    Calls Try.prog 32 #[cvB b q cap, .int .i64 car, .slice qm nm capm] w fun e w' => e = .returned (.bool (properB b car nm)) ∧ Below w.heap.size w w' := by
  have X0 : Blk (w.alloc (.cells #[.int .i64 b.fl, .int .i64 b.deb, .int .i64 b.room, .int .i64 b.park, .float .f64 b.em, .float .f64 b.fu, .float .f64 b.ov, .slice q b.cars.length cap] 29)) w.heap.size [.int .i64 b.fl, .int .i64 b.deb, .int .i64 b.room, .int .i64 b.park, .float .f64 b.em, .float .f64 b.fu, .float .f64 b.ov, .slice q b.cars.length cap] := by
    have hx := Blk.new w [.int .i64 b.fl, .int .i64 b.deb, .int .i64 b.room, .int .i64 b.park, .float .f64 b.em, .float .f64 b.fu, .float .f64 b.ov, .slice q b.cars.length cap] 29
    exact hx
  have XW : Below w.heap.size w (w.alloc (.cells #[.int .i64 b.fl, .int .i64 b.deb, .int .i64 b.room, .int .i64 b.park, .float .f64 b.em, .float .f64 b.fu, .float .f64 b.ov, .slice q b.cars.length cap] 29)) := below1' w _
  have HWW := Lib.hid XW; have HX0 := Lib.hid X0
  clear XW X0
  have HR := Lib.hid (hr.next HWW.out); have HL1 := Lib.hid hlen; have HSL := Lib.hid hsl
  clear hr hsl
  unfold maxLen at hm
  go_enter Try.func32, Try.ntmps32
  go_upto_region 1 with fail
  generalize (w.alloc (.cells #[.int .i64 b.fl, .int .i64 b.deb, .int .i64 b.room, .int .i64 b.park, .float .f64 b.em, .float .f64 b.fu, .float .f64 b.ov, .slice q b.cars.length cap] 29)) = w0 at *
  have HW := Lib.hid (Below.refl w0.heap.size w0)
  have hz0 := HX0.out.lt
  have k0 := (HX0.out).cell 0 _ rfl
  have k1 := (HX0.out).cell 1 _ rfl
  have k2 := (HX0.out).cell 2 _ rfl
  have k3 := (HX0.out).cell 3 _ rfl
  have k4 := (HX0.out).cell 4 _ rfl
  have k5 := (HX0.out).cell 5 _ rfl
  have k6 := (HX0.out).cell 6 _ rfl
  have k7 := (HX0.out).cell 7 _ rfl
  have c0 := base_cell HW.out
  go_wp2_with fail
  refine (refValid_any b q cap _ (by unfold maxLen; have := HL1.out; omega) HSL.out HR.out).mono ?_
  rintro e w1 ⟨rfl, hbn⟩
  have HWn := Lib.hid (HW.out.trans (hbn.mono HW.out.size))
  try clear c0
  clear HW hbn
  have HW := HWn
  clear HWn
  have c0 := base_cell HW.out
  obtain ⟨vn, hvn⟩ : ∃ vn, vn = validN b := ⟨_, rfl⟩
  have HP : Hid (properB b car nm = (decide (vn = 0) && decide (0 ≤ car) && decide (car < (b.cars.length : Int)) && decide (nm ≤ 5000))) := Lib.hid (by rw [hvn]; rfl)
  rw [← hvn]
  have hc7 : (b.cars.length : Int) ≤ 1000 := by omega
  clear hvn
  by_cases h0 : vn = 0
  · have e0 : (vn == 0) = true := by simpa using h0
    go_wp2_with fail
    all_goals
      go_ret
      refine ⟨?_, HWW.out.trans (HW.out.mono HWW.out.size)⟩
      rw [HP.out, decide_eq_true h0]
      refine congrArg (fun x => Ending.returned (.bool x)) ?_
      simp only [Bool.true_and]
      first
        | (rw [decide_eq_false (show ¬ (0 ≤ car) by omega)]; rfl)
        | (rw [decide_eq_true (show 0 ≤ car by omega), decide_eq_false (show ¬ (car < (b.cars.length : Int)) by omega)]; rfl)
        | (rw [decide_eq_true (show 0 ≤ car by omega), decide_eq_true (show car < (b.cars.length : Int) by omega)]; first | rfl | (simp only [Bool.true_and]; show _ = decide _; rw [decide_eq_decide]; omega))
  · have e0 : (vn == 0) = false := by simpa using h0
    go_wp2_with fail
    go_ret
    refine ⟨?_, HWW.out.trans (HW.out.mono HWW.out.size)⟩
    rw [HP.out, decide_eq_false h0]
    rfl
set_option maxHeartbeats 4000000 in
set_option maxRecDepth 100000 in
theorem follow_any (b : BldV) (q : Option Addr) (cap : Nat) (car : Int) (L : List MarkV) (qm : Option Addr) (capm : Nat) (f d : Int) (w : World) (hcr : inR 0 ((b.cars.length : Int) - 1) car = true) (hr : RdC w q b.cars) (hm : L.length ≤ 5000) (hmr : RdM w qm L) :
    Calls Try.prog 33 #[cvB b q cap, .int .i64 car, .slice qm L.length capm, .int .i64 f, .int .i64 d] w fun e w' => e = .returned (.tuple #[.int .i64 (followV b (dlOf b car) f d 0 (-1) L).1, .int .i64 (followV b (dlOf b car) f d 0 (-1) L).2]) ∧ Below w.heap.size w w' := by
  obtain ⟨cc, hcn, hcm, hcg, hdl⟩ := car_at b car hcr
  have X0 : Blk (w.alloc (.cells #[.int .i64 b.fl, .int .i64 b.deb, .int .i64 b.room, .int .i64 b.park, .float .f64 b.em, .float .f64 b.fu, .float .f64 b.ov, .slice q b.cars.length cap] 29)) w.heap.size [.int .i64 b.fl, .int .i64 b.deb, .int .i64 b.room, .int .i64 b.park, .float .f64 b.em, .float .f64 b.fu, .float .f64 b.ov, .slice q b.cars.length cap] := by
    have hx := Blk.new w [.int .i64 b.fl, .int .i64 b.deb, .int .i64 b.room, .int .i64 b.park, .float .f64 b.em, .float .f64 b.fu, .float .f64 b.ov, .slice q b.cars.length cap] 29
    exact hx
  have XW : Below w.heap.size w (w.alloc (.cells #[.int .i64 b.fl, .int .i64 b.deb, .int .i64 b.room, .int .i64 b.park, .float .f64 b.em, .float .f64 b.fu, .float .f64 b.ov, .slice q b.cars.length cap] 29)) := below1' w _
  have HWW := Lib.hid XW; have HX0 := Lib.hid X0
  clear XW X0
  have HR := Lib.hid (hr.next HWW.out); have HM := Lib.hid (hmr.next HWW.out); have X3 := Lib.hid hcg
  rw [hdl]
  clear hr hmr hcg hdl hcr
  obtain ⟨N, hN⟩ : ∃ N, N = L.length := ⟨_, rfl⟩
  have HN := Lib.hid hN
  rw [← hN] at hm ⊢
  clear hN
  obtain ⟨R, hR⟩ : ∃ R, R = followV b cc.dl f d 0 (-1) L := ⟨_, rfl⟩
  rw [← hR]
  have HRR := Lib.hid hR
  clear hR
  go_enter Try.func33, Try.ntmps33
  go_upto_region 1 with fail
  generalize (w.alloc (.cells #[.int .i64 b.fl, .int .i64 b.deb, .int .i64 b.room, .int .i64 b.park, .float .f64 b.em, .float .f64 b.fu, .float .f64 b.ov, .slice q b.cars.length cap] 29)) = w0 at *
  have HW := Lib.hid (Below.refl w0.heap.size w0)
  have hz0 := HX0.out.lt
  go_wp2_with fail
  go_loopw [12, 13] (fun v12 v13 wr => ∃ (i : Nat) (g : Int), i ≤ N ∧ v13 = .int .i64 i ∧ v12 = .int .i64 g ∧ -1 ≤ g ∧ g < (i : Int) ∧ R = followV b cc.dl f d i g (L.drop i) ∧ Below w0.heap.size w0 wr) (fun _ v _ => N - (intOf v).toNat)
  case atStart => exact ⟨0, -1, by omega, rfl, rfl, by omega, by omega, by rw [HRR.out]; rfl, HW.out⟩
  case round =>
    clear HW
    obtain ⟨i, g, hi, rfl, rfl, hg1, hg2, hrun, hb⟩ := hrel
    have HW := Lib.hid hb; have HRUN := Lib.hid hrun
    clear hb hrun
    have c0 := base_cell HW.out
    have k7 := HX0.out.cell 7 _ rfl
    by_cases hlt : i < N
    · have hd : decide ((i : Int) < (N : Int)) = true := by simp; omega
      obtain ⟨m, hmk⟩ : ∃ m, L[i]? = some m := ⟨_, List.getElem?_eq_getElem (by rw [← HN.out]; exact hlt)⟩
      have hfl := followV_late b cc.dl f d i g L m hmk
      have hfs := followV_step b cc.dl f d i g L m hmk
      have HFL := Lib.hid hfl; have HFS := Lib.hid hfs; have HMK := Lib.hid hmk
      clear hfl hfs hmk
      have hiw : (0 : Int) ≤ (i : Int) := by omega
      have hiw' : (i : Int) < (N : Int) := by omega
      go_upto_region 5 with fail
      go_cut [33] from 20 to 33 (fun v wx => v = .bool (decide (0 ≤ g ∧ cc.dl < (i : Int) - g)) ∧ wx = wr)
      case first =>
        by_cases hg0 : 0 ≤ g
        · have hg : decide (0 ≤ g) = true := decide_eq_true hg0
          obtain ⟨A', hq2, hA2, q1⟩ := (HR.out.next HW.out).at0 X3.out
          subst hq2
          have hsub : IntKind.i64.wrap ((i : Int) - g) = (i : Int) - g := by rw [IntKind.wrap_i64]; omega
          go_wp2_with fail
          go_meet
          refine ⟨?_, rfl⟩
          have hE : (0 ≤ g ∧ cc.dl < (i : Int) - g) ↔ cc.dl < (i : Int) - g := ⟨fun h => h.2, fun h => ⟨hg0, h⟩⟩
          rw [decide_eq_decide.2 hE]
        · have hg : decide (0 ≤ g) = false := decide_eq_false hg0
          have HE : Hid (decide (0 ≤ g ∧ cc.dl < (i : Int) - g) = false) := Lib.hid (decide_eq_false fun h => hg0 h.1)
          go_wp2_with fail
          go_meet
          exact ⟨by rw [HE.out], rfl⟩
      case rest =>
      obtain ⟨rfl, hwc⟩ := hcut
      have hwc' := hwc.symm
      subst hwc'
      clear hwc
      by_cases hl : 0 ≤ g ∧ cc.dl < (i : Int) - g
      · have HF := Lib.hid (HFL.out hl)
        rw [decide_eq_true hl]
        clear hl
        go_wp2_with fail
        exact bodyPost_ret (v := .tuple #[.int .i64 (i : Int), .int .i64 g]) (by simp [results, Try.results33, go_sem]) rfl ⟨by rw [HRUN.out, HF.out], HWW.out.trans (HW.out.mono HWW.out.size)⟩
      · have HF := Lib.hid (HFS.out hl)
        rw [decide_eq_false hl]
        clear hl c0 k7
        obtain ⟨A, hqA, hA, d0, d1, d2, d3, d4⟩ := (HM.out.next HW.out).reg HMK.out
        subst hqA
        go_upto_region 7 with fail
        have t0 := ((HX0.out.next HW.out)).reg 0 _ rfl
        have t1 := ((HX0.out.next HW.out)).reg 1 _ rfl
        have t2 := ((HX0.out.next HW.out)).reg 2 _ rfl
        have t3 := ((HX0.out.next HW.out)).reg 3 _ rfl
        have t4 := ((HX0.out.next HW.out)).reg 4 _ rfl
        have t5 := ((HX0.out.next HW.out)).reg 5 _ rfl
        have t6 := ((HX0.out.next HW.out)).reg 6 _ rfl
        have t7 := ((HX0.out.next HW.out)).reg 7 _ rfl
        go_cut [50] from 36 to 50 (fun v wx => v = .bool (decide (0 ≤ g) && has (showsV b.fl m.2) f d) ∧ Below wr.heap.size wr wx)
        case first =>
          by_cases hg0 : 0 ≤ g
          · have HE : Hid ((decide (0 ≤ g) && has (showsV b.fl m.2) f d) = has (showsV b.fl m.2) f d) := Lib.hid (by rw [decide_eq_true hg0, Bool.true_and])
            have hg : decide (0 ≤ g) = true := decide_eq_true hg0
            have hgT : (0 ≤ g) = True := eq_true hg0
            clear hg0
            (refine Grow.wp_region Grow.noPlan Grow.noPlan_stable (by kernel_rfl) (by kernel_rfl) ?_; intro opsq Hopsq)
            repeat (first | (refine Grow.lex_move rfl ?_ rfl ?_; (· first | exact Grow.wanted_none | (rw [Hopsq.out]; rfl)); intro K hK; simp only [Grow.put_lit, Grow.setAt, Grow.eval_lit, Grow.ev]; refine hK _ _ ?_; clear hK K) | (refine Grow.lex_assign rfl ?_ rfl ?_; (· first | exact Grow.wanted_none | (rw [Hopsq.out]; rfl)); intro K hK; simp only [Grow.put_lit, Grow.setAt, Grow.eval_lit, Grow.ev]; refine hK _ _ ?_; clear hK K) | (refine Grow.lex_plain rfl rfl ?_ rfl ?_; (· first | exact Grow.wanted_none | (rw [Hopsq.out]; rfl)); apply Exists.intro; refine ⟨fun wq hCq _ => ?_, ?_⟩; (· (go_wp2_with fail; refine ⟨rfl, Below.refl _ _, ?_⟩; simp only [Grow.getD_lit, Grow.nth]; rfl)); intro K hK; simp only [Grow.put_lit, Grow.setAt]; refine hK _ _ ?_; clear hK K) | (refine Grow.lex_nilCheck rfl rfl ?_ rfl ?_; (· first | exact Grow.wanted_none | (rw [Hopsq.out]; rfl)); intro K hK; simp only [Grow.put_lit, Grow.setAt]; refine hK _ _ ?_; clear hK K) | (refine Grow.lex_skip ?_ ?_; (· (rw [Hopsq.out]; rfl)); intro K hK; simp only [Grow.put_lit, Grow.setAt]; refine hK _ _ ?_; clear hK K))
            (refine Grow.lex_call ?_ rfl ?_; (· first | exact Grow.wanted_none | (rw [Hopsq.out]; rfl)); apply Exists.intro; apply Exists.intro; refine ⟨fun wq => ?_, ?_⟩; (· (go_simp; exact ⟨rfl, rfl⟩)); apply Exists.intro; refine ⟨fun wq hCq hKq => ?_, ?_⟩; (· exact refShows_any b.fl m.2 _); intro K hK; simp only [Grow.put_lit, Grow.setAt]; refine hK _ _ ?_; clear hK K)
            repeat (first | (refine Grow.lex_move rfl ?_ rfl ?_; (· first | exact Grow.wanted_none | (rw [Hopsq.out]; rfl)); intro K hK; simp only [Grow.put_lit, Grow.setAt, Grow.eval_lit, Grow.ev]; refine hK _ _ ?_; clear hK K) | (refine Grow.lex_assign rfl ?_ rfl ?_; (· first | exact Grow.wanted_none | (rw [Hopsq.out]; rfl)); intro K hK; simp only [Grow.put_lit, Grow.setAt, Grow.eval_lit, Grow.ev]; refine hK _ _ ?_; clear hK K) | (refine Grow.lex_plain rfl rfl ?_ rfl ?_; (· first | exact Grow.wanted_none | (rw [Hopsq.out]; rfl)); apply Exists.intro; refine ⟨fun wq hCq _ => ?_, ?_⟩; (· (go_wp2_with fail; refine ⟨rfl, Below.refl _ _, ?_⟩; simp only [Grow.getD_lit, Grow.nth]; rfl)); intro K hK; simp only [Grow.put_lit, Grow.setAt]; refine hK _ _ ?_; clear hK K) | (refine Grow.lex_nilCheck rfl rfl ?_ rfl ?_; (· first | exact Grow.wanted_none | (rw [Hopsq.out]; rfl)); intro K hK; simp only [Grow.put_lit, Grow.setAt]; refine hK _ _ ?_; clear hK K) | (refine Grow.lex_skip ?_ ?_; (· (rw [Hopsq.out]; rfl)); intro K hK; simp only [Grow.put_lit, Grow.setAt]; refine hK _ _ ?_; clear hK K))
            (refine Grow.lex_call ?_ rfl ?_; (· first | exact Grow.wanted_none | (rw [Hopsq.out]; rfl)); apply Exists.intro; apply Exists.intro; refine ⟨fun wq => ?_, ?_⟩; (· (go_simp; exact ⟨rfl, rfl⟩)); apply Exists.intro; refine ⟨fun wq hCq hKq => ?_, ?_⟩; (· exact refHas_any (showsV b.fl m.2) f d _); intro K hK; simp only [Grow.put_lit, Grow.setAt]; refine hK _ _ ?_; clear hK K)
            repeat (first | (refine Grow.lex_move rfl ?_ rfl ?_; (· first | exact Grow.wanted_none | (rw [Hopsq.out]; rfl)); intro K hK; simp only [Grow.put_lit, Grow.setAt, Grow.eval_lit, Grow.ev]; refine hK _ _ ?_; clear hK K) | (refine Grow.lex_assign rfl ?_ rfl ?_; (· first | exact Grow.wanted_none | (rw [Hopsq.out]; rfl)); intro K hK; simp only [Grow.put_lit, Grow.setAt, Grow.eval_lit, Grow.ev]; refine hK _ _ ?_; clear hK K) | (refine Grow.lex_plain rfl rfl ?_ rfl ?_; (· first | exact Grow.wanted_none | (rw [Hopsq.out]; rfl)); apply Exists.intro; refine ⟨fun wq hCq _ => ?_, ?_⟩; (· (go_wp2_with fail; refine ⟨rfl, Below.refl _ _, ?_⟩; simp only [Grow.getD_lit, Grow.nth]; rfl)); intro K hK; simp only [Grow.put_lit, Grow.setAt]; refine hK _ _ ?_; clear hK K) | (refine Grow.lex_nilCheck rfl rfl ?_ rfl ?_; (· first | exact Grow.wanted_none | (rw [Hopsq.out]; rfl)); intro K hK; simp only [Grow.put_lit, Grow.setAt]; refine hK _ _ ?_; clear hK K) | (refine Grow.lex_skip ?_ ?_; (· (rw [Hopsq.out]; rfl)); intro K hK; simp only [Grow.put_lit, Grow.setAt]; refine hK _ _ ?_; clear hK K))
            (refine Grow.lex_nil ?_; intro wz hbz _; replace hbz := Grow.Cl.base hbz; clear Hopsq opsq)
            go_wp2_with fail
            go_meet
            exact ⟨by first | rw [HE.out] | simp, hbz⟩
          · have HE : Hid ((decide (0 ≤ g) && has (showsV b.fl m.2) f d) = false) := Lib.hid (by rw [decide_eq_false hg0, Bool.false_and])
            have hg : decide (0 ≤ g) = false := decide_eq_false hg0
            have hgT : (0 ≤ g) = False := eq_false hg0
            clear hg0
            (refine Grow.wp_region Grow.noPlan Grow.noPlan_stable (by kernel_rfl) (by kernel_rfl) ?_; intro opsq Hopsq)
            repeat (first | (refine Grow.lex_move rfl ?_ rfl ?_; (· first | exact Grow.wanted_none | (rw [Hopsq.out]; rfl)); intro K hK; simp only [Grow.put_lit, Grow.setAt, Grow.eval_lit, Grow.ev]; refine hK _ _ ?_; clear hK K) | (refine Grow.lex_assign rfl ?_ rfl ?_; (· first | exact Grow.wanted_none | (rw [Hopsq.out]; rfl)); intro K hK; simp only [Grow.put_lit, Grow.setAt, Grow.eval_lit, Grow.ev]; refine hK _ _ ?_; clear hK K) | (refine Grow.lex_plain rfl rfl ?_ rfl ?_; (· first | exact Grow.wanted_none | (rw [Hopsq.out]; rfl)); apply Exists.intro; refine ⟨fun wq hCq _ => ?_, ?_⟩; (· (go_wp2_with fail; refine ⟨rfl, Below.refl _ _, ?_⟩; simp only [Grow.getD_lit, Grow.nth]; rfl)); intro K hK; simp only [Grow.put_lit, Grow.setAt]; refine hK _ _ ?_; clear hK K) | (refine Grow.lex_nilCheck rfl rfl ?_ rfl ?_; (· first | exact Grow.wanted_none | (rw [Hopsq.out]; rfl)); intro K hK; simp only [Grow.put_lit, Grow.setAt]; refine hK _ _ ?_; clear hK K) | (refine Grow.lex_skip ?_ ?_; (· (rw [Hopsq.out]; rfl)); intro K hK; simp only [Grow.put_lit, Grow.setAt]; refine hK _ _ ?_; clear hK K))
            (refine Grow.lex_nil ?_; intro wz hbz _; replace hbz := Grow.Cl.base hbz; clear Hopsq opsq)
            go_wp2_with fail
            go_meet
            exact ⟨by first | rw [HE.out] | simp, hbz⟩
        case rest =>
        obtain ⟨rfl, hbz⟩ := hcut
        generalize hwx : wc = wz at *
        clear hwx
        have HWz := Lib.hid (HW.out.trans (hbz.mono HW.out.size))
        have HSG : Hid (stepG b f d i g m = if (if decide (0 ≤ g) && has (showsV b.fl m.2) f d then -1 else g) < 0 ∧ has m.1 f d = true then (i : Int) else (if decide (0 ≤ g) && has (showsV b.fl m.2) f d then -1 else g)) := Lib.hid rfl
        have hgr : -1 ≤ (if decide (0 ≤ g) && has (showsV b.fl m.2) f d then -1 else g) ∧ (if decide (0 ≤ g) && has (showsV b.fl m.2) f d then -1 else g) < (i : Int) := by split <;> omega
        obtain ⟨A2, hqA2, _, e0, e1, e2, e3, e4⟩ := (HM.out.next HWz.out).atc HMK.out
        obtain rfl : A = A2 := by simpa using hqA2
        clear hbz t0 t1 t2 t3 t4 t5 t6 t7 d0 d1 d2 d3 d4 hA hqA2
        generalize (decide (0 ≤ g) && has (showsV b.fl m.2) f d) = x at *
        go_upto_if 50 with fail
        go_cut [12] from 50 to 50 (fun v wx => v = .int .i64 (if x then -1 else g) ∧ wx = wz)
        case first =>
          cases x
          · go_wp2_with fail
            go_meet
            exact ⟨rfl, rfl⟩
          · go_wp2_with fail
            go_meet
            exact ⟨rfl, rfl⟩
        case rest =>
        obtain ⟨rfl, hwc⟩ := hcut
        have hwc' := hwc.symm
        subst hwc'
        clear hwc
        generalize (if x then -1 else g) = g1 at *
        obtain ⟨hgr1, hgr2⟩ := hgr
        by_cases hg0 : g1 < 0
        · have hg : decide (g1 < 0) = true := decide_eq_true hg0
          have HHA := Lib.hid (refHas_any m.1 f d wz)
          cases hh : has m.1 f d
          · rw [hh] at HHA HSG
            have HS2 : Hid (stepG b f d i g m = g1) := Lib.hid (by rw [HSG.out, if_neg (by simp)])
            clear hh
            go_wp2_with fail
            refine HHA.out.mono ?_
            rintro e wy ⟨rfl, hby⟩
            go_wp2_with fail
            exact ⟨⟨i + 1, g1, by omega, by go_num, rfl, hgr1, by omega, by rw [HRUN.out, HF.out, HS2.out], HWz.out.trans (hby.mono HWz.out.size)⟩, by simp [intOf]; omega⟩
          · rw [hh] at HHA HSG
            have HS2 : Hid (stepG b f d i g m = (i : Int)) := Lib.hid (by rw [HSG.out, if_pos ⟨hg0, rfl⟩])
            clear hh
            go_wp2_with fail
            refine HHA.out.mono ?_
            rintro e wy ⟨rfl, hby⟩
            go_wp2_with fail
            exact ⟨⟨i + 1, (i : Int), by omega, by go_num, rfl, by omega, by omega, by rw [HRUN.out, HF.out, HS2.out], HWz.out.trans (hby.mono HWz.out.size)⟩, by simp [intOf]; omega⟩
        · have hg : decide (g1 < 0) = false := decide_eq_false hg0
          have HS2 : Hid (stepG b f d i g m = g1) := Lib.hid (by rw [HSG.out, if_neg (fun h => hg0 h.1)])
          go_wp2_with fail
          exact ⟨⟨i + 1, g1, by omega, by go_num, rfl, hgr1, by omega, by rw [HRUN.out, HF.out, HS2.out], HWz.out⟩, by simp [intOf]; omega⟩
    · obtain rfl : i = N := by omega
      have hd : decide ((i : Int) < (i : Int)) = false := by simp
      have hdr : L.drop i = [] := by rw [HN.out, List.drop_length]
      have HRU : Hid (R = (-1, g)) := Lib.hid (by rw [HRUN.out, hdr]; rfl)
      clear hdr
      go_wp2_with fail
      exact bodyPost_ret (v := .tuple #[.int .i64 (-1), .int .i64 g]) (by simp [results, Try.results33, go_sem]) rfl ⟨by rw [HRU.out], HWW.out.trans (HW.out.mono HWW.out.size)⟩
set_option maxHeartbeats 4000000 in
set_option maxRecDepth 100000 in
theorem refCheck_any (b : BldV) (q : Option Addr) (cap : Nat) (car : Int) (L : List MarkV) (qm : Option Addr) (capm : Nat) (w : World) (hlen : b.cars.length ≤ 1000) (hsl : ∀ c ∈ b.cars, -9223372036854775808 ≤ c.sl ∧ c.sl < 9223372036854775807) (hr : RdC w q b.cars) (hm : L.length ≤ maxLen) (hmr : RdM w qm L) :
    Calls Try.prog 13 #[cvB b q cap, .int .i64 car, .slice qm L.length capm] w fun e w' => e = .returned (.int .i64 (refCheckB b car L)) ∧ Below w.heap.size w w' := by
  have X0 : Blk (w.alloc (.cells #[.int .i64 b.fl, .int .i64 b.deb, .int .i64 b.room, .int .i64 b.park, .float .f64 b.em, .float .f64 b.fu, .float .f64 b.ov, .slice q b.cars.length cap] 29)) w.heap.size [.int .i64 b.fl, .int .i64 b.deb, .int .i64 b.room, .int .i64 b.park, .float .f64 b.em, .float .f64 b.fu, .float .f64 b.ov, .slice q b.cars.length cap] := by
    have hx := Blk.new w [.int .i64 b.fl, .int .i64 b.deb, .int .i64 b.room, .int .i64 b.park, .float .f64 b.em, .float .f64 b.fu, .float .f64 b.ov, .slice q b.cars.length cap] 29
    exact hx
  have XW : Below w.heap.size w (w.alloc (.cells #[.int .i64 b.fl, .int .i64 b.deb, .int .i64 b.room, .int .i64 b.park, .float .f64 b.em, .float .f64 b.fu, .float .f64 b.ov, .slice q b.cars.length cap] 29)) := below1' w _
  have HWW := Lib.hid XW; have HX0 := Lib.hid X0
  clear XW X0
  have HR := Lib.hid (hr.next HWW.out); have HM := Lib.hid (hmr.next HWW.out); have HL1 := Lib.hid hlen; have HSL := Lib.hid hsl
  clear hr hmr hsl
  obtain ⟨N, hN⟩ : ∃ N, N = L.length := ⟨_, rfl⟩
  have HN := Lib.hid hN
  have HPB : Hid (refCheckB b car L = if properB b car N then checkV b (dlOf b car) L (listC (hallC b)) else -1) := Lib.hid (by rw [hN]; rfl)
  rw [← hN] at hm ⊢
  clear hN
  go_enter Try.func13, Try.ntmps13
  go_upto_region 1 with fail
  generalize (w.alloc (.cells #[.int .i64 b.fl, .int .i64 b.deb, .int .i64 b.room, .int .i64 b.park, .float .f64 b.em, .float .f64 b.fu, .float .f64 b.ov, .slice q b.cars.length cap] 29)) = w0 at *
  have HW := Lib.hid (Below.refl w0.heap.size w0)
  have hz0 := HX0.out.lt
  have k0 := (HX0.out).cell 0 _ rfl
  have k1 := (HX0.out).cell 1 _ rfl
  have k2 := (HX0.out).cell 2 _ rfl
  have k3 := (HX0.out).cell 3 _ rfl
  have k4 := (HX0.out).cell 4 _ rfl
  have k5 := (HX0.out).cell 5 _ rfl
  have k6 := (HX0.out).cell 6 _ rfl
  have k7 := (HX0.out).cell 7 _ rfl
  have c0 := base_cell HW.out
  go_wp2_with fail
  refine (known_any b q cap car qm N capm _ HL1.out HSL.out HR.out hm).mono ?_
  rintro e w1 ⟨rfl, hbn⟩
  have HWn := Lib.hid (HW.out.trans (hbn.mono HW.out.size))
  try clear c0
  clear HW hbn
  have HW := HWn
  clear HWn
  have c0 := base_cell HW.out
  cases hp : properB b car N
  · have HP := Lib.hid hp
    clear hp
    go_wp2_with fail
    go_ret
    exact ⟨by rw [HPB.out, HP.out]; rfl, HWW.out.trans (HW.out.mono HWW.out.size)⟩
  · obtain ⟨hv, hcr, hN5⟩ := properB_car _ _ _ hp
    have HCR := Lib.hid hcr
    have HRN : Hid (refCheckB b car L = checkV b (dlOf b car) L (listC (hallC b))) := Lib.hid (by rw [HPB.out, hp]; rfl)
    have HFO : Hid (∀ (W : World) (f d : Int), Below w0.heap.size w0 W → Calls Try.prog 33 #[cvB b q cap, .int .i64 car, .slice qm N capm, .int .i64 f, .int .i64 d] W fun e w' => e = .returned (.tuple #[.int .i64 (followV b (dlOf b car) f d 0 (-1) L).1, .int .i64 (followV b (dlOf b car) f d 0 (-1) L).2]) ∧ Below W.heap.size W w') := by
      refine Lib.hid fun W f d hW => ?_
      have h := follow_any b q cap car L qm capm f d W HCR.out (HR.out.next hW) (by rw [← HN.out]; exact hN5) (HM.out.next hW)
      rw [← HN.out] at h
      exact h
    clear hp hv hcr HPB
    go_wp2_with fail
    refine (refHall_any b q cap _ HL1.out HSL.out (HR.out.next HW.out)).mono ?_
    rintro e w2 ⟨rfl, hbn⟩
    have HWn := Lib.hid (HW.out.trans (hbn.mono HW.out.size))
    try clear c0
    clear HW hbn
    have HW := HWn
    clear HWn
    have c0 := base_cell HW.out
    go_wp2_with fail
    refine (refList_any (hallC b) _).mono ?_
    rintro e w3 ⟨v, rfl, hown, hb3⟩
    obtain ⟨qe, cape, rfl⟩ := row_form hown
    have HE := Lib.hid (rdE_of_owns hown rfl)
    have HWn := Lib.hid (HW.out.trans (hb3.mono HW.out.size))
    clear HW hb3 c0 hown k0 k1 k2 k3 k4 k5 k6 k7
    have hne64 := listC_len (hallC b)
    generalize hall : listC (hallC b) = all at *
    clear hall
    obtain ⟨ne, hne⟩ : ∃ ne, ne = all.length := ⟨_, rfl⟩
    have HNE := Lib.hid hne
    rw [← hne] at hne64 ⊢
    clear hne
    go_wp2_with fail
    go_loopw [7, 9] (fun v7 v9 wr => ∃ i : Nat, i ≤ ne ∧ v9 = .int .i64 i ∧ v7 = .int .i64 (checkV b (dlOf b car) L (all.take i)) ∧ Below w3.heap.size w3 wr) (fun _ v _ => ne - (intOf v).toNat)
    case atStart => exact ⟨0, by omega, rfl, rfl, Below.refl _ _⟩
    case round =>
      obtain ⟨i, hi, rfl, rfl, hb⟩ := hrel
      have HB := Lib.hid hb
      have HW := Lib.hid (HWn.out.trans (hb.mono HWn.out.size))
      clear hb
      by_cases hlt : i < ne
      · have hd : decide ((i : Int) < (ne : Int)) = true := by simp; omega
        obtain ⟨p, hp⟩ : ∃ p, all[i]? = some p := ⟨_, List.getElem?_eq_getElem (by rw [← HNE.out]; exact hlt)⟩
        have HT := Lib.hid (checkV_snoc b (dlOf b car) L all i p hp)
        obtain ⟨A, hq, hA, r0, r1⟩ := (HE.out.next HB.out).reg hp
        subst hq
        have HFP : Hid (∀ W : World, Below w0.heap.size w0 W → Calls Try.prog 33 #[cvB b q cap, .int .i64 car, .slice qm N capm, .int .i64 p.1, .int .i64 p.2] W fun e w' => e = .returned (.tuple #[.int .i64 (followV b (dlOf b car) p.1 p.2 0 (-1) L).1, .int .i64 (followV b (dlOf b car) p.1 p.2 0 (-1) L).2]) ∧ Below W.heap.size W w') := Lib.hid fun W hW => HFO.out W p.1 p.2 hW
        have hfr := followV_range b (dlOf b car) p.1 p.2 L 0 (-1) (Int.le_refl _) (by omega)
        generalize followV b (dlOf b car) p.1 p.2 0 (-1) L = R at *
        generalize checkV b (dlOf b car) L (all.take i) = a at *
        obtain ⟨hfr1, hfr2, hfr3, hfr4⟩ := hfr
        have hiw : (0 : Int) ≤ (i : Int) := by omega
        have hiw' : (i : Int) < (ne : Int) := by omega
        clear hp hfr2 hfr4
        go_upto_region 8 with fail
        clear hd
        have t0 := ((HX0.out.next HW.out)).reg 0 _ rfl
        have t1 := ((HX0.out.next HW.out)).reg 1 _ rfl
        have t2 := ((HX0.out.next HW.out)).reg 2 _ rfl
        have t3 := ((HX0.out.next HW.out)).reg 3 _ rfl
        have t4 := ((HX0.out.next HW.out)).reg 4 _ rfl
        have t5 := ((HX0.out.next HW.out)).reg 5 _ rfl
        have t6 := ((HX0.out.next HW.out)).reg 6 _ rfl
        have t7 := ((HX0.out.next HW.out)).reg 7 _ rfl
        (refine Grow.wp_region Grow.noPlan Grow.noPlan_stable (by kernel_rfl) (by kernel_rfl) ?_; intro opsq Hopsq)
        repeat (first | (refine Grow.lex_move rfl ?_ rfl ?_; (· first | exact Grow.wanted_none | (rw [Hopsq.out]; rfl)); intro K hK; simp only [Grow.put_lit, Grow.setAt, Grow.eval_lit, Grow.ev]; refine hK _ _ ?_; clear hK K) | (refine Grow.lex_assign rfl ?_ rfl ?_; (· first | exact Grow.wanted_none | (rw [Hopsq.out]; rfl)); intro K hK; simp only [Grow.put_lit, Grow.setAt, Grow.eval_lit, Grow.ev]; refine hK _ _ ?_; clear hK K) | (refine Grow.lex_plain rfl rfl ?_ rfl ?_; (· first | exact Grow.wanted_none | (rw [Hopsq.out]; rfl)); apply Exists.intro; refine ⟨fun wq hCq _ => ?_, ?_⟩; (· (go_wp2_with fail; refine ⟨rfl, Below.refl _ _, ?_⟩; simp only [Grow.getD_lit, Grow.nth]; rfl)); intro K hK; simp only [Grow.put_lit, Grow.setAt]; refine hK _ _ ?_; clear hK K) | (refine Grow.lex_nilCheck rfl rfl ?_ rfl ?_; (· first | exact Grow.wanted_none | (rw [Hopsq.out]; rfl)); intro K hK; simp only [Grow.put_lit, Grow.setAt]; refine hK _ _ ?_; clear hK K) | (refine Grow.lex_skip ?_ ?_; (· (rw [Hopsq.out]; rfl)); intro K hK; simp only [Grow.put_lit, Grow.setAt]; refine hK _ _ ?_; clear hK K))
        (refine Grow.lex_call ?_ rfl ?_; (· first | exact Grow.wanted_none | (rw [Hopsq.out]; rfl)); apply Exists.intro; apply Exists.intro; refine ⟨fun wq => ?_, ?_⟩; (· (go_simp; exact ⟨rfl, rfl⟩)); apply Exists.intro; refine ⟨fun wq hCq hKq => ?_, ?_⟩; (· exact HFP.out _ (HW.out.trans ((Grow.Cl.base hCq).mono HW.out.size))); intro K hK; simp only [Grow.put_lit, Grow.setAt]; refine hK _ _ ?_; clear hK K)
        repeat (first | (refine Grow.lex_move rfl ?_ rfl ?_; (· first | exact Grow.wanted_none | (rw [Hopsq.out]; rfl)); intro K hK; simp only [Grow.put_lit, Grow.setAt, Grow.eval_lit, Grow.ev]; refine hK _ _ ?_; clear hK K) | (refine Grow.lex_assign rfl ?_ rfl ?_; (· first | exact Grow.wanted_none | (rw [Hopsq.out]; rfl)); intro K hK; simp only [Grow.put_lit, Grow.setAt, Grow.eval_lit, Grow.ev]; refine hK _ _ ?_; clear hK K) | (refine Grow.lex_plain rfl rfl ?_ rfl ?_; (· first | exact Grow.wanted_none | (rw [Hopsq.out]; rfl)); apply Exists.intro; refine ⟨fun wq hCq _ => ?_, ?_⟩; (· (go_wp2_with fail; refine ⟨rfl, Below.refl _ _, ?_⟩; simp only [Grow.getD_lit, Grow.nth]; rfl)); intro K hK; simp only [Grow.put_lit, Grow.setAt]; refine hK _ _ ?_; clear hK K) | (refine Grow.lex_nilCheck rfl rfl ?_ rfl ?_; (· first | exact Grow.wanted_none | (rw [Hopsq.out]; rfl)); intro K hK; simp only [Grow.put_lit, Grow.setAt]; refine hK _ _ ?_; clear hK K) | (refine Grow.lex_skip ?_ ?_; (· (rw [Hopsq.out]; rfl)); intro K hK; simp only [Grow.put_lit, Grow.setAt]; refine hK _ _ ?_; clear hK K))
        (refine Grow.lex_nil ?_; intro w4 hb4 _; replace hb4 := Grow.Cl.base hb4; clear Hopsq opsq)
        have HB4 := Lib.hid (HB.out.trans (hb4.mono HB.out.size))
        have HFA : Hid (firstI a R.1 = if 0 ≤ R.1 ∧ (a < 0 ∨ R.1 < a) then R.1 else a) := Lib.hid rfl
        clear hb4 HB HW t0 t1 t2 t3 t4 t5 t6 t7 r0 r1 hA HFP
        go_wp2_with fail
        all_goals
          refine ⟨⟨i + 1, by omega, by go_num, ?_, HB4.out⟩, by simp [intOf]; omega⟩
          rw [HT.out, HFA.out]
          first
            | rw [if_pos (by omega)]
            | rw [if_neg (by omega)]
      · obtain rfl : i = ne := by omega
        have hd : decide ((i : Int) < (i : Int)) = false := by simp
        have ht : all.take i = all := by rw [HNE.out, List.take_length]
        rw [ht]
        go_wp2_with fail
        go_ret
        exact ⟨by rw [HRN.out]; rfl, HWW.out.trans (HW.out.mono HWW.out.size)⟩
set_option maxHeartbeats 1000000 in
theorem refKeeps_any (b : BldV) (q : Option Addr) (cap : Nat) (car : Int) (L : List MarkV) (qm : Option Addr) (capm : Nat) (w : World) (hlen : b.cars.length ≤ 1000) (hsl : ∀ c ∈ b.cars, -9223372036854775808 ≤ c.sl ∧ c.sl < 9223372036854775807) (hr : RdC w q b.cars) (hm : L.length ≤ maxLen) (hmr : RdM w qm L) :
    Calls Try.prog 15 #[cvB b q cap, .int .i64 car, .slice qm L.length capm] w fun e w' => e = .returned (.bool (properB b car L.length && decide (refCheckB b car L < 0))) ∧ Below w.heap.size w w' := by
  have X0 : Blk (w.alloc (.cells #[.int .i64 b.fl, .int .i64 b.deb, .int .i64 b.room, .int .i64 b.park, .float .f64 b.em, .float .f64 b.fu, .float .f64 b.ov, .slice q b.cars.length cap] 29)) w.heap.size [.int .i64 b.fl, .int .i64 b.deb, .int .i64 b.room, .int .i64 b.park, .float .f64 b.em, .float .f64 b.fu, .float .f64 b.ov, .slice q b.cars.length cap] := by
    have hx := Blk.new w [.int .i64 b.fl, .int .i64 b.deb, .int .i64 b.room, .int .i64 b.park, .float .f64 b.em, .float .f64 b.fu, .float .f64 b.ov, .slice q b.cars.length cap] 29
    exact hx
  have XW : Below w.heap.size w (w.alloc (.cells #[.int .i64 b.fl, .int .i64 b.deb, .int .i64 b.room, .int .i64 b.park, .float .f64 b.em, .float .f64 b.fu, .float .f64 b.ov, .slice q b.cars.length cap] 29)) := below1' w _
  have HWW := Lib.hid XW; have HX0 := Lib.hid X0
  clear XW X0
  have HR := Lib.hid (hr.next HWW.out); have HM := Lib.hid (hmr.next HWW.out); have HL1 := Lib.hid hlen; have HL2 := Lib.hid hm; have HSL := Lib.hid hsl
  clear hr hmr hsl
  go_enter Try.func15, Try.ntmps15
  go_upto_region 1 with fail
  generalize (w.alloc (.cells #[.int .i64 b.fl, .int .i64 b.deb, .int .i64 b.room, .int .i64 b.park, .float .f64 b.em, .float .f64 b.fu, .float .f64 b.ov, .slice q b.cars.length cap] 29)) = w0 at *
  have HW := Lib.hid (Below.refl w0.heap.size w0)
  have hz0 := HX0.out.lt
  have k0 := (HX0.out).cell 0 _ rfl
  have k1 := (HX0.out).cell 1 _ rfl
  have k2 := (HX0.out).cell 2 _ rfl
  have k3 := (HX0.out).cell 3 _ rfl
  have k4 := (HX0.out).cell 4 _ rfl
  have k5 := (HX0.out).cell 5 _ rfl
  have k6 := (HX0.out).cell 6 _ rfl
  have k7 := (HX0.out).cell 7 _ rfl
  have c0 := base_cell HW.out
  go_wp2_with fail
  refine (known_any b q cap car qm L.length capm _ HL1.out HSL.out HR.out HL2.out).mono ?_
  rintro e w1 ⟨rfl, hbn⟩
  have HWn := Lib.hid (HW.out.trans (hbn.mono HW.out.size))
  try clear c0
  clear HW hbn
  have HW := HWn
  clear HWn
  have c0 := base_cell HW.out
  cases hp : properB b car L.length
  · have HP := Lib.hid hp
    clear hp
    go_wp2_with fail
    go_ret
    exact ⟨by rw [HP.out]; rfl, HWW.out.trans (HW.out.mono HWW.out.size)⟩
  · have HP := Lib.hid hp
    clear hp
    go_wp2_with fail
    refine (refCheck_any b q cap car L qm capm _ HL1.out HSL.out (HR.out.next HW.out) HL2.out (HM.out.next HW.out)).mono ?_
    rintro e w2 ⟨rfl, hbn⟩
    have HWn := Lib.hid (HW.out.trans (hbn.mono HW.out.size))
    try clear c0
    clear HW hbn
    have HW := HWn
    clear HWn
    have c0 := base_cell HW.out
    go_wp2_with fail
    go_ret
    exact ⟨by rw [HP.out]; rfl, HWW.out.trans (HW.out.mono HWW.out.size)⟩
set_option maxHeartbeats 800000 in
set_option maxRecDepth 100000 in
theorem refDuties_any (b : BldV) (q : Option Addr) (cap : Nat) (car : Int) (L : List MarkV) (qm : Option Addr) (capm : Nat) (w : World) (hlen : b.cars.length ≤ 1000) (hsl : ∀ c ∈ b.cars, -9223372036854775808 ≤ c.sl ∧ c.sl < 9223372036854775807) (hr : RdC w q b.cars) (hm : L.length ≤ maxLen) (hmr : RdM w qm L) :
    Calls Try.prog 18 #[cvB b q cap, .int .i64 car, .slice qm L.length capm] w fun e w' => ∃ v, e = .returned v ∧ Below w.heap.size w w' ∧ duR w.heap.size (refDutiesB b car L) v w' := by
  obtain ⟨i0, hi, hy0, hy1, hy2⟩ := info_parts infoD
  have Hi := Lib.hid hi; have Hz0 := Lib.hid hy0; have Hz1 := Lib.hid hy1; have Hz2 := Lib.hid hy2
  clear hi hy0 hy1 hy2
  have X0 : Blk (w.alloc (.cells #[.int .i64 b.fl, .int .i64 b.deb, .int .i64 b.room, .int .i64 b.park, .float .f64 b.em, .float .f64 b.fu, .float .f64 b.ov, .slice q b.cars.length cap] 29)) w.heap.size [.int .i64 b.fl, .int .i64 b.deb, .int .i64 b.room, .int .i64 b.park, .float .f64 b.em, .float .f64 b.fu, .float .f64 b.ov, .slice q b.cars.length cap] := by
    have hx := Blk.new w [.int .i64 b.fl, .int .i64 b.deb, .int .i64 b.room, .int .i64 b.park, .float .f64 b.em, .float .f64 b.fu, .float .f64 b.ov, .slice q b.cars.length cap] 29
    exact hx
  have XW : Below w.heap.size w (w.alloc (.cells #[.int .i64 b.fl, .int .i64 b.deb, .int .i64 b.room, .int .i64 b.park, .float .f64 b.em, .float .f64 b.fu, .float .f64 b.ov, .slice q b.cars.length cap] 29)) := below1' w _
  have HWW := Lib.hid XW; have HX0 := Lib.hid X0
  clear XW X0
  have HR := Lib.hid (hr.next HWW.out); have HM := Lib.hid (hmr.next HWW.out); have HL1 := Lib.hid hlen; have HSL := Lib.hid hsl
  clear hr hmr hsl
  obtain ⟨N, hN⟩ : ∃ N, N = L.length := ⟨_, rfl⟩
  have HN := Lib.hid hN
  have HPB : Hid (refDutiesB b car L = if properB b car N ∧ refCheckB b car L < 0 then duV b (dlOf b car) L (listC (hallC b)) else []) := Lib.hid (by rw [hN]; rfl)
  have HRC := Lib.hid (fun (W : World) (hW : Below w.heap.size w W) (hR : RdC W q b.cars) (hM : RdM W qm L) => refCheck_any b q cap car L qm capm W HL1.out HSL.out hR hm hM)
  rw [← hN] at hm HRC ⊢
  clear hN
  go_enter Try.func18, Try.ntmps18
  go_upto_region 1 with fail
  generalize (w.alloc (.cells #[.int .i64 b.fl, .int .i64 b.deb, .int .i64 b.room, .int .i64 b.park, .float .f64 b.em, .float .f64 b.fu, .float .f64 b.ov, .slice q b.cars.length cap] 29)) = w0 at *
  have HW := Lib.hid (Below.refl w0.heap.size w0)
  have hz0 := HX0.out.lt
  have k0 := (HX0.out).cell 0 _ rfl
  have k1 := (HX0.out).cell 1 _ rfl
  have k2 := (HX0.out).cell 2 _ rfl
  have k3 := (HX0.out).cell 3 _ rfl
  have k4 := (HX0.out).cell 4 _ rfl
  have k5 := (HX0.out).cell 5 _ rfl
  have k6 := (HX0.out).cell 6 _ rfl
  have k7 := (HX0.out).cell 7 _ rfl
  have c0 := base_cell HW.out
  go_wp2_with fail
  refine (known_any b q cap car qm N capm _ HL1.out HSL.out HR.out hm).mono ?_
  rintro e w1 ⟨rfl, hbn⟩
  have HWn := Lib.hid (HW.out.trans (hbn.mono HW.out.size))
  try clear c0
  clear HW hbn
  have HW := HWn
  clear HWn
  have c0 := base_cell HW.out
  cases hp : properB b car N
  · have HP := Lib.hid hp
    clear hp
    go_wp2_with fail
    go_ret
    exact ⟨_, rfl, HWW.out.trans (HW.out.mono HWW.out.size), by rw [HPB.out, HP.out, if_neg (by simp)]; exact ⟨none, 0, rfl, rdD_nil _ _, fun A h => by cases h⟩⟩
  · obtain ⟨hv, hcr, hN5⟩ := properB_car _ _ _ hp
    have HCR := Lib.hid hcr; have HP := Lib.hid hp
    have HFO : Hid (∀ (W : World) (f d : Int), Below w0.heap.size w0 W → Calls Try.prog 33 #[cvB b q cap, .int .i64 car, .slice qm N capm, .int .i64 f, .int .i64 d] W fun e w' => e = .returned (.tuple #[.int .i64 (followV b (dlOf b car) f d 0 (-1) L).1, .int .i64 (followV b (dlOf b car) f d 0 (-1) L).2]) ∧ Below W.heap.size W w') := by
      refine Lib.hid fun W f d hW => ?_
      have h := follow_any b q cap car L qm capm f d W HCR.out (HR.out.next hW) (by rw [← HN.out]; exact hN5) (HM.out.next hW)
      rw [← HN.out] at h
      exact h
    clear hp hv hcr
    go_wp2_with fail
    refine (HRC.out _ (HWW.out.trans (HW.out.mono HWW.out.size)) (HR.out.next HW.out) (HM.out.next HW.out)).mono ?_
    rintro e w2 ⟨rfl, hbn⟩
    have HWn := Lib.hid (HW.out.trans (hbn.mono HW.out.size))
    try clear c0
    clear HW hbn
    have HW := HWn
    clear HWn
    have c0 := base_cell HW.out
    obtain ⟨ck, hck⟩ : ∃ ck, ck = refCheckB b car L := ⟨_, rfl⟩
    have HCK := Lib.hid hck
    rw [← hck] at HPB ⊢
    clear hck HRC
    by_cases hc0 : 0 ≤ ck
    · have HDD : Hid (refDutiesB b car L = []) := Lib.hid (by rw [HPB.out, if_neg (by omega)])
      go_wp2_with fail
      go_ret
      exact ⟨_, rfl, HWW.out.trans (HW.out.mono HWW.out.size), by rw [HDD.out]; exact ⟨none, 0, rfl, rdD_nil _ _, fun A h => by cases h⟩⟩
    have HRN : Hid (refDutiesB b car L = duV b (dlOf b car) L (listC (hallC b))) := Lib.hid (by rw [HPB.out, HP.out, if_pos ⟨rfl, by omega⟩])
    have hc1 : ck < 0 := by omega
    clear hc0 HPB
    go_wp2_with fail
    refine (refHall_any b q cap _ HL1.out HSL.out (HR.out.next HW.out)).mono ?_
    rintro e w3 ⟨rfl, hbn⟩
    have HWn := Lib.hid (HW.out.trans (hbn.mono HW.out.size))
    try clear c0
    clear HW hbn
    have HW := HWn
    clear HWn
    have c0 := base_cell HW.out
    go_wp2_with fail
    refine (refList_any (hallC b) _).mono ?_
    rintro e w4 ⟨v, rfl, hown, hb3⟩
    obtain ⟨qe, cape, rfl⟩ := row_form hown
    have HE := Lib.hid (rdE_of_owns hown rfl)
    have HWn := Lib.hid (HW.out.trans (hb3.mono HW.out.size))
    clear HW hb3 c0 hown k0 k1 k2 k3 k4 k5 k6 k7
    have hne64 := listC_len (hallC b)
    generalize hall : listC (hallC b) = all at *
    clear hall
    obtain ⟨ne, hne⟩ : ∃ ne, ne = all.length := ⟨_, rfl⟩
    have HNE := Lib.hid hne
    rw [← hne] at hne64 ⊢
    clear hne
    have hG0 : w0.heap.size ≤ w4.heap.size := HWn.out.size
    go_wp2_with fail
    go_loopw [7, 9] (fun v7 v9 wr => ∃ i : Nat, i ≤ ne ∧ v9 = .int .i64 i ∧ wr.ownsRow w4.heap.size 71 3 v7 (duV b (dlOf b car) L (all.take i)).length (dutyCells (duV b (dlOf b car) L (all.take i))) ∧ Below w4.heap.size w4 wr) (fun _ v _ => ne - (intOf v).toNat)
    case atStart => exact ⟨0, by omega, rfl, World.ownsRow_nil _ _ _ _, Below.refl _ _⟩
    case round =>
      obtain ⟨i, hi, rfl, hown, hb⟩ := hrel
      have HB := Lib.hid hb; have HO := Lib.hid hown
      have HW := Lib.hid (HWn.out.trans (hb.mono HWn.out.size))
      clear hb hown
      by_cases hlt : i < ne
      · have hd : decide ((i : Int) < (ne : Int)) = true := by simp; omega
        obtain ⟨p, hp⟩ : ∃ p, all[i]? = some p := ⟨_, List.getElem?_eq_getElem (by rw [← HNE.out]; exact hlt)⟩
        have hal : (duV b (dlOf b car) L (all.take i)).length ≤ 64 := by
          have h1 := duV_len b (dlOf b car) L (all.take i)
          have h2 : (all.take i).length ≤ i := List.length_take_le _ _
          omega
        have HT := Lib.hid (duV_snoc b (dlOf b car) L all i p hp)
        obtain ⟨A, hq, hA, r0, r1⟩ := (HE.out.next HB.out).reg hp
        subst hq
        have HFP : Hid (∀ W : World, Below w0.heap.size w0 W → Calls Try.prog 33 #[cvB b q cap, .int .i64 car, .slice qm N capm, .int .i64 p.1, .int .i64 p.2] W fun e w' => e = .returned (.tuple #[.int .i64 (followV b (dlOf b car) p.1 p.2 0 (-1) L).1, .int .i64 (followV b (dlOf b car) p.1 p.2 0 (-1) L).2]) ∧ Below W.heap.size W w') := Lib.hid fun W hW => HFO.out W p.1 p.2 hW
        have hfr := followV_range b (dlOf b car) p.1 p.2 L 0 (-1) (Int.le_refl _) (by omega)
        have HIT : Hid (itemF b (dlOf b car) L p = if 0 ≤ (followV b (dlOf b car) p.1 p.2 0 (-1) L).2 then [(p.1, p.2, (N : Int) - 1 - (followV b (dlOf b car) p.1 p.2 0 (-1) L).2)] else []) := Lib.hid (by rw [HN.out]; rfl)
        rw [← HN.out, Nat.zero_add] at hfr
        generalize followV b (dlOf b car) p.1 p.2 0 (-1) L = R at *
        generalize duV b (dlOf b car) L (all.take i) = la at *
        obtain ⟨hfr1, hfr2, hfr3, hfr4⟩ := hfr
        have HPE := Lib.hid hp
        have hiw : (0 : Int) ≤ (i : Int) := by omega
        have hiw' : (i : Int) < (ne : Int) := by omega
        clear hp
        go_upto_region 8 with fail
        clear hd
        have t0 := ((HX0.out.next HW.out)).reg 0 _ rfl
        have t1 := ((HX0.out.next HW.out)).reg 1 _ rfl
        have t2 := ((HX0.out.next HW.out)).reg 2 _ rfl
        have t3 := ((HX0.out.next HW.out)).reg 3 _ rfl
        have t4 := ((HX0.out.next HW.out)).reg 4 _ rfl
        have t5 := ((HX0.out.next HW.out)).reg 5 _ rfl
        have t6 := ((HX0.out.next HW.out)).reg 6 _ rfl
        have t7 := ((HX0.out.next HW.out)).reg 7 _ rfl
        (refine Grow.wp_region Grow.noPlan Grow.noPlan_stable (by kernel_rfl) (by kernel_rfl) ?_; intro opsq Hopsq)
        repeat (first | (refine Grow.lex_move rfl ?_ rfl ?_; (· first | exact Grow.wanted_none | (rw [Hopsq.out]; rfl)); intro K hK; simp only [Grow.put_lit, Grow.setAt, Grow.eval_lit, Grow.ev]; refine hK _ _ ?_; clear hK K) | (refine Grow.lex_assign rfl ?_ rfl ?_; (· first | exact Grow.wanted_none | (rw [Hopsq.out]; rfl)); intro K hK; simp only [Grow.put_lit, Grow.setAt, Grow.eval_lit, Grow.ev]; refine hK _ _ ?_; clear hK K) | (refine Grow.lex_plain rfl rfl ?_ rfl ?_; (· first | exact Grow.wanted_none | (rw [Hopsq.out]; rfl)); apply Exists.intro; refine ⟨fun wq hCq _ => ?_, ?_⟩; (· (go_wp2_with fail; refine ⟨rfl, Below.refl _ _, ?_⟩; simp only [Grow.getD_lit, Grow.nth]; rfl)); intro K hK; simp only [Grow.put_lit, Grow.setAt]; refine hK _ _ ?_; clear hK K) | (refine Grow.lex_nilCheck rfl rfl ?_ rfl ?_; (· first | exact Grow.wanted_none | (rw [Hopsq.out]; rfl)); intro K hK; simp only [Grow.put_lit, Grow.setAt]; refine hK _ _ ?_; clear hK K) | (refine Grow.lex_skip ?_ ?_; (· (rw [Hopsq.out]; rfl)); intro K hK; simp only [Grow.put_lit, Grow.setAt]; refine hK _ _ ?_; clear hK K))
        (refine Grow.lex_call ?_ rfl ?_; (· first | exact Grow.wanted_none | (rw [Hopsq.out]; rfl)); apply Exists.intro; apply Exists.intro; refine ⟨fun wq => ?_, ?_⟩; (· (go_simp; exact ⟨rfl, rfl⟩)); apply Exists.intro; refine ⟨fun wq hCq hKq => ?_, ?_⟩; (· exact HFP.out _ (HW.out.trans ((Grow.Cl.base hCq).mono HW.out.size))); intro K hK; simp only [Grow.put_lit, Grow.setAt]; refine hK _ _ ?_; clear hK K)
        repeat (first | (refine Grow.lex_move rfl ?_ rfl ?_; (· first | exact Grow.wanted_none | (rw [Hopsq.out]; rfl)); intro K hK; simp only [Grow.put_lit, Grow.setAt, Grow.eval_lit, Grow.ev]; refine hK _ _ ?_; clear hK K) | (refine Grow.lex_assign rfl ?_ rfl ?_; (· first | exact Grow.wanted_none | (rw [Hopsq.out]; rfl)); intro K hK; simp only [Grow.put_lit, Grow.setAt, Grow.eval_lit, Grow.ev]; refine hK _ _ ?_; clear hK K) | (refine Grow.lex_plain rfl rfl ?_ rfl ?_; (· first | exact Grow.wanted_none | (rw [Hopsq.out]; rfl)); apply Exists.intro; refine ⟨fun wq hCq _ => ?_, ?_⟩; (· (go_wp2_with fail; refine ⟨rfl, Below.refl _ _, ?_⟩; simp only [Grow.getD_lit, Grow.nth]; rfl)); intro K hK; simp only [Grow.put_lit, Grow.setAt]; refine hK _ _ ?_; clear hK K) | (refine Grow.lex_nilCheck rfl rfl ?_ rfl ?_; (· first | exact Grow.wanted_none | (rw [Hopsq.out]; rfl)); intro K hK; simp only [Grow.put_lit, Grow.setAt]; refine hK _ _ ?_; clear hK K) | (refine Grow.lex_skip ?_ ?_; (· (rw [Hopsq.out]; rfl)); intro K hK; simp only [Grow.put_lit, Grow.setAt]; refine hK _ _ ?_; clear hK K))
        (refine Grow.lex_nil ?_; intro w5 hb5 _; replace hb5 := Grow.Cl.base hb5; clear Hopsq opsq)
        have HB5 := Lib.hid (HB.out.trans (hb5.mono HB.out.size)); have HO5 := Lib.hid (rowLater HO.out hb5)
        clear hb5 HB HW HO t0 t1 t2 t3 t4 t5 t6 t7 r0 r1 HFP hA
        by_cases hg : 0 ≤ R.2
        · have HI2 : Hid (itemF b (dlOf b car) L p = [(p.1, p.2, (N : Int) - 1 - R.2)]) := Lib.hid (by rw [HIT.out, if_pos hg])
          obtain ⟨A', hq', hA', r0, r1⟩ := (HE.out.next HB5.out).reg HPE.out
          obtain rfl : A = A' := by simpa using hq'
          clear hq' hA'
          go_upto_region 10 with fail
          have hlo : w4.heap.size ≤ w5.drew.heap.size := HB5.out.size
          refine Grow.wp_region_tail 18 (mkPlan 17 newS w4.heap.size (Duty.cells (p.1, p.2, (N : Int) - 1 - R.2))) (mkPlan_stable _ _ _ _) (by kernel_rfl) (by kernel_rfl) ?_
          intro opsq Hopsq
          simp only [List.take_succ_cons, List.take_zero, List.drop_succ_cons, List.drop_zero]
          repeat (first | (refine Grow.lex_move rfl ?_ rfl ?_; (· first | exact Grow.wanted_none | (rw [Hopsq.out]; rfl)); intro K hK; simp only [Grow.put_lit, Grow.setAt, Grow.eval_lit, Grow.ev]; refine hK _ _ ?_; clear hK K) | (refine Grow.lex_assign rfl ?_ rfl ?_; (· first | exact Grow.wanted_none | (rw [Hopsq.out]; rfl)); intro K hK; simp only [Grow.put_lit, Grow.setAt, Grow.eval_lit, Grow.ev]; refine hK _ _ ?_; clear hK K) | (refine Grow.lex_plain rfl rfl ?_ rfl ?_; (· first | exact Grow.wanted_none | (rw [Hopsq.out]; rfl)); apply Exists.intro; refine ⟨fun wq hCq _ => ?_, ?_⟩; (· (go_wp2_with fail; refine ⟨rfl, Below.refl _ _, ?_⟩; simp only [Grow.getD_lit, Grow.nth]; rfl)); intro K hK; simp only [Grow.put_lit, Grow.setAt]; refine hK _ _ ?_; clear hK K) | (refine Grow.lex_nilCheck rfl rfl ?_ rfl ?_; (· first | exact Grow.wanted_none | (rw [Hopsq.out]; rfl)); intro K hK; simp only [Grow.put_lit, Grow.setAt]; refine hK _ _ ?_; clear hK K) | (refine Grow.lex_skip ?_ ?_; (· (rw [Hopsq.out]; rfl)); intro K hK; simp only [Grow.put_lit, Grow.setAt]; refine hK _ _ ?_; clear hK K))
          refine lex_mk 17 newS w4.heap.size (Duty.cells (p.1, p.2, (N : Int) - 1 - R.2)) 71 ?_ (fun wq => ?_) hlo ?_
          · first | exact Grow.wanted_none | (rw [Hopsq.out]; rfl)
          · go_simp
            first | rfl | exact ⟨rfl, rfl⟩
          intro gs hgs
          simp only [Grow.put_lit, Grow.setAt]
          refine Grow.lex_nil ?_
          intro w6 hb6 hTq
          have BG := mk_blk newS_inj hTq
          replace hb6 := Grow.Cl.base hb6
          have HNW := Lib.hid (blk_news BG)
          have HO6 := Lib.hid (rowLater HO5.out hb6); have HB6 := Lib.hid (HB5.out.trans (hb6.mono HB5.out.size))
          have hs6 : w4.heap.size ≤ w6.heap.size := HB6.out.size
          clear hTq Hopsq opsq BG hb6 r0 r1 hlo HO5 HB5
          simp only [newS]
          go_wp2_with ((at_builtin; refine wpList_append_own _ rfl _ _ 36 rfl w4.heap.size 71 i0 (.agg #[.int .i64 0, .int .i64 0, .int .i64 0]) 3 24 Try.underlying36 Hi.out Hz0.out Hz1.out Hz2.out rfl (by decide) _ _ _ rfl HO6.out ⟨gs, 0, none⟩ 1 1 (Duty.cells (p.1, p.2, (N : Int) - 1 - R.2)) rfl rfl HNW.out (duty_one _) (by unfold maxLen; omega) (by omega) hs6 ?_))
          intro v' w9 hown2 hgr _
          have hb3 : Below w4.heap.size w4 w9 := HB6.out.grown hgr hs6 (fun q hq => (HO6.out.lt q hq).1)
          have hown3 : w9.ownsRow w4.heap.size 71 3 v' (la ++ [(p.1, p.2, (N : Int) - 1 - R.2)]).length (dutyCells (la ++ [(p.1, p.2, (N : Int) - 1 - R.2)])) := by
            rw [dutyCells_snoc, List.length_append]; exact hown2
          clear hown2 hgr
          go_wp2_with fail
          exact ⟨⟨i + 1, by omega, by go_num, by rw [HT.out, HI2.out]; exact hown3, hb3⟩, by simp [intOf]; omega⟩
        · have HI2 : Hid (itemF b (dlOf b car) L p = []) := Lib.hid (by rw [HIT.out, if_neg hg])
          go_wp2_with fail
          exact ⟨⟨i + 1, by omega, by go_num, by rw [HT.out, HI2.out, List.append_nil]; exact HO5.out, HB5.out⟩, by simp [intOf]; omega⟩
      · obtain rfl : i = ne := by omega
        have hd : decide ((i : Int) < (i : Int)) = false := by simp
        have ht : all.take i = all := by rw [HNE.out, List.take_length]
        rw [ht] at HO
        clear ht
        obtain ⟨q9, cap9, rfl⟩ := row_form HO.out
        go_wp2_with fail
        go_ret
        refine ⟨_, rfl, HWW.out.trans (HW.out.mono HWW.out.size), ?_⟩
        rw [HRN.out]
        exact ⟨q9, cap9, rfl, rdD_of_owns HO.out rfl, fun A hA => by have := row_lo HO.out A hA; omega⟩
end Go.Proofs.Ytfmmiafdlfdfoaa
