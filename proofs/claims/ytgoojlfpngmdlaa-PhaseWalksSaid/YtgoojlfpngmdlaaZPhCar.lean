/- The walks over isCar, Ready, Serving and their references, and over the makers of records. Conditions: an image that can be read. -/
import Derived.Test.YtgoojlfpngmdlaaZPhLow
import Derived.Test.YtgoojlfpngmdlaaZRec
namespace Go.Proofs.Ytgoojlfpngmdlaa
open Go.RowKit
def carB (m : ImgV) (c : Int) : Bool := decide (0 ≤ c) && decide (c < (m.ph.length : Int)) && decide (c < (m.fg.length : Int)) && decide (c < (m.lv.length : Int))
set_option maxHeartbeats 1000000 in
theorem isCar_any (m : ImgV) (a : ImgA) (c : Int) (w : World) :
    Calls Try.prog 41 #[cvM m a, .int .i64 c] w fun r w' => r = .returned (.bool (carB m c)) ∧ Below w.heap.size w w' := by
  have X0 : Blk (w.alloc (.cells #[.slice a.p m.ph.length a.pc, .slice a.f m.fg.length a.fc, .slice a.l m.lv.length a.lc, .slice a.e m.en.length a.ec] 35)) w.heap.size [.slice a.p m.ph.length a.pc, .slice a.f m.fg.length a.fc, .slice a.l m.lv.length a.lc, .slice a.e m.en.length a.ec] := by
    have hx := Blk.new w [.slice a.p m.ph.length a.pc, .slice a.f m.fg.length a.fc, .slice a.l m.lv.length a.lc, .slice a.e m.en.length a.ec] 35
    exact hx
  have XW : Below w.heap.size w (w.alloc (.cells #[.slice a.p m.ph.length a.pc, .slice a.f m.fg.length a.fc, .slice a.l m.lv.length a.lc, .slice a.e m.en.length a.ec] 35)) := below1' w _
  have HWW := Lib.hid XW; have HX0 := Lib.hid X0
  clear XW X0
  obtain ⟨r, hr⟩ : ∃ r, carB m c = r := ⟨_, rfl⟩
  rw [hr]
  unfold carB at hr
  have HC := Lib.hid hr
  clear hr
  go_enter Try.func41, Try.ntmps41
  go_upto_region 1 with fail
  generalize (w.alloc (.cells #[.slice a.p m.ph.length a.pc, .slice a.f m.fg.length a.fc, .slice a.l m.lv.length a.lc, .slice a.e m.en.length a.ec] 35)) = w0 at *
  have HW := Lib.hid (Below.refl w0.heap.size w0)
  have hz0 := HX0.out.lt
  have y0 := (HX0.out).cell 0 _ rfl
  have y1 := (HX0.out).cell 1 _ rfl
  have y2 := (HX0.out).cell 2 _ rfl
  have y3 := (HX0.out).cell 3 _ rfl
  generalize m.ph.length = n0 at *
  generalize m.fg.length = n1 at *
  generalize m.lv.length = n2 at *
  clear HX0 HW
  by_cases hc : 0 ≤ c
  · by_cases h10 : n1 < n0
    · by_cases h21 : n2 < n1
      all_goals
        go_wp2_with fail
        go_ret
        refine ⟨congrArg (fun b => Ending.returned (.bool b)) ?_, HWW.out⟩
        rw [← HC.out]
        rw [Bool.eq_iff_iff]
        simp only [Bool.and_eq_true, decide_eq_true_eq]
        omega
    · by_cases h20 : n2 < n0
      all_goals
        go_wp2_with fail
        go_ret
        refine ⟨congrArg (fun b => Ending.returned (.bool b)) ?_, HWW.out⟩
        rw [← HC.out]
        rw [Bool.eq_iff_iff]
        simp only [Bool.and_eq_true, decide_eq_true_eq]
        omega
  · go_wp2_with fail
    go_ret
    refine ⟨congrArg (fun b => Ending.returned (.bool b)) ?_, HWW.out⟩
    rw [← HC.out, decide_eq_false (by omega)]
    rfl
set_option maxHeartbeats 1000000 in
theorem refHasCar_any (m : ImgV) (a : ImgA) (c : Int) (w : World) :
    Calls Try.prog 42 #[cvM m a, .int .i64 c] w fun r w' => r = .returned (.bool (carB m c)) ∧ Below w.heap.size w w' := by
  have X0 : Blk (w.alloc (.cells #[.slice a.p m.ph.length a.pc, .slice a.f m.fg.length a.fc, .slice a.l m.lv.length a.lc, .slice a.e m.en.length a.ec] 35)) w.heap.size [.slice a.p m.ph.length a.pc, .slice a.f m.fg.length a.fc, .slice a.l m.lv.length a.lc, .slice a.e m.en.length a.ec] := by
    have hx := Blk.new w [.slice a.p m.ph.length a.pc, .slice a.f m.fg.length a.fc, .slice a.l m.lv.length a.lc, .slice a.e m.en.length a.ec] 35
    exact hx
  have XW : Below w.heap.size w (w.alloc (.cells #[.slice a.p m.ph.length a.pc, .slice a.f m.fg.length a.fc, .slice a.l m.lv.length a.lc, .slice a.e m.en.length a.ec] 35)) := below1' w _
  have HWW := Lib.hid XW; have HX0 := Lib.hid X0
  clear XW X0
  obtain ⟨r, hr⟩ : ∃ r, carB m c = r := ⟨_, rfl⟩
  rw [hr]
  unfold carB at hr
  have HC := Lib.hid hr
  clear hr
  go_enter Try.func42, Try.ntmps42
  go_upto_region 1 with fail
  generalize (w.alloc (.cells #[.slice a.p m.ph.length a.pc, .slice a.f m.fg.length a.fc, .slice a.l m.lv.length a.lc, .slice a.e m.en.length a.ec] 35)) = w0 at *
  have HW := Lib.hid (Below.refl w0.heap.size w0)
  have hz0 := HX0.out.lt
  have y0 := (HX0.out).cell 0 _ rfl
  have y1 := (HX0.out).cell 1 _ rfl
  have y2 := (HX0.out).cell 2 _ rfl
  have y3 := (HX0.out).cell 3 _ rfl
  generalize m.ph.length = n0 at *
  generalize m.fg.length = n1 at *
  generalize m.lv.length = n2 at *
  clear HX0 HW
  by_cases hc : 0 ≤ c
  · by_cases h0 : c < (n0 : Int)
    · by_cases h1 : c < (n1 : Int)
      · go_wp2_with fail
        go_ret
        refine ⟨congrArg (fun b => Ending.returned (.bool b)) ?_, HWW.out⟩
        rw [← HC.out, decide_eq_true hc, decide_eq_true h0, decide_eq_true h1]
        rfl
      · go_wp2_with fail
        go_ret
        refine ⟨congrArg (fun b => Ending.returned (.bool b)) ?_, HWW.out⟩
        rw [← HC.out, decide_eq_true hc, decide_eq_true h0, decide_eq_false (by omega)]
        rfl
    · go_wp2_with fail
      go_ret
      refine ⟨congrArg (fun b => Ending.returned (.bool b)) ?_, HWW.out⟩
      rw [← HC.out, decide_eq_true hc, decide_eq_false (by omega)]
      rfl
  · go_wp2_with fail
    go_ret
    refine ⟨congrArg (fun b => Ending.returned (.bool b)) ?_, HWW.out⟩
    rw [← HC.out, decide_eq_false (by omega)]
    rfl
/-- Whether a car serves, whether it is ready. -/
def servB (m : ImgV) (c : Int) : Bool := carB m c && ((phAt m c.toNat == 0) || (phAt m c.toNat == 1) || (phAt m c.toNat == 4))
def readyB (m : ImgV) (c : Int) : Bool := carB m c && ((phAt m c.toNat == 0) || (phAt m c.toNat == 4)) && !fgAt m c.toNat && !lvAt m c.toNat
theorem carB_at {m : ImgV} {c : Int} (h : carB m c = true) : ∃ i : Nat, c = i ∧ (∃ p, m.ph[i]? = some p) ∧ (∃ f, m.fg[i]? = some f) ∧ ∃ l, m.lv[i]? = some l := by
  simp only [carB, Bool.and_eq_true, decide_eq_true_eq] at h
  refine ⟨c.toNat, by omega, ⟨_, List.getElem?_eq_getElem (by omega)⟩, ⟨_, List.getElem?_eq_getElem (by omega)⟩, _, List.getElem?_eq_getElem (by omega)⟩
set_option maxHeartbeats 2000000 in
set_option maxRecDepth 100000 in
theorem serving_any (m : ImgV) (a : ImgA) (c : Int) (w : World) (hm : RdM w m a) :
    Calls Try.prog 20 #[cvM m a, .int .i64 c] w fun r w' => r = .returned (.bool (servB m c)) ∧ Below w.heap.size w w' := by
  have X0 : Blk (w.alloc (.cells #[.slice a.p m.ph.length a.pc, .slice a.f m.fg.length a.fc, .slice a.l m.lv.length a.lc, .slice a.e m.en.length a.ec] 35)) w.heap.size [.slice a.p m.ph.length a.pc, .slice a.f m.fg.length a.fc, .slice a.l m.lv.length a.lc, .slice a.e m.en.length a.ec] := by
    have hx := Blk.new w [.slice a.p m.ph.length a.pc, .slice a.f m.fg.length a.fc, .slice a.l m.lv.length a.lc, .slice a.e m.en.length a.ec] 35
    exact hx
  have XW : Below w.heap.size w (w.alloc (.cells #[.slice a.p m.ph.length a.pc, .slice a.f m.fg.length a.fc, .slice a.l m.lv.length a.lc, .slice a.e m.en.length a.ec] 35)) := below1' w _
  have HWW := Lib.hid XW; have HX0 := Lib.hid X0
  clear XW X0
  have HM := Lib.hid (hm.next HWW.out)
  clear hm
  obtain ⟨r, hr⟩ : ∃ r, servB m c = r := ⟨_, rfl⟩
  rw [hr]
  unfold servB at hr
  have HR := Lib.hid hr
  clear hr
  go_enter Try.func20, Try.ntmps20
  go_upto_region 1 with fail
  generalize (w.alloc (.cells #[.slice a.p m.ph.length a.pc, .slice a.f m.fg.length a.fc, .slice a.l m.lv.length a.lc, .slice a.e m.en.length a.ec] 35)) = w0 at *
  have HW := Lib.hid (Below.refl w0.heap.size w0)
  have hz0 := HX0.out.lt
  have y0 := (HX0.out).cell 0 _ rfl
  have y1 := (HX0.out).cell 1 _ rfl
  have y2 := (HX0.out).cell 2 _ rfl
  have y3 := (HX0.out).cell 3 _ rfl
  go_wp2_with fail
  refine (isCar_any m a c w0).mono ?_
  rintro e w1 ⟨rfl, hb1⟩
  have HW1 := Lib.hid (HWW.out.trans (hb1.mono HWW.out.size))
  have HX1 := Lib.hid (HX0.out.next hb1); have HM1 := Lib.hid (HM.out.next hb1)
  clear hb1 HW HWW HM HX0 y0 y1 y2 y3
  have y0 := (HX1.out).cell 0 _ rfl
  have y1 := (HX1.out).cell 1 _ rfl
  have y2 := (HX1.out).cell 2 _ rfl
  have y3 := (HX1.out).cell 3 _ rfl
  cases hc : carB m c
  · rw [hc] at HR
    clear hc
    go_wp2_with fail
    go_ret
    exact ⟨congrArg (fun b => Ending.returned (.bool b)) HR.out, HW1.out⟩
  · obtain ⟨i, rfl, ⟨p, hp⟩, _, _⟩ := carB_at hc
    rw [hc, Int.toNat_natCast, phAt_of hp] at HR
    obtain ⟨A, hqA, _, cA⟩ := HM1.out.1.it hp
    rw [hqA] at y0
    have hi0 : (0 : Int) ≤ (i : Int) := by omega
    have hin : (i : Int) < (m.ph.length : Int) := by have := (List.getElem?_eq_some_iff.1 hp).1; omega
    generalize m.ph.length = n0 at *
    clear hc hp hqA
    by_cases e0 : p = 0
    · subst e0
      go_wp2_with fail
      go_ret
      exact ⟨congrArg (fun b => Ending.returned (.bool b)) HR.out, HW1.out⟩
    · by_cases e1 : p = 1
      · subst e1
        go_wp2_with fail
        go_ret
        exact ⟨congrArg (fun b => Ending.returned (.bool b)) HR.out, HW1.out⟩
      · have HF : Hid ((p == 4) = r) := Lib.hid (by rw [← HR.out]; simp [e0, e1])
        go_wp2_with fail
        go_ret
        refine ⟨congrArg (fun b => Ending.returned (.bool b)) ?_, HW1.out⟩
        first | exact HF.out | (rw [← HF.out]; simp [e0, e1])
set_option maxHeartbeats 2000000 in
set_option maxRecDepth 100000 in
theorem refServing_any (m : ImgV) (a : ImgA) (c : Int) (w : World) (hm : RdM w m a) :
    Calls Try.prog 21 #[cvM m a, .int .i64 c] w fun r w' => r = .returned (.bool (servB m c)) ∧ Below w.heap.size w w' := by
  have X0 : Blk (w.alloc (.cells #[.slice a.p m.ph.length a.pc, .slice a.f m.fg.length a.fc, .slice a.l m.lv.length a.lc, .slice a.e m.en.length a.ec] 35)) w.heap.size [.slice a.p m.ph.length a.pc, .slice a.f m.fg.length a.fc, .slice a.l m.lv.length a.lc, .slice a.e m.en.length a.ec] := by
    have hx := Blk.new w [.slice a.p m.ph.length a.pc, .slice a.f m.fg.length a.fc, .slice a.l m.lv.length a.lc, .slice a.e m.en.length a.ec] 35
    exact hx
  have XW : Below w.heap.size w (w.alloc (.cells #[.slice a.p m.ph.length a.pc, .slice a.f m.fg.length a.fc, .slice a.l m.lv.length a.lc, .slice a.e m.en.length a.ec] 35)) := below1' w _
  have HWW := Lib.hid XW; have HX0 := Lib.hid X0
  clear XW X0
  have HM := Lib.hid (hm.next HWW.out)
  clear hm
  obtain ⟨r, hr⟩ : ∃ r, servB m c = r := ⟨_, rfl⟩
  rw [hr]
  unfold servB at hr
  have HR := Lib.hid hr
  clear hr
  go_enter Try.func21, Try.ntmps21
  go_upto_region 1 with fail
  generalize (w.alloc (.cells #[.slice a.p m.ph.length a.pc, .slice a.f m.fg.length a.fc, .slice a.l m.lv.length a.lc, .slice a.e m.en.length a.ec] 35)) = w0 at *
  have HW := Lib.hid (Below.refl w0.heap.size w0)
  have hz0 := HX0.out.lt
  have y0 := (HX0.out).cell 0 _ rfl
  have y1 := (HX0.out).cell 1 _ rfl
  have y2 := (HX0.out).cell 2 _ rfl
  have y3 := (HX0.out).cell 3 _ rfl
  go_wp2_with fail
  refine (refHasCar_any m a c w0).mono ?_
  rintro e w1 ⟨rfl, hb1⟩
  have HW1 := Lib.hid (HWW.out.trans (hb1.mono HWW.out.size))
  have HX1 := Lib.hid (HX0.out.next hb1); have HM1 := Lib.hid (HM.out.next hb1)
  clear hb1 HW HWW HM HX0 y0 y1 y2 y3
  have y0 := (HX1.out).cell 0 _ rfl
  have y1 := (HX1.out).cell 1 _ rfl
  have y2 := (HX1.out).cell 2 _ rfl
  have y3 := (HX1.out).cell 3 _ rfl
  cases hc : carB m c
  · rw [hc] at HR
    clear hc
    go_wp2_with fail
    go_ret
    exact ⟨congrArg (fun b => Ending.returned (.bool b)) HR.out, HW1.out⟩
  · obtain ⟨i, rfl, ⟨p, hp⟩, _, _⟩ := carB_at hc
    rw [hc, Int.toNat_natCast, phAt_of hp] at HR
    obtain ⟨A, hqA, _, cA⟩ := HM1.out.1.it hp
    rw [hqA] at y0
    have hi0 : (0 : Int) ≤ (i : Int) := by omega
    have hin : (i : Int) < (m.ph.length : Int) := by have := (List.getElem?_eq_some_iff.1 hp).1; omega
    generalize m.ph.length = n0 at *
    clear hc hp hqA
    by_cases e0 : p = 0
    · subst e0
      go_wp2_with fail
      go_ret
      exact ⟨congrArg (fun b => Ending.returned (.bool b)) HR.out, HW1.out⟩
    · by_cases e1 : p = 1
      · subst e1
        go_wp2_with fail
        go_ret
        exact ⟨congrArg (fun b => Ending.returned (.bool b)) HR.out, HW1.out⟩
      · have HF : Hid ((p == 4) = r) := Lib.hid (by rw [← HR.out]; simp [e0, e1])
        go_wp2_with fail
        go_ret
        refine ⟨congrArg (fun b => Ending.returned (.bool b)) ?_, HW1.out⟩
        first | exact HF.out | (rw [← HF.out]; simp [e0, e1])
set_option maxHeartbeats 2000000 in
set_option maxRecDepth 100000 in
theorem ready_any (m : ImgV) (a : ImgA) (c : Int) (w : World) (hm : RdM w m a) :
    Calls Try.prog 22 #[cvM m a, .int .i64 c] w fun r w' => r = .returned (.bool (readyB m c)) ∧ Below w.heap.size w w' := by
  have X0 : Blk (w.alloc (.cells #[.slice a.p m.ph.length a.pc, .slice a.f m.fg.length a.fc, .slice a.l m.lv.length a.lc, .slice a.e m.en.length a.ec] 35)) w.heap.size [.slice a.p m.ph.length a.pc, .slice a.f m.fg.length a.fc, .slice a.l m.lv.length a.lc, .slice a.e m.en.length a.ec] := by
    have hx := Blk.new w [.slice a.p m.ph.length a.pc, .slice a.f m.fg.length a.fc, .slice a.l m.lv.length a.lc, .slice a.e m.en.length a.ec] 35
    exact hx
  have XW : Below w.heap.size w (w.alloc (.cells #[.slice a.p m.ph.length a.pc, .slice a.f m.fg.length a.fc, .slice a.l m.lv.length a.lc, .slice a.e m.en.length a.ec] 35)) := below1' w _
  have HWW := Lib.hid XW; have HX0 := Lib.hid X0
  clear XW X0
  have HM := Lib.hid (hm.next HWW.out)
  clear hm
  obtain ⟨r, hr⟩ : ∃ r, readyB m c = r := ⟨_, rfl⟩
  rw [hr]
  unfold readyB at hr
  have HR := Lib.hid hr
  clear hr
  go_enter Try.func22, Try.ntmps22
  go_upto_region 1 with fail
  generalize (w.alloc (.cells #[.slice a.p m.ph.length a.pc, .slice a.f m.fg.length a.fc, .slice a.l m.lv.length a.lc, .slice a.e m.en.length a.ec] 35)) = w0 at *
  have HW := Lib.hid (Below.refl w0.heap.size w0)
  have hz0 := HX0.out.lt
  have y0 := (HX0.out).cell 0 _ rfl
  have y1 := (HX0.out).cell 1 _ rfl
  have y2 := (HX0.out).cell 2 _ rfl
  have y3 := (HX0.out).cell 3 _ rfl
  go_wp2_with fail
  refine (isCar_any m a c w0).mono ?_
  rintro e w1 ⟨rfl, hb1⟩
  have HW1 := Lib.hid (HWW.out.trans (hb1.mono HWW.out.size))
  have HX1 := Lib.hid (HX0.out.next hb1); have HM1 := Lib.hid (HM.out.next hb1)
  clear hb1 HW HWW HM HX0 y0 y1 y2 y3
  have y0 := (HX1.out).cell 0 _ rfl
  have y1 := (HX1.out).cell 1 _ rfl
  have y2 := (HX1.out).cell 2 _ rfl
  have y3 := (HX1.out).cell 3 _ rfl
  cases hc : carB m c
  · rw [hc] at HR
    clear hc
    go_wp2_with fail
    go_ret
    exact ⟨congrArg (fun b => Ending.returned (.bool b)) HR.out, HW1.out⟩
  · obtain ⟨i, rfl, ⟨p, hp⟩, ⟨f, hf⟩, l, hl⟩ := carB_at hc
    rw [hc, Int.toNat_natCast, phAt_of hp, fgAt_of hf, lvAt_of hl] at HR
    obtain ⟨A, hqA, _, cA⟩ := HM1.out.1.it hp
    obtain ⟨B, hqB, _, cB⟩ := HM1.out.2.1.bl hf
    obtain ⟨C, hqC, _, cC⟩ := HM1.out.2.2.1.bl hl
    rw [hqA] at y0
    rw [hqB] at y1
    rw [hqC] at y2
    have hi0 : (0 : Int) ≤ (i : Int) := by omega
    have hin : (i : Int) < (m.ph.length : Int) := by have := (List.getElem?_eq_some_iff.1 hp).1; omega
    have hin1 : (i : Int) < (m.fg.length : Int) := by have := (List.getElem?_eq_some_iff.1 hf).1; omega
    have hin2 : (i : Int) < (m.lv.length : Int) := by have := (List.getElem?_eq_some_iff.1 hl).1; omega
    generalize m.ph.length = n0 at *
    generalize m.fg.length = n1 at *
    generalize m.lv.length = n2 at *
    clear hc hp hqA hqB hqC hf hl
    by_cases e0 : p = 0
    · subst e0
      cases f
      all_goals
        cases l
        all_goals
          go_wp2_with fail
          go_ret
          exact ⟨congrArg (fun b => Ending.returned (.bool b)) HR.out, HW1.out⟩
    · by_cases e4 : p = 4
      · subst e4
        cases f
        all_goals
          cases l
          all_goals
            go_wp2_with fail
            go_ret
            exact ⟨congrArg (fun b => Ending.returned (.bool b)) HR.out, HW1.out⟩
      · have HF : Hid (false = r) := Lib.hid (by rw [← HR.out]; simp [e0, e4])
        go_wp2_with fail
        go_ret
        exact ⟨congrArg (fun b => Ending.returned (.bool b)) HF.out, HW1.out⟩
set_option maxHeartbeats 2000000 in
set_option maxRecDepth 100000 in
theorem refReady_any (m : ImgV) (a : ImgA) (c : Int) (w : World) (hm : RdM w m a) :
    Calls Try.prog 23 #[cvM m a, .int .i64 c] w fun r w' => r = .returned (.bool (readyB m c)) ∧ Below w.heap.size w w' := by
  have X0 : Blk (w.alloc (.cells #[.slice a.p m.ph.length a.pc, .slice a.f m.fg.length a.fc, .slice a.l m.lv.length a.lc, .slice a.e m.en.length a.ec] 35)) w.heap.size [.slice a.p m.ph.length a.pc, .slice a.f m.fg.length a.fc, .slice a.l m.lv.length a.lc, .slice a.e m.en.length a.ec] := by
    have hx := Blk.new w [.slice a.p m.ph.length a.pc, .slice a.f m.fg.length a.fc, .slice a.l m.lv.length a.lc, .slice a.e m.en.length a.ec] 35
    exact hx
  have XW : Below w.heap.size w (w.alloc (.cells #[.slice a.p m.ph.length a.pc, .slice a.f m.fg.length a.fc, .slice a.l m.lv.length a.lc, .slice a.e m.en.length a.ec] 35)) := below1' w _
  have HWW := Lib.hid XW; have HX0 := Lib.hid X0
  clear XW X0
  have HM := Lib.hid (hm.next HWW.out)
  clear hm
  obtain ⟨r, hr⟩ : ∃ r, readyB m c = r := ⟨_, rfl⟩
  rw [hr]
  unfold readyB at hr
  have HR := Lib.hid hr
  clear hr
  go_enter Try.func23, Try.ntmps23
  go_upto_region 1 with fail
  generalize (w.alloc (.cells #[.slice a.p m.ph.length a.pc, .slice a.f m.fg.length a.fc, .slice a.l m.lv.length a.lc, .slice a.e m.en.length a.ec] 35)) = w0 at *
  have HW := Lib.hid (Below.refl w0.heap.size w0)
  have hz0 := HX0.out.lt
  have y0 := (HX0.out).cell 0 _ rfl
  have y1 := (HX0.out).cell 1 _ rfl
  have y2 := (HX0.out).cell 2 _ rfl
  have y3 := (HX0.out).cell 3 _ rfl
  go_wp2_with fail
  refine (refHasCar_any m a c w0).mono ?_
  rintro e w1 ⟨rfl, hb1⟩
  have HW1 := Lib.hid (HWW.out.trans (hb1.mono HWW.out.size))
  have HX1 := Lib.hid (HX0.out.next hb1); have HM1 := Lib.hid (HM.out.next hb1)
  clear hb1 HW HWW HM HX0 y0 y1 y2 y3
  have y0 := (HX1.out).cell 0 _ rfl
  have y1 := (HX1.out).cell 1 _ rfl
  have y2 := (HX1.out).cell 2 _ rfl
  have y3 := (HX1.out).cell 3 _ rfl
  cases hc : carB m c
  · rw [hc] at HR
    clear hc
    go_wp2_with fail
    go_ret
    exact ⟨congrArg (fun b => Ending.returned (.bool b)) HR.out, HW1.out⟩
  · obtain ⟨i, rfl, ⟨p, hp⟩, ⟨f, hf⟩, l, hl⟩ := carB_at hc
    rw [hc, Int.toNat_natCast, phAt_of hp, fgAt_of hf, lvAt_of hl] at HR
    obtain ⟨A, hqA, _, cA⟩ := HM1.out.1.it hp
    obtain ⟨B, hqB, _, cB⟩ := HM1.out.2.1.bl hf
    obtain ⟨C, hqC, _, cC⟩ := HM1.out.2.2.1.bl hl
    rw [hqA] at y0
    rw [hqB] at y1
    rw [hqC] at y2
    have hi0 : (0 : Int) ≤ (i : Int) := by omega
    have hin : (i : Int) < (m.ph.length : Int) := by have := (List.getElem?_eq_some_iff.1 hp).1; omega
    have hin1 : (i : Int) < (m.fg.length : Int) := by have := (List.getElem?_eq_some_iff.1 hf).1; omega
    have hin2 : (i : Int) < (m.lv.length : Int) := by have := (List.getElem?_eq_some_iff.1 hl).1; omega
    generalize m.ph.length = n0 at *
    generalize m.fg.length = n1 at *
    generalize m.lv.length = n2 at *
    clear hc hp hqA hqB hqC hf hl
    by_cases e0 : p = 0
    · subst e0
      cases f
      all_goals
        cases l
        all_goals
          go_wp2_with fail
          go_ret
          exact ⟨congrArg (fun b => Ending.returned (.bool b)) HR.out, HW1.out⟩
    · by_cases e4 : p = 4
      · subst e4
        cases f
        all_goals
          cases l
          all_goals
            go_wp2_with fail
            go_ret
            exact ⟨congrArg (fun b => Ending.returned (.bool b)) HR.out, HW1.out⟩
      · have HF : Hid (false = r) := Lib.hid (by rw [← HR.out]; simp [e0, e4])
        go_wp2_with fail
        go_ret
        exact ⟨congrArg (fun b => Ending.returned (.bool b)) HF.out, HW1.out⟩
end Go.Proofs.Ytgoojlfpngmdlaa
