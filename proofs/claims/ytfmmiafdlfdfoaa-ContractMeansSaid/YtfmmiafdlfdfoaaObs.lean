/- The walks over the observations of the reference: which are observations, and which call they show. Conditions: none. -/
import Derived.Test.YtfmmiafdlfdfoaaState
import Derived.Test.YtfmmiafdlfdfoaaCalls
namespace Go.Proofs.Ytfmmiafdlfdfoaa
open Go.RowKit
/-- An observation: floor, direction, door. -/
abbrev ObsV : Type := Int × Int × Int
def okB (n : Int) : Bool := decide (2 ≤ n) && decide (n ≤ 32)
def obsB (n : Int) (o : ObsV) : Bool := okB n && inR (-1) (n - 1) o.1 && inR 0 3 o.2.1 && inR 0 3 o.2.2
def showsV (n : Int) (o : ObsV) : CS :=
  if obsB n o = true ∧ o.2.2 = 1 ∧ 0 ≤ o.1 then (if o.2.1 = 1 ∧ o.1 < n - 1 then (bit o.1, 0#32) else if o.2.1 = 2 ∧ 0 < o.1 then (0#32, bit o.1) else (0#32, 0#32)) else (0#32, 0#32)
set_option maxHeartbeats 400000 in
theorem refOk_any (n : Int) (w : World) :
    Calls Try.prog 48 #[.int .i64 n] w fun e w' => e = .returned (.bool (okB n)) ∧ Below w.heap.size w w' := by
  by_cases h1 : 2 ≤ n
  · go_enter Try.func48, Try.ntmps48
    go_wp2_with fail
    all_goals (go_ret; exact ⟨by simp [okB, h1], Below.refl _ _⟩)
  · have h2 : n < 2 := by omega
    go_enter Try.func48, Try.ntmps48
    go_wp2_with fail
    all_goals (go_ret; exact ⟨by simp [okB]; intro h; omega, Below.refl _ _⟩)
set_option maxHeartbeats 1000000 in
theorem refIsObs_any (n : Int) (o : ObsV) (w : World) :
    Calls Try.prog 36 #[.int .i64 n, .agg #[.int .i64 o.1, .int .i64 o.2.1, .int .i64 o.2.2]] w fun e w' => e = .returned (.bool (obsB n o)) ∧ Below w.heap.size w w' := by
  have X0 : Blk (w.alloc (.cells #[.int .i64 o.1, .int .i64 o.2.1, .int .i64 o.2.2] 49)) w.heap.size [.int .i64 o.1, .int .i64 o.2.1, .int .i64 o.2.2] := by
    have hx := Blk.new w [.int .i64 o.1, .int .i64 o.2.1, .int .i64 o.2.2] 49
    exact hx
  have XW : Below w.heap.size w (w.alloc (.cells #[.int .i64 o.1, .int .i64 o.2.1, .int .i64 o.2.2] 49)) := below1' w _
  have HWW := Lib.hid XW; have HX0 := Lib.hid X0
  clear XW X0
  go_enter Try.func36, Try.ntmps36
  go_wp2_with fail
  generalize (w.alloc (.cells #[.int .i64 o.1, .int .i64 o.2.1, .int .i64 o.2.2] 49)) = w0 at *
  have HW := Lib.hid (Below.refl w0.heap.size w0)
  have hz0 := HX0.out.lt
  have k0 := HX0.out.cell 0 _ rfl
  have k1 := HX0.out.cell 1 _ rfl
  have k2 := HX0.out.cell 2 _ rfl
  refine (refOk_any n _).mono ?_
  rintro e w1 ⟨rfl, hbn⟩
  have HWn := Lib.hid (HW.out.trans (hbn.mono HW.out.size))
  try clear c0
  clear HW hbn
  have HW := HWn
  clear HWn
  have c0 := base_cell HW.out
  cases e1 : okB n
  · have E1 := Lib.hid e1
    clear e1
    go_wp2_with fail
    go_ret
    exact ⟨by simp [obsB, E1.out], HWW.out.trans (HW.out.mono HWW.out.size)⟩
  · have E1 := Lib.hid e1
    clear e1
    by_cases h1 : -1 ≤ o.1
    · by_cases h2 : o.1 < n
      · by_cases h3 : 0 ≤ o.2.1
        · by_cases h4 : o.2.1 ≤ 3
          · by_cases h5 : 0 ≤ o.2.2
            · by_cases h6 : o.2.2 ≤ 3
              · have e : obsB n o = true := by simp [obsB, E1.out, inR, h1, h3, h4, h5, h6]; omega
                have HE := Lib.hid e
                clear e
                go_wp2_with fail
                go_ret
                exact ⟨by rw [HE.out]; rfl, HWW.out.trans (HW.out.mono HWW.out.size)⟩
              · have h7 : decide (o.2.2 ≤ 3) = false := by simpa using h6
                have e : obsB n o = false := by simp [obsB, inR, h6]
                have HE := Lib.hid e
                clear e
                go_wp2_with fail
                go_ret
                exact ⟨by rw [HE.out]; rfl, HWW.out.trans (HW.out.mono HWW.out.size)⟩
            · have e : obsB n o = false := by simp [obsB, inR, h5]
              have HE := Lib.hid e
              clear e
              go_wp2_with fail
              go_ret
              exact ⟨by rw [HE.out]; rfl, HWW.out.trans (HW.out.mono HWW.out.size)⟩
          · have e : obsB n o = false := by simp [obsB, inR, h4]
            have HE := Lib.hid e
            clear e
            go_wp2_with fail
            go_ret
            exact ⟨by rw [HE.out]; rfl, HWW.out.trans (HW.out.mono HWW.out.size)⟩
        · have e : obsB n o = false := by simp [obsB, inR, h3]
          have HE := Lib.hid e
          clear e
          go_wp2_with fail
          go_ret
          exact ⟨by rw [HE.out]; rfl, HWW.out.trans (HW.out.mono HWW.out.size)⟩
      · have e : obsB n o = false := by simp [obsB, inR]; intros; omega
        have HE := Lib.hid e
        clear e
        go_wp2_with fail
        go_ret
        exact ⟨by rw [HE.out]; rfl, HWW.out.trans (HW.out.mono HWW.out.size)⟩
    · have e : obsB n o = false := by simp [obsB, inR, h1]
      have HE := Lib.hid e
      clear e
      go_wp2_with fail
      go_ret
      exact ⟨by rw [HE.out]; rfl, HWW.out.trans (HW.out.mono HWW.out.size)⟩
end Go.Proofs.Ytfmmiafdlfdfoaa
