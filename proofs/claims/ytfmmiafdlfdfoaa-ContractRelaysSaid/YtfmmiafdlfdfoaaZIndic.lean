/- The walk over Shows of the reference of chapter 5. Conditions: none. · The walks over the observations of the code: which are observations, and which call they show. Conditions: none. -/
import Derived.Test.YtfmmiafdlfdfoaaZValid18
namespace Go.Proofs.Ytfmmiafdlfdfoaa
open Go.RowKit
set_option maxHeartbeats 2000000 in
theorem refShows_any (n : Int) (o : ObsV) (w : World) :
    Calls Try.prog 22 #[.int .i64 n, .agg #[.int .i64 o.1, .int .i64 o.2.1, .int .i64 o.2.2]] w fun e w' => e = .returned (cv (showsV n o)) ∧ Below w.heap.size w w' := by
  have X0 : Blk (w.alloc (.cells #[.int .i64 o.1, .int .i64 o.2.1, .int .i64 o.2.2] 49)) w.heap.size [.int .i64 o.1, .int .i64 o.2.1, .int .i64 o.2.2] := by
    have hx := Blk.new w [.int .i64 o.1, .int .i64 o.2.1, .int .i64 o.2.2] 49
    exact hx
  replace X0 : Blk ((w.alloc (.cells #[.int .i64 o.1, .int .i64 o.2.1, .int .i64 o.2.2] 49)).alloc (.cells #[.int .u32 0, .int .u32 0] 45)) w.heap.size [.int .i64 o.1, .int .i64 o.2.1, .int .i64 o.2.2] := X0.next (below1' _ _)
  have X1 : Blk ((w.alloc (.cells #[.int .i64 o.1, .int .i64 o.2.1, .int .i64 o.2.2] 49)).alloc (.cells #[.int .u32 0, .int .u32 0] 45)) (w.heap.size + 1) [.int .u32 0, .int .u32 0] := by
    have hx := Blk.new (w.alloc (.cells #[.int .i64 o.1, .int .i64 o.2.1, .int .i64 o.2.2] 49)) [.int .u32 0, .int .u32 0] 45
    rw [World.size_alloc] at hx
    exact hx
  have XW : Below w.heap.size w (w.alloc (.cells #[.int .i64 o.1, .int .i64 o.2.1, .int .i64 o.2.2] 49)) := below1' w _
  replace XW : Below w.heap.size w ((w.alloc (.cells #[.int .i64 o.1, .int .i64 o.2.1, .int .i64 o.2.2] 49)).alloc (.cells #[.int .u32 0, .int .u32 0] 45)) := XW.trans ((below1' _ _).mono XW.size)
  have HWW := Lib.hid XW; have HX0 := Lib.hid X0; have HX1 := Lib.hid X1
  clear XW X0 X1
  go_enter Try.func22, Try.ntmps22
  go_wp2_with fail
  generalize ((w.alloc (.cells #[.int .i64 o.1, .int .i64 o.2.1, .int .i64 o.2.2] 49)).alloc (.cells #[.int .u32 0, .int .u32 0] 45)) = w0 at *
  generalize hg1 : w.heap.size + 1 = g1 at *
  have HG1 := Lib.hid hg1; have hq1 : w.heap.size + 1 ≤ g1 := by omega
  clear hg1
  have HW := Lib.hid (Below.refl w0.heap.size w0)
  have hz0 := HX0.out.lt; have hz1 := HX1.out.lt
  have k0 := (HX0.out).cell 0 _ rfl
  have k1 := (HX0.out).cell 1 _ rfl
  have k2 := (HX0.out).cell 2 _ rfl
  refine (refIsObs_any n o _).mono ?_
  rintro e w1 ⟨rfl, hbn⟩
  have HWn := Lib.hid (HW.out.trans (hbn.mono HW.out.size))
  try clear c0
  clear HW hbn
  have HW := HWn
  clear HWn
  have c0 := base_cell HW.out
  have hfin : ∀ (wr : World) (x y : Int), Below w0.heap.size w0 wr → Blk ((wr.setCell ⟨g1, 0, none⟩ (.int .u32 x)).setCell ⟨g1, 1, none⟩ (.int .u32 y)) g1 [.int .u32 x, .int .u32 y] ∧ Below w.heap.size w ((wr.setCell ⟨g1, 0, none⟩ (.int .u32 x)).setCell ⟨g1, 1, none⟩ (.int .u32 y)) := by
    intro wr x y hb
    exact ⟨((HX1.out.later hb hz1).set 0 _).set 1 _, ((HWW.out.trans (hb.mono HWW.out.size)).setCell (p := ⟨g1, 0, none⟩) (by show w.heap.size ≤ g1; omega) _).setCell (p := ⟨g1, 1, none⟩) (by show w.heap.size ≤ g1; omega) _⟩
  have HF := Lib.hid hfin
  clear hfin
  have R1 := HX1.out.later HW.out hz1
  have z0 := (HX1.out).cell 0 _ rfl
  have z1 := (HX1.out).cell 1 _ rfl
  have f0 := R1.fr 0; have f1 := R1.fr 1
  clear R1
  cases e1 : obsB n o
  · have E1 := Lib.hid e1
    clear e1
    go_wp2_with fail
    obtain ⟨R8, hbf⟩ := HF.out w1 0 0 HW.out
    have r0 := (R8).cell 0 _ rfl
    have r1 := (R8).cell 1 _ rfl
    exact bodyPost_ret (v := cv (0#32, 0#32)) (by simp [results, Try.results22, go_sem, r0, r1]) rfl ⟨by simp [showsV, E1.out], hbf⟩
  · have E1 := Lib.hid e1
    clear e1
    have hrg : o.1 < n ∧ n ≤ 32 := by
      have h := E1.out
      simp only [obsB, okB, Bool.and_eq_true, decide_eq_true_eq, inR] at h
      omega
    obtain ⟨hr1, hr2⟩ := hrg
    by_cases h1 : o.2.2 = 1
    · by_cases h2 : 0 ≤ o.1
      · have hpb := pow_bit o.1 h2 (by omega)
        have HP := Lib.hid hpb
        clear hpb
        have q1 : (o.2.2 != 1) = false := by simpa using h1
        by_cases h3 : o.2.1 = 1
        · by_cases h4 : o.1 < n - 1
          · have e : showsV n o = (bit o.1, 0#32) := by simp [showsV, E1.out, h1, h2, h3, h4]
            have HE := Lib.hid e
            have q3 : (o.2.1 == 1) = true := by simpa using h3
            clear e h1 h3
            go_wp2_with fail
            simp only [HP.out]
            obtain ⟨R8, hbf⟩ := HF.out w1 ((bit o.1).toNat : Int) 0 HW.out
            have r0 := (R8).cell 0 _ rfl
            have r1 := (R8).cell 1 _ rfl
            exact bodyPost_ret (v := cv (bit o.1, 0#32)) (by simp [results, Try.results22, go_sem, r0, r1]) rfl ⟨by rw [HE.out], hbf⟩
          · have e : showsV n o = (0#32, 0#32) := by simp [showsV, h1, h3, h4]
            have HE := Lib.hid e
            have q3 : (o.2.1 == 1) = true := by simpa using h3
            have q4 : (o.2.1 == 2) = false := by rw [h3]; rfl
            clear e h1 h3
            go_wp2_with fail
            obtain ⟨R8, hbf⟩ := HF.out w1 0 0 HW.out
            have r0 := (R8).cell 0 _ rfl
            have r1 := (R8).cell 1 _ rfl
            exact bodyPost_ret (v := cv (0#32, 0#32)) (by simp [results, Try.results22, go_sem, r0, r1]) rfl ⟨by rw [HE.out], hbf⟩
        · have q3 : (o.2.1 == 1) = false := by simpa using h3
          by_cases h5 : o.2.1 = 2
          · have q5 : (o.2.1 == 2) = true := by simpa using h5
            by_cases h6 : 0 < o.1
            · have e : showsV n o = (0#32, bit o.1) := by simp [showsV, E1.out, h1, h2, h5, h6]
              have HE := Lib.hid e
              clear e h1 h3 h5
              go_wp2_with fail
              simp only [HP.out]
              obtain ⟨R8, hbf⟩ := HF.out w1 0 ((bit o.1).toNat : Int) HW.out
              have r0 := (R8).cell 0 _ rfl
              have r1 := (R8).cell 1 _ rfl
              exact bodyPost_ret (v := cv (0#32, bit o.1)) (by simp [results, Try.results22, go_sem, r0, r1]) rfl ⟨by rw [HE.out], hbf⟩
            · have e : showsV n o = (0#32, 0#32) := by simp [showsV, h1, h5, h6]
              have HE := Lib.hid e
              clear e h1 h3 h5
              go_wp2_with fail
              obtain ⟨R8, hbf⟩ := HF.out w1 0 0 HW.out
              have r0 := (R8).cell 0 _ rfl
              have r1 := (R8).cell 1 _ rfl
              exact bodyPost_ret (v := cv (0#32, 0#32)) (by simp [results, Try.results22, go_sem, r0, r1]) rfl ⟨by rw [HE.out], hbf⟩
          · have q5 : (o.2.1 == 2) = false := by simpa using h5
            have e : showsV n o = (0#32, 0#32) := by simp [showsV, h3, h5]
            have HE := Lib.hid e
            clear e h1 h3 h5
            go_wp2_with fail
            obtain ⟨R8, hbf⟩ := HF.out w1 0 0 HW.out
            have r0 := (R8).cell 0 _ rfl
            have r1 := (R8).cell 1 _ rfl
            exact bodyPost_ret (v := cv (0#32, 0#32)) (by simp [results, Try.results22, go_sem, r0, r1]) rfl ⟨by rw [HE.out], hbf⟩
      · have e : showsV n o = (0#32, 0#32) := by simp [showsV, h2]
        have HE := Lib.hid e
        have q1 : (o.2.2 != 1) = false := by simpa using h1
        have h2' : o.1 < 0 := by omega
        clear e h1
        go_wp2_with fail
        obtain ⟨R8, hbf⟩ := HF.out w1 0 0 HW.out
        have r0 := (R8).cell 0 _ rfl
        have r1 := (R8).cell 1 _ rfl
        exact bodyPost_ret (v := cv (0#32, 0#32)) (by simp [results, Try.results22, go_sem, r0, r1]) rfl ⟨by rw [HE.out], hbf⟩
    · have q1 : (o.2.2 != 1) = true := by simpa using h1
      have e : showsV n o = (0#32, 0#32) := by simp [showsV, h1]
      have HE := Lib.hid e
      clear e h1
      go_wp2_with fail
      obtain ⟨R8, hbf⟩ := HF.out w1 0 0 HW.out
      have r0 := (R8).cell 0 _ rfl
      have r1 := (R8).cell 1 _ rfl
      exact bodyPost_ret (v := cv (0#32, 0#32)) (by simp [results, Try.results22, go_sem, r0, r1]) rfl ⟨by rw [HE.out], hbf⟩
end Go.Proofs.Ytfmmiafdlfdfoaa
namespace Go.Proofs.Ytfmmiafdlfdfoaa
open Go.RowKit
set_option maxHeartbeats 400000 in
theorem isFloors_any (n : Int) (w : World) :
    Calls Try.prog 86 #[.int .i64 n] w fun e w' => e = .returned (.bool (okB n)) ∧ Below w.heap.size w w' := by
  by_cases h1 : 2 ≤ n
  · go_enter Try.func86, Try.ntmps86
    go_wp2_with fail
    all_goals (go_ret; exact ⟨by simp [okB, h1], Below.refl _ _⟩)
  · have h2 : n < 2 := by omega
    go_enter Try.func86, Try.ntmps86
    go_wp2_with fail
    all_goals (go_ret; exact ⟨by simp [okB]; intro h; omega, Below.refl _ _⟩)
set_option maxHeartbeats 1000000 in
theorem isObs_any (n : Int) (o : ObsV) (w : World) :
    Calls Try.prog 74 #[.int .i64 n, .agg #[.int .i64 o.1, .int .i64 o.2.1, .int .i64 o.2.2]] w fun e w' => e = .returned (.bool (obsB n o)) ∧ Below w.heap.size w w' := by
  have X0 : Blk (w.alloc (.cells #[.int .i64 o.1, .int .i64 o.2.1, .int .i64 o.2.2] 49)) w.heap.size [.int .i64 o.1, .int .i64 o.2.1, .int .i64 o.2.2] := by
    have hx := Blk.new w [.int .i64 o.1, .int .i64 o.2.1, .int .i64 o.2.2] 49
    exact hx
  have XW : Below w.heap.size w (w.alloc (.cells #[.int .i64 o.1, .int .i64 o.2.1, .int .i64 o.2.2] 49)) := below1' w _
  have HWW := Lib.hid XW; have HX0 := Lib.hid X0
  clear XW X0
  go_enter Try.func74, Try.ntmps74
  go_wp2_with fail
  generalize (w.alloc (.cells #[.int .i64 o.1, .int .i64 o.2.1, .int .i64 o.2.2] 49)) = w0 at *
  have HW := Lib.hid (Below.refl w0.heap.size w0)
  have hz0 := HX0.out.lt
  have k0 := HX0.out.cell 0 _ rfl
  have k1 := HX0.out.cell 1 _ rfl
  have k2 := HX0.out.cell 2 _ rfl
  refine (isFloors_any n _).mono ?_
  rintro e w1 ⟨rfl, hbn⟩
  have HWn := Lib.hid (HW.out.trans (hbn.mono HW.out.size))
  try clear c0
  clear HW hbn
  have HW := HWn
  clear HWn
  have c0 := base_cell HW.out
  cases e1 : okB n
  · have E1 := Lib.hid e1
    clear e1
    go_wp2_with fail
    go_ret
    exact ⟨by simp [obsB, E1.out], HWW.out.trans (HW.out.mono HWW.out.size)⟩
  · have E1 := Lib.hid e1
    clear e1
    by_cases h1 : -1 ≤ o.1
    · by_cases h2 : o.1 < n
      · by_cases h3 : 0 ≤ o.2.1
        · by_cases h4 : o.2.1 ≤ 3
          · by_cases h5 : 0 ≤ o.2.2
            · by_cases h6 : o.2.2 ≤ 3
              · have e : obsB n o = true := by simp [obsB, E1.out, inR, h1, h3, h4, h5, h6]; omega
                have HE := Lib.hid e
                clear e
                go_wp2_with fail
                go_ret
                exact ⟨by rw [HE.out]; rfl, HWW.out.trans (HW.out.mono HWW.out.size)⟩
              · have h7 : decide (o.2.2 ≤ 3) = false := by simpa using h6
                have e : obsB n o = false := by simp [obsB, inR, h6]
                have HE := Lib.hid e
                clear e
                go_wp2_with fail
                go_ret
                exact ⟨by rw [HE.out]; rfl, HWW.out.trans (HW.out.mono HWW.out.size)⟩
            · have e : obsB n o = false := by simp [obsB, inR, h5]
              have HE := Lib.hid e
              clear e
              go_wp2_with fail
              go_ret
              exact ⟨by rw [HE.out]; rfl, HWW.out.trans (HW.out.mono HWW.out.size)⟩
          · have e : obsB n o = false := by simp [obsB, inR, h4]
            have HE := Lib.hid e
            clear e
            go_wp2_with fail
            go_ret
            exact ⟨by rw [HE.out]; rfl, HWW.out.trans (HW.out.mono HWW.out.size)⟩
        · have e : obsB n o = false := by simp [obsB, inR, h3]
          have HE := Lib.hid e
          clear e
          go_wp2_with fail
          go_ret
          exact ⟨by rw [HE.out]; rfl, HWW.out.trans (HW.out.mono HWW.out.size)⟩
      · have e : obsB n o = false := by simp [obsB, inR]; intros; omega
        have HE := Lib.hid e
        clear e
        go_wp2_with fail
        go_ret
        exact ⟨by rw [HE.out]; rfl, HWW.out.trans (HW.out.mono HWW.out.size)⟩
    · have e : obsB n o = false := by simp [obsB, inR, h1]
      have HE := Lib.hid e
      clear e
      go_wp2_with fail
      go_ret
      exact ⟨by rw [HE.out]; rfl, HWW.out.trans (HW.out.mono HWW.out.size)⟩
set_option maxHeartbeats 2000000 in
theorem shows_any (n : Int) (o : ObsV) (w : World) :
    Calls Try.prog 53 #[.int .i64 n, .agg #[.int .i64 o.1, .int .i64 o.2.1, .int .i64 o.2.2]] w fun e w' => e = .returned (cv (showsV n o)) ∧ Below w.heap.size w w' := by
  have X0 : Blk (w.alloc (.cells #[.int .i64 o.1, .int .i64 o.2.1, .int .i64 o.2.2] 49)) w.heap.size [.int .i64 o.1, .int .i64 o.2.1, .int .i64 o.2.2] := by
    have hx := Blk.new w [.int .i64 o.1, .int .i64 o.2.1, .int .i64 o.2.2] 49
    exact hx
  replace X0 : Blk ((w.alloc (.cells #[.int .i64 o.1, .int .i64 o.2.1, .int .i64 o.2.2] 49)).alloc (.cells #[.int .u32 0, .int .u32 0] 45)) w.heap.size [.int .i64 o.1, .int .i64 o.2.1, .int .i64 o.2.2] := X0.next (below1' _ _)
  have X1 : Blk ((w.alloc (.cells #[.int .i64 o.1, .int .i64 o.2.1, .int .i64 o.2.2] 49)).alloc (.cells #[.int .u32 0, .int .u32 0] 45)) (w.heap.size + 1) [.int .u32 0, .int .u32 0] := by
    have hx := Blk.new (w.alloc (.cells #[.int .i64 o.1, .int .i64 o.2.1, .int .i64 o.2.2] 49)) [.int .u32 0, .int .u32 0] 45
    rw [World.size_alloc] at hx
    exact hx
  have XW : Below w.heap.size w (w.alloc (.cells #[.int .i64 o.1, .int .i64 o.2.1, .int .i64 o.2.2] 49)) := below1' w _
  replace XW : Below w.heap.size w ((w.alloc (.cells #[.int .i64 o.1, .int .i64 o.2.1, .int .i64 o.2.2] 49)).alloc (.cells #[.int .u32 0, .int .u32 0] 45)) := XW.trans ((below1' _ _).mono XW.size)
  have HWW := Lib.hid XW; have HX0 := Lib.hid X0; have HX1 := Lib.hid X1
  clear XW X0 X1
  go_enter Try.func53, Try.ntmps53
  go_wp2_with fail
  generalize ((w.alloc (.cells #[.int .i64 o.1, .int .i64 o.2.1, .int .i64 o.2.2] 49)).alloc (.cells #[.int .u32 0, .int .u32 0] 45)) = w0 at *
  generalize hg1 : w.heap.size + 1 = g1 at *
  have HG1 := Lib.hid hg1; have hq1 : w.heap.size + 1 ≤ g1 := by omega
  clear hg1
  have HW := Lib.hid (Below.refl w0.heap.size w0)
  have hz0 := HX0.out.lt; have hz1 := HX1.out.lt
  have k0 := (HX0.out).cell 0 _ rfl
  have k1 := (HX0.out).cell 1 _ rfl
  have k2 := (HX0.out).cell 2 _ rfl
  refine (isObs_any n o _).mono ?_
  rintro e w1 ⟨rfl, hbn⟩
  have HWn := Lib.hid (HW.out.trans (hbn.mono HW.out.size))
  try clear c0
  clear HW hbn
  have HW := HWn
  clear HWn
  have c0 := base_cell HW.out
  have hfin : ∀ (wr : World) (x y : Int), Below w0.heap.size w0 wr → Blk ((wr.setCell ⟨g1, 0, none⟩ (.int .u32 x)).setCell ⟨g1, 1, none⟩ (.int .u32 y)) g1 [.int .u32 x, .int .u32 y] ∧ Below w.heap.size w ((wr.setCell ⟨g1, 0, none⟩ (.int .u32 x)).setCell ⟨g1, 1, none⟩ (.int .u32 y)) := by
    intro wr x y hb
    exact ⟨((HX1.out.later hb hz1).set 0 _).set 1 _, ((HWW.out.trans (hb.mono HWW.out.size)).setCell (p := ⟨g1, 0, none⟩) (by show w.heap.size ≤ g1; omega) _).setCell (p := ⟨g1, 1, none⟩) (by show w.heap.size ≤ g1; omega) _⟩
  have HF := Lib.hid hfin
  clear hfin
  have R1 := HX1.out.later HW.out hz1
  have z0 := (HX1.out).cell 0 _ rfl
  have z1 := (HX1.out).cell 1 _ rfl
  have f0 := R1.fr 0; have f1 := R1.fr 1
  clear R1
  cases e1 : obsB n o
  · have E1 := Lib.hid e1
    clear e1
    go_wp2_with fail
    obtain ⟨R8, hbf⟩ := HF.out w1 0 0 HW.out
    have r0 := (R8).cell 0 _ rfl
    have r1 := (R8).cell 1 _ rfl
    exact bodyPost_ret (v := cv (0#32, 0#32)) (by simp [results, Try.results53, go_sem, r0, r1]) rfl ⟨by simp [showsV, E1.out], hbf⟩
  · have E1 := Lib.hid e1
    clear e1
    have hrg : o.1 < n ∧ n ≤ 32 := by
      have h := E1.out
      simp only [obsB, okB, Bool.and_eq_true, decide_eq_true_eq, inR] at h
      omega
    obtain ⟨hr1, hr2⟩ := hrg
    by_cases h1 : o.2.2 = 1
    · by_cases h2 : 0 ≤ o.1
      · have hpb := pow_bit o.1 h2 (by omega)
        have HP := Lib.hid hpb
        clear hpb
        have q1 : (o.2.2 != 1) = false := by simpa using h1
        by_cases h3 : o.2.1 = 1
        · by_cases h4 : o.1 < n - 1
          · have e : showsV n o = (bit o.1, 0#32) := by simp [showsV, E1.out, h1, h2, h3, h4]
            have HE := Lib.hid e
            have q3 : (o.2.1 == 1) = true := by simpa using h3
            clear e h1 h3
            go_wp2_with fail
            simp only [HP.out]
            obtain ⟨R8, hbf⟩ := HF.out w1 ((bit o.1).toNat : Int) 0 HW.out
            have r0 := (R8).cell 0 _ rfl
            have r1 := (R8).cell 1 _ rfl
            exact bodyPost_ret (v := cv (bit o.1, 0#32)) (by simp [results, Try.results53, go_sem, r0, r1]) rfl ⟨by rw [HE.out], hbf⟩
          · have e : showsV n o = (0#32, 0#32) := by simp [showsV, h1, h3, h4]
            have HE := Lib.hid e
            have q3 : (o.2.1 == 1) = true := by simpa using h3
            have q4 : (o.2.1 == 2) = false := by rw [h3]; rfl
            clear e h1 h3
            go_wp2_with fail
            obtain ⟨R8, hbf⟩ := HF.out w1 0 0 HW.out
            have r0 := (R8).cell 0 _ rfl
            have r1 := (R8).cell 1 _ rfl
            exact bodyPost_ret (v := cv (0#32, 0#32)) (by simp [results, Try.results53, go_sem, r0, r1]) rfl ⟨by rw [HE.out], hbf⟩
        · have q3 : (o.2.1 == 1) = false := by simpa using h3
          by_cases h5 : o.2.1 = 2
          · have q5 : (o.2.1 == 2) = true := by simpa using h5
            by_cases h6 : 0 < o.1
            · have e : showsV n o = (0#32, bit o.1) := by simp [showsV, E1.out, h1, h2, h5, h6]
              have HE := Lib.hid e
              clear e h1 h3 h5
              go_wp2_with fail
              simp only [HP.out]
              obtain ⟨R8, hbf⟩ := HF.out w1 0 ((bit o.1).toNat : Int) HW.out
              have r0 := (R8).cell 0 _ rfl
              have r1 := (R8).cell 1 _ rfl
              exact bodyPost_ret (v := cv (0#32, bit o.1)) (by simp [results, Try.results53, go_sem, r0, r1]) rfl ⟨by rw [HE.out], hbf⟩
            · have e : showsV n o = (0#32, 0#32) := by simp [showsV, h1, h5, h6]
              have HE := Lib.hid e
              clear e h1 h3 h5
              go_wp2_with fail
              obtain ⟨R8, hbf⟩ := HF.out w1 0 0 HW.out
              have r0 := (R8).cell 0 _ rfl
              have r1 := (R8).cell 1 _ rfl
              exact bodyPost_ret (v := cv (0#32, 0#32)) (by simp [results, Try.results53, go_sem, r0, r1]) rfl ⟨by rw [HE.out], hbf⟩
          · have q5 : (o.2.1 == 2) = false := by simpa using h5
            have e : showsV n o = (0#32, 0#32) := by simp [showsV, h3, h5]
            have HE := Lib.hid e
            clear e h1 h3 h5
            go_wp2_with fail
            obtain ⟨R8, hbf⟩ := HF.out w1 0 0 HW.out
            have r0 := (R8).cell 0 _ rfl
            have r1 := (R8).cell 1 _ rfl
            exact bodyPost_ret (v := cv (0#32, 0#32)) (by simp [results, Try.results53, go_sem, r0, r1]) rfl ⟨by rw [HE.out], hbf⟩
      · have e : showsV n o = (0#32, 0#32) := by simp [showsV, h2]
        have HE := Lib.hid e
        have q1 : (o.2.2 != 1) = false := by simpa using h1
        have h2' : o.1 < 0 := by omega
        clear e h1
        go_wp2_with fail
        obtain ⟨R8, hbf⟩ := HF.out w1 0 0 HW.out
        have r0 := (R8).cell 0 _ rfl
        have r1 := (R8).cell 1 _ rfl
        exact bodyPost_ret (v := cv (0#32, 0#32)) (by simp [results, Try.results53, go_sem, r0, r1]) rfl ⟨by rw [HE.out], hbf⟩
    · have q1 : (o.2.2 != 1) = true := by simpa using h1
      have e : showsV n o = (0#32, 0#32) := by simp [showsV, h1]
      have HE := Lib.hid e
      clear e h1
      go_wp2_with fail
      obtain ⟨R8, hbf⟩ := HF.out w1 0 0 HW.out
      have r0 := (R8).cell 0 _ rfl
      have r1 := (R8).cell 1 _ rfl
      exact bodyPost_ret (v := cv (0#32, 0#32)) (by simp [results, Try.results53, go_sem, r0, r1]) rfl ⟨by rw [HE.out], hbf⟩
end Go.Proofs.Ytfmmiafdlfdfoaa
