/- The walk over overlayref09.Valid. Conditions: cars that can be read; slack times that are no more than the greatest number less one. -/
import Derived.Test.YtgoojlfpngmdlaaZRec
namespace Go.Proofs.Ytgoojlfpngmdlaa
open Go.RowKit
def carOk (b : BldV) (r : R5) : Bool := inR 0 ((b.cars.length : Int) - 1) r.2.2.2.1 && (r.2.1 == 0) && (r.2.2.1 == 0)
def recOk (b : BldV) (r : R5) : Bool := decide (validN b = 0) &&
  (if r.1 = 1 ∨ r.1 = 2 then callB b r.2.1 r.2.2.1 && (r.2.2.2.1 == 0) && (r.2.2.2.2 == 0)
  else if r.1 = 3 then callB b r.2.1 r.2.2.1 && inR (-2) ((b.cars.length : Int) - 1) r.2.2.2.1 && (r.2.2.2.2 == 0)
  else if r.1 = 4 then carOk b r && inR 0 4 r.2.2.2.2
  else if r.1 = 5 ∨ r.1 = 6 then carOk b r && inR 0 1 r.2.2.2.2
  else if r.1 = 7 then callB b r.2.1 r.2.2.1 && inR 0 1 r.2.2.2.1 && inR 0 255 r.2.2.2.2
  else false)
set_option maxHeartbeats 400000 in
theorem ref09In_any (x lo hi : Int) (w : World) :
    Calls Try.prog 36 #[.int .i64 x, .int .i64 lo, .int .i64 hi] w fun e w' => e = .returned (.bool (inR lo hi x)) ∧ Below w.heap.size w w' := by
  by_cases h1 : lo ≤ x
  · go_enter Try.func36, Try.ntmps36
    go_wp2_with fail
    all_goals (go_ret; exact ⟨by simp [inR, h1], Below.refl _ _⟩)
  · have h2 : x < lo := by omega
    go_enter Try.func36, Try.ntmps36
    go_wp2_with fail
    all_goals (go_ret; exact ⟨by simp [inR]; intro h; omega, Below.refl _ _⟩)
set_option maxHeartbeats 4000000 in
set_option maxRecDepth 100000 in
theorem valid9_any (b : BldV) (q : Option Addr) (cap : Nat) (r : R5) (w : World) (hlen : b.cars.length ≤ 1000) (hsl : ∀ c ∈ b.cars, -9223372036854775808 ≤ c.sl ∧ c.sl < 9223372036854775807) (hr : RdC w q b.cars) :
    Calls Try.prog 15 #[cvB b q cap, cvR r] w fun e w' => e = .returned (.bool (recOk b r)) ∧ Below w.heap.size w w' := by
  obtain ⟨kd, fl, di, ca, va⟩ := r
  obtain ⟨n, hn⟩ : ∃ n, n = b.cars.length := ⟨_, rfl⟩
  have X0 : Blk (w.alloc (.cells #[.int .i64 b.fl, .int .i64 b.deb, .int .i64 b.room, .int .i64 b.park, .float .f64 b.em, .float .f64 b.fu, .float .f64 b.ov, .slice q b.cars.length cap] 29)) w.heap.size [.int .i64 b.fl, .int .i64 b.deb, .int .i64 b.room, .int .i64 b.park, .float .f64 b.em, .float .f64 b.fu, .float .f64 b.ov, .slice q b.cars.length cap] := by
    have hx := Blk.new w [.int .i64 b.fl, .int .i64 b.deb, .int .i64 b.room, .int .i64 b.park, .float .f64 b.em, .float .f64 b.fu, .float .f64 b.ov, .slice q b.cars.length cap] 29
    exact hx
  replace X0 : Blk ((w.alloc (.cells #[.int .i64 b.fl, .int .i64 b.deb, .int .i64 b.room, .int .i64 b.park, .float .f64 b.em, .float .f64 b.fu, .float .f64 b.ov, .slice q b.cars.length cap] 29)).alloc (.cells #[.int .i64 kd, .int .i64 fl, .int .i64 di, .int .i64 ca, .int .i64 va] 47)) w.heap.size [.int .i64 b.fl, .int .i64 b.deb, .int .i64 b.room, .int .i64 b.park, .float .f64 b.em, .float .f64 b.fu, .float .f64 b.ov, .slice q b.cars.length cap] := X0.next (below1' _ _)
  have X1 : Blk ((w.alloc (.cells #[.int .i64 b.fl, .int .i64 b.deb, .int .i64 b.room, .int .i64 b.park, .float .f64 b.em, .float .f64 b.fu, .float .f64 b.ov, .slice q b.cars.length cap] 29)).alloc (.cells #[.int .i64 kd, .int .i64 fl, .int .i64 di, .int .i64 ca, .int .i64 va] 47)) (w.heap.size + 1) [.int .i64 kd, .int .i64 fl, .int .i64 di, .int .i64 ca, .int .i64 va] := by
    have hx := Blk.new (w.alloc (.cells #[.int .i64 b.fl, .int .i64 b.deb, .int .i64 b.room, .int .i64 b.park, .float .f64 b.em, .float .f64 b.fu, .float .f64 b.ov, .slice q b.cars.length cap] 29)) [.int .i64 kd, .int .i64 fl, .int .i64 di, .int .i64 ca, .int .i64 va] 47
    rw [World.size_alloc] at hx
    exact hx
  have XW : Below w.heap.size w (w.alloc (.cells #[.int .i64 b.fl, .int .i64 b.deb, .int .i64 b.room, .int .i64 b.park, .float .f64 b.em, .float .f64 b.fu, .float .f64 b.ov, .slice q b.cars.length cap] 29)) := below1' w _
  replace XW : Below w.heap.size w ((w.alloc (.cells #[.int .i64 b.fl, .int .i64 b.deb, .int .i64 b.room, .int .i64 b.park, .float .f64 b.em, .float .f64 b.fu, .float .f64 b.ov, .slice q b.cars.length cap] 29)).alloc (.cells #[.int .i64 kd, .int .i64 fl, .int .i64 di, .int .i64 ca, .int .i64 va] 47)) := XW.trans ((below1' _ _).mono XW.size)
  have HWW := Lib.hid XW; have HX0 := Lib.hid X0; have HX1 := Lib.hid X1
  clear XW X0 X1
  have HR := Lib.hid (hr.next HWW.out)
  have HL := Lib.hid hlen; have HSL := Lib.hid hsl; have HN := Lib.hid hn
  rw [← hn] at hlen
  clear hr hsl hn
  show Calls _ _ #[_, .agg #[.int .i64 kd, .int .i64 fl, .int .i64 di, .int .i64 ca, .int .i64 va]] _ _
  go_enter Try.func15, Try.ntmps15
  go_upto_region 1 with fail
  generalize ((w.alloc (.cells #[.int .i64 b.fl, .int .i64 b.deb, .int .i64 b.room, .int .i64 b.park, .float .f64 b.em, .float .f64 b.fu, .float .f64 b.ov, .slice q b.cars.length cap] 29)).alloc (.cells #[.int .i64 kd, .int .i64 fl, .int .i64 di, .int .i64 ca, .int .i64 va] 47)) = w0 at *
  generalize hg1 : w.heap.size + 1 = g1 at *
  have HG1 := Lib.hid hg1; have hq1 : w.heap.size + 1 ≤ g1 := by omega
  clear hg1
  have HW := Lib.hid (Below.refl w0.heap.size w0)
  have hz0 := HX0.out.lt; have hz1 := HX1.out.lt
  have k0 := (HX0.out).cell 0 _ rfl
  have k1 := (HX0.out).cell 1 _ rfl
  have k2 := (HX0.out).cell 2 _ rfl
  have k3 := (HX0.out).cell 3 _ rfl
  have k4 := (HX0.out).cell 4 _ rfl
  have k5 := (HX0.out).cell 5 _ rfl
  have k6 := (HX0.out).cell 6 _ rfl
  have k7 := (HX0.out).cell 7 _ rfl
  go_wp2_with fail
  refine (refValid_any b q cap _ (by have := HL.out; unfold maxLen; omega) HSL.out HR.out).mono ?_
  rintro e w1 ⟨rfl, hb1⟩
  have HY0 := Lib.hid (HX0.out.next hb1); have HY1 := Lib.hid (HX1.out.next hb1); have HR1 := Lib.hid (HR.out.next hb1)
  have HW1 := Lib.hid (HWW.out.trans (hb1.mono HWW.out.size))
  clear HX0 HX1 HR HWW hb1 HW hz0 hz1 k0 k1 k2 k3 k4 k5 k6 k7
  by_cases hv : validN b = 0
  rotate_left 1
  · have HV := Lib.hid hv
    have c0 : (validN b != 0) = true := by simpa using hv
    clear hv
    go_wp2_with fail
    go_ret
    exact ⟨by rw [recOk, decide_eq_false HV.out]; rfl, HW1.out⟩
  have HV := Lib.hid hv
  have c0 : (validN b != 0) = false := by simpa using hv
  clear hv
  have k0 := (HY0.out).cell 0 _ rfl
  have k1 := (HY0.out).cell 1 _ rfl
  have k2 := (HY0.out).cell 2 _ rfl
  have k3 := (HY0.out).cell 3 _ rfl
  have k4 := (HY0.out).cell 4 _ rfl
  have k5 := (HY0.out).cell 5 _ rfl
  have k6 := (HY0.out).cell 6 _ rfl
  have k7 := (HY0.out).cell 7 _ rfl
  have s0 := (HY1.out).cell 0 _ rfl
  have s1 := (HY1.out).cell 1 _ rfl
  have s2 := (HY1.out).cell 2 _ rfl
  have s3 := (HY1.out).cell 3 _ rfl
  have s4 := (HY1.out).cell 4 _ rfl
  go_wp2_with fail
  clear c0
  refine (refIsCall_any b q cap fl di _ (by have := HL.out; unfold maxLen; omega) HSL.out HR1.out).mono ?_
  rintro e w2 ⟨rfl, hb2⟩
  have HZ0 := Lib.hid (HY0.out.next hb2); have HZ1 := Lib.hid (HY1.out.next hb2)
  have HW2 := Lib.hid (HW1.out.trans (hb2.mono HW1.out.size))
  clear HY0 HY1 HR1 HW1 hb2 k0 k1 k2 k3 k4 k5 k6 k7 s0 s1 s2 s3 s4
  have k7 := HZ0.out.cell 7 _ rfl
  rw [← HN.out] at k7
  have s0 := (HZ1.out).cell 0 _ rfl
  have s1 := (HZ1.out).cell 1 _ rfl
  have s2 := (HZ1.out).cell 2 _ rfl
  have s3 := (HZ1.out).cell 3 _ rfl
  have s4 := (HZ1.out).cell 4 _ rfl
  have HRO : Hid (∀ C K, callB b fl di = C → carOk b (kd, fl, di, ca, va) = K → recOk b (kd, fl, di, ca, va) = (if kd = 1 ∨ kd = 2 then C && (ca == 0) && (va == 0) else if kd = 3 then C && inR (-2) ((n : Int) - 1) ca && (va == 0) else if kd = 4 then K && inR 0 4 va else if kd = 5 ∨ kd = 6 then K && inR 0 1 va else if kd = 7 then C && inR 0 1 ca && inR 0 255 va else false)) := Lib.hid (by
    rintro C K rfl rfl
    unfold recOk
    rw [decide_eq_true HV.out, HN.out]; rfl)
  have HKK : Hid (carOk b (kd, fl, di, ca, va) = (inR 0 ((n : Int) - 1) ca && (fl == 0) && (di == 0))) := Lib.hid (by rw [carOk, HN.out])
  generalize hC : callB b fl di = C at *
  have HC := Lib.hid hC
  clear hC
  go_upto_region 4 with fail
  go_cut [6] from 16 to 32 (fun v wx => v = .bool (carOk b (kd, fl, di, ca, va)) ∧ Below w2.heap.size w2 wx)
  case first =>
    go_wp2_with fail
    refine (ref09In_any ca 0 ((n : Int) - 1) _).mono ?_
    rintro e w3 ⟨rfl, hb3⟩
    have HB3 := Lib.hid hb3
    have s1' := cell_later hb3 s1; have s2' := cell_later hb3 s2
    clear s0 s1 s2 s3 s4 k7 hb3
    cases e1 : inR 0 ((n : Int) - 1) ca <;> cases e2 : (fl == 0) <;> cases e3 : (di == 0)
    all_goals
      have E1 := Lib.hid e1; have E2 := Lib.hid e2; have E3 := Lib.hid e3
      go_wp2_with fail
      go_meet
      exact ⟨by rw [HKK.out, E1.out, E2.out, E3.out]; rfl, HB3.out⟩
  case rest =>
    obtain ⟨rfl, hb3⟩ := hcut
    have hz := HZ0.out.lt
    have HY0 := Lib.hid (HZ0.out.next hb3); have HY1 := Lib.hid (HZ1.out.next hb3)
    have HW3 := Lib.hid (HW2.out.trans (hb3.mono HW2.out.size))
    generalize hwc : wc = w3 at *
    clear hwc hb3 HZ0 HZ1 HW2 s0 s1 s2 s3 s4 k7
    have k7 := HY0.out.cell 7 _ rfl
    rw [← HN.out] at k7
    have s0 := (HY1.out).cell 0 _ rfl
    have s1 := (HY1.out).cell 1 _ rfl
    have s2 := (HY1.out).cell 2 _ rfl
    have s3 := (HY1.out).cell 3 _ rfl
    have s4 := (HY1.out).cell 4 _ rfl
    obtain ⟨K, hK⟩ : ∃ K, carOk b (kd, fl, di, ca, va) = K := ⟨_, rfl⟩
    have HRO2 := Lib.hid (HRO.out C K rfl hK)
    rw [hK]
    clear hK
    have h8 : kd = 1 ∨ kd = 2 ∨ kd = 3 ∨ kd = 4 ∨ kd = 5 ∨ kd = 6 ∨ kd = 7 ∨ (kd ≠ 1 ∧ kd ≠ 2 ∧ kd ≠ 3 ∧ kd ≠ 4 ∧ kd ≠ 5 ∧ kd ≠ 6 ∧ kd ≠ 7) := by omega
    rcases h8 with rfl | rfl | rfl | rfl | rfl | rfl | rfl | h8
    iterate 2
      · cases C
        · go_wp2_with fail
          go_ret
          exact ⟨by rw [HRO2.out]; rfl, HW3.out⟩
        · cases e1 : (ca == 0) <;> cases e2 : (va == 0)
          all_goals
            have E1 := Lib.hid e1; have E2 := Lib.hid e2
            go_wp2_with fail
            go_ret
            exact ⟨by rw [HRO2.out, E1.out, E2.out]; rfl, HW3.out⟩
    · cases C
      · go_wp2_with fail
        go_ret
        exact ⟨by rw [HRO2.out]; rfl, HW3.out⟩
      · go_wp2_with fail
        refine (ref09In_any ca (-2) ((n : Int) - 1) _).mono ?_
        rintro e w4 ⟨rfl, hb4⟩
        have HB4 := Lib.hid (HW3.out.trans (hb4.mono HW3.out.size))
        have s4' := cell_later hb4 s4
        clear s0 s1 s2 s3 s4 k7 hb4
        cases e1 : inR (-2) ((n : Int) - 1) ca <;> cases e2 : (va == 0)
        all_goals
          have E1 := Lib.hid e1; have E2 := Lib.hid e2
          go_wp2_with fail
          go_ret
          exact ⟨by rw [HRO2.out, E1.out, E2.out]; rfl, HB4.out⟩
    · cases K
      · go_wp2_with fail
        go_ret
        exact ⟨by rw [HRO2.out]; rfl, HW3.out⟩
      · go_wp2_with fail
        refine (ref09In_any va 0 4 _).mono ?_
        rintro e w4 ⟨rfl, hb4⟩
        have HB4 := Lib.hid (HW3.out.trans (hb4.mono HW3.out.size))
        clear s0 s1 s2 s3 s4 k7 hb4
        cases e1 : inR 0 4 va
        all_goals
          have E1 := Lib.hid e1
          go_wp2_with fail
          go_ret
          exact ⟨by rw [HRO2.out, E1.out]; rfl, HB4.out⟩
    · cases K
      · go_wp2_with fail
        go_ret
        exact ⟨by rw [HRO2.out]; rfl, HW3.out⟩
      · go_wp2_with fail
        refine (ref09In_any va 0 1 _).mono ?_
        rintro e w4 ⟨rfl, hb4⟩
        have HB4 := Lib.hid (HW3.out.trans (hb4.mono HW3.out.size))
        clear s0 s1 s2 s3 s4 k7 hb4
        cases e1 : inR 0 1 va
        all_goals
          have E1 := Lib.hid e1
          go_wp2_with fail
          go_ret
          exact ⟨by rw [HRO2.out, E1.out]; rfl, HB4.out⟩
    · cases K
      · go_wp2_with fail
        go_ret
        exact ⟨by rw [HRO2.out]; rfl, HW3.out⟩
      · go_wp2_with fail
        refine (ref09In_any va 0 1 _).mono ?_
        rintro e w4 ⟨rfl, hb4⟩
        have HB4 := Lib.hid (HW3.out.trans (hb4.mono HW3.out.size))
        clear s0 s1 s2 s3 s4 k7 hb4
        cases e1 : inR 0 1 va
        all_goals
          have E1 := Lib.hid e1
          go_wp2_with fail
          go_ret
          exact ⟨by rw [HRO2.out, E1.out]; rfl, HB4.out⟩
    · cases C
      · go_wp2_with fail
        go_ret
        exact ⟨by rw [HRO2.out]; rfl, HW3.out⟩
      · go_wp2_with fail
        refine (ref09In_any ca 0 1 _).mono ?_
        rintro e w4 ⟨rfl, hb4⟩
        have HB4 := Lib.hid (HW3.out.trans (hb4.mono HW3.out.size))
        have s4' := cell_later hb4 s4
        clear s0 s1 s2 s3 s4 k7 hb4
        cases e1 : inR 0 1 ca
        · have E1 := Lib.hid e1
          go_wp2_with fail
          go_ret
          exact ⟨by rw [HRO2.out, E1.out]; rfl, HB4.out⟩
        · have E1 := Lib.hid e1
          go_wp2_with fail
          refine (ref09In_any va 0 255 _).mono ?_
          rintro e w5 ⟨rfl, hb5⟩
          have HB5 := Lib.hid (HB4.out.trans (hb5.mono HB4.out.size))
          clear s4' hb5
          cases e2 : inR 0 255 va
          all_goals
            have E2 := Lib.hid e2
            go_wp2_with fail
            go_ret
            exact ⟨by rw [HRO2.out, E1.out, E2.out]; rfl, HB5.out⟩
    · obtain ⟨a1, a2, a3, a4, a5, a6, a7⟩ := h8
      have HF := Lib.hid (show (if kd = 1 ∨ kd = 2 then C && (ca == 0) && (va == 0) else if kd = 3 then C && inR (-2) ((n : Int) - 1) ca && (va == 0) else if kd = 4 then K && inR 0 4 va else if kd = 5 ∨ kd = 6 then K && inR 0 1 va else if kd = 7 then C && inR 0 1 ca && inR 0 255 va else false) = false by simp [a1, a2, a3, a4, a5, a6, a7])
      have b1 : (kd == 1) = false := by simpa using a1
      have b2 : (kd == 2) = false := by simpa using a2
      have b3 : (kd == 3) = false := by simpa using a3
      have b4 : (kd == 4) = false := by simpa using a4
      have b5 : (kd == 5) = false := by simpa using a5
      have b6 : (kd == 6) = false := by simpa using a6
      have b7 : (kd == 7) = false := by simpa using a7
      clear a1 a2 a3 a4 a5 a6 a7
      go_wp2_with fail
      go_ret
      exact ⟨by rw [HRO2.out, HF.out]; rfl, HW3.out⟩
end Go.Proofs.Ytgoojlfpngmdlaa
