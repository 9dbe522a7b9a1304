/- The walk over overlayref25.Auto. Conditions: cars and an image that can be read. -/
import Derived.Test.YtgoojlfpngmdlaaZAuto
namespace Go.Proofs.Ytgoojlfpngmdlaa
open Go.RowKit
set_option maxHeartbeats 2000000 in
set_option maxRecDepth 100000 in
theorem refAuto_any (b : BldV) (q : Option Addr) (cap : Nat) (m : ImgV) (a : ImgA) (C : List Bool) (qc : Option Addr) (capc : Nat) (w : World) (hlen : b.cars.length ≤ 1000) (hsl : ∀ c ∈ b.cars, -9223372036854775808 ≤ c.sl ∧ c.sl < 9223372036854775807) (hp : m.ph.length ≤ 1000) (he : m.en.length ≤ 1000) (hr : RdC w q b.cars) (hm : RdM w m a) (hC : RdX w qc (boolCells C)) :
    Calls Try.prog 24 #[cvB b q cap, cvM m a, .slice qc C.length capc] w fun r w' => ∃ v, r = .returned v ∧ Below w.heap.size w w' ∧ recR (autoF b m C) v w' := by
  obtain ⟨F, hF⟩ : ∃ F, autoF b m C = F := ⟨_, rfl⟩
  rw [hF]
  have HF0 := Lib.hid hF
  clear hF
  have X0 : Blk (w.alloc (.cells #[.int .i64 b.fl, .int .i64 b.deb, .int .i64 b.room, .int .i64 b.park, .float .f64 b.em, .float .f64 b.fu, .float .f64 b.ov, .slice q b.cars.length cap] 29)) w.heap.size [.int .i64 b.fl, .int .i64 b.deb, .int .i64 b.room, .int .i64 b.park, .float .f64 b.em, .float .f64 b.fu, .float .f64 b.ov, .slice q b.cars.length cap] := by
    have hx := Blk.new w [.int .i64 b.fl, .int .i64 b.deb, .int .i64 b.room, .int .i64 b.park, .float .f64 b.em, .float .f64 b.fu, .float .f64 b.ov, .slice q b.cars.length cap] 29
    exact hx
  replace X0 : Blk ((w.alloc (.cells #[.int .i64 b.fl, .int .i64 b.deb, .int .i64 b.room, .int .i64 b.park, .float .f64 b.em, .float .f64 b.fu, .float .f64 b.ov, .slice q b.cars.length cap] 29)).alloc (.cells #[.slice a.p m.ph.length a.pc, .slice a.f m.fg.length a.fc, .slice a.l m.lv.length a.lc, .slice a.e m.en.length a.ec] 35)) w.heap.size [.int .i64 b.fl, .int .i64 b.deb, .int .i64 b.room, .int .i64 b.park, .float .f64 b.em, .float .f64 b.fu, .float .f64 b.ov, .slice q b.cars.length cap] := X0.next (below1' _ _)
  have X1 : Blk ((w.alloc (.cells #[.int .i64 b.fl, .int .i64 b.deb, .int .i64 b.room, .int .i64 b.park, .float .f64 b.em, .float .f64 b.fu, .float .f64 b.ov, .slice q b.cars.length cap] 29)).alloc (.cells #[.slice a.p m.ph.length a.pc, .slice a.f m.fg.length a.fc, .slice a.l m.lv.length a.lc, .slice a.e m.en.length a.ec] 35)) (w.heap.size + 1) [.slice a.p m.ph.length a.pc, .slice a.f m.fg.length a.fc, .slice a.l m.lv.length a.lc, .slice a.e m.en.length a.ec] := by
    have hx := Blk.new (w.alloc (.cells #[.int .i64 b.fl, .int .i64 b.deb, .int .i64 b.room, .int .i64 b.park, .float .f64 b.em, .float .f64 b.fu, .float .f64 b.ov, .slice q b.cars.length cap] 29)) [.slice a.p m.ph.length a.pc, .slice a.f m.fg.length a.fc, .slice a.l m.lv.length a.lc, .slice a.e m.en.length a.ec] 35
    rw [World.size_alloc] at hx
    exact hx
  have XW : Below w.heap.size w (w.alloc (.cells #[.int .i64 b.fl, .int .i64 b.deb, .int .i64 b.room, .int .i64 b.park, .float .f64 b.em, .float .f64 b.fu, .float .f64 b.ov, .slice q b.cars.length cap] 29)) := below1' w _
  replace XW : Below w.heap.size w ((w.alloc (.cells #[.int .i64 b.fl, .int .i64 b.deb, .int .i64 b.room, .int .i64 b.park, .float .f64 b.em, .float .f64 b.fu, .float .f64 b.ov, .slice q b.cars.length cap] 29)).alloc (.cells #[.slice a.p m.ph.length a.pc, .slice a.f m.fg.length a.fc, .slice a.l m.lv.length a.lc, .slice a.e m.en.length a.ec] 35)) := XW.trans ((below1' _ _).mono XW.size)
  have HWW := Lib.hid XW; have HX0 := Lib.hid X0; have HX1 := Lib.hid X1
  clear XW X0 X1
  have HR := Lib.hid (hr.next HWW.out); have HM := Lib.hid (hm.next HWW.out); have HC := Lib.hid (hC.next HWW.out)
  have HL := Lib.hid hlen; have HP := Lib.hid hp; have HE := Lib.hid he; have HSL := Lib.hid hsl
  clear hr hm hC hlen hp he hsl
  go_enter Try.func24, Try.ntmps24
  go_upto_region 1 with fail
  generalize ((w.alloc (.cells #[.int .i64 b.fl, .int .i64 b.deb, .int .i64 b.room, .int .i64 b.park, .float .f64 b.em, .float .f64 b.fu, .float .f64 b.ov, .slice q b.cars.length cap] 29)).alloc (.cells #[.slice a.p m.ph.length a.pc, .slice a.f m.fg.length a.fc, .slice a.l m.lv.length a.lc, .slice a.e m.en.length a.ec] 35)) = w0 at *
  generalize hg1 : w.heap.size + 1 = g1 at *
  have HG1 := Lib.hid hg1; have hq1 : w.heap.size + 1 ≤ g1 := by omega
  clear hg1
  have HW := Lib.hid (Below.refl w0.heap.size w0)
  have hz0 := HX0.out.lt; have hz1 := HX1.out.lt
  have k0 := (HX0.out).cell 0 _ rfl
  have k1 := (HX0.out).cell 1 _ rfl
  have k2 := (HX0.out).cell 2 _ rfl
  have k3 := (HX0.out).cell 3 _ rfl
  have k4 := (HX0.out).cell 4 _ rfl
  have k5 := (HX0.out).cell 5 _ rfl
  have k6 := (HX0.out).cell 6 _ rfl
  have k7 := (HX0.out).cell 7 _ rfl
  have y0 := (HX1.out).cell 0 _ rfl
  have y1 := (HX1.out).cell 1 _ rfl
  have y2 := (HX1.out).cell 2 _ rfl
  have y3 := (HX1.out).cell 3 _ rfl
  go_wp2_with fail
  refine (refIsImage_any b q cap m a w0 HL.out HSL.out HP.out HE.out HR.out HM.out).mono ?_
  rintro e w1 ⟨rfl, hb1⟩
  have HALL : Hid (∀ W, Below w1.heap.size w1 W → Blk W w.heap.size [.int .i64 b.fl, .int .i64 b.deb, .int .i64 b.room, .int .i64 b.park, .float .f64 b.em, .float .f64 b.fu, .float .f64 b.ov, .slice q b.cars.length cap] ∧ Blk W g1 [.slice a.p m.ph.length a.pc, .slice a.f m.fg.length a.fc, .slice a.l m.lv.length a.lc, .slice a.e m.en.length a.ec] ∧ RdM W m a ∧ RdX W qc (boolCells C) ∧ Below w.heap.size w W) := Lib.hid fun W h => by
    have h0 := hb1.trans (h.mono hb1.size)
    exact ⟨HX0.out.next h0, HX1.out.next h0, HM.out.next h0, HC.out.next h0, HWW.out.trans (h0.mono HWW.out.size)⟩
  have HW1 := Lib.hid (Below.refl w1.heap.size w1)
  clear hb1 HX0 HX1 HWW HR HM HC HW k0 k1 k2 k3 k4 k5 k6 k7 y0 y1 y2 y3
  have k7 := (HALL.out w1 HW1.out).1.cell 7 _ rfl
  have y0 := (HALL.out w1 HW1.out).2.1.cell 0 _ rfl; have y1 := (HALL.out w1 HW1.out).2.1.cell 1 _ rfl; have y2 := (HALL.out w1 HW1.out).2.1.cell 2 _ rfl; have y3 := (HALL.out w1 HW1.out).2.1.cell 3 _ rfl
  obtain ⟨nC, hnC⟩ : ∃ nC, C.length = nC := ⟨_, rfl⟩
  obtain ⟨n, hn⟩ : ∃ n, b.cars.length = n := ⟨_, rfl⟩
  rw [hnC]
  rw [hn] at k7
  have HF : Hid ((if imgB b m = true ∧ nC = n then autoN m C m.ph.length else []) = F) := Lib.hid (by rw [← HF0.out, autoF, hnC, hn])
  have HNC := Lib.hid hnC; have HN := Lib.hid hn
  clear hnC hn HF0
  cases hi : imgB b m
  · have HFF : Hid (F = []) := Lib.hid (by rw [← HF.out, hi]; simp)
    clear HF hi
    go_wp2_with fail
    go_ret
    exact ⟨_, rfl, (HALL.out _ HW1.out).2.2.2.2, by rw [HFF.out]; exact recR_nil _⟩
  have HI := Lib.hid hi
  rw [hi] at HF
  clear hi
  by_cases hcn : nC = n
  rotate_left 1
  · have c1 : ((nC : Int) != (n : Int)) = true := by simp; omega
    have HFF : Hid (F = []) := Lib.hid (by rw [← HF.out]; simp [hcn])
    clear HF hcn
    go_wp2_with fail
    go_ret
    exact ⟨_, rfl, (HALL.out _ HW1.out).2.2.2.2, by rw [HFF.out]; exact recR_nil _⟩
  subst hcn
  have HG := Lib.hid (imgB_facts HI.out)
  obtain ⟨N, hN⟩ : ∃ N, m.ph.length = N := ⟨_, rfl⟩
  have HFF : Hid (autoN m C N = F) := Lib.hid (by rw [← HF.out, hN]; simp)
  have HNN := Lib.hid hN
  have hNm : N ≤ 1000 := by rw [← hN]; exact HP.out
  rw [hN] at y0
  clear HF hN
  go_wp2_with fail
  clear k7 y0 y1 y2 y3
  go_loopw [7, 8] (fun v7 v wr => ∃ i : Nat, i ≤ N ∧ v = .int .i64 i ∧ wr.ownsRow w1.heap.size 47 5 v7 (autoN m C i).length (recCells (autoN m C i)) ∧ Below w1.heap.size w1 wr) (fun _ v _ => N - (intOf v).toNat)
  case atStart => exact ⟨0, by omega, rfl, World.ownsRow_nil _ _ _ _, Below.refl _ _⟩
  case round =>
    clear HW1
    obtain ⟨i, hi, rfl, hown, hb⟩ := hrel
    have HB := Lib.hid hb; have HO := Lib.hid hown
    clear hb hown
    have y0 := (HALL.out wr HB.out).2.1.cell 0 _ rfl
    by_cases hlt : i < N
    rotate_left 1
    · have hd : decide ((i : Int) < (m.ph.length : Int)) = false := by have := HNN.out; simp; omega
      have hd2 : ¬ i < m.ph.length := by have := HNN.out; omega
      obtain rfl : i = N := by omega
      go_wp2_with fail
      go_ret
      exact ⟨_, rfl, (HALL.out _ HB.out).2.2.2.2, by rw [← HFF.out]; exact recR_of HO.out⟩
    have hd : decide ((i : Int) < (m.ph.length : Int)) = true := by have := HNN.out; simp; omega
    obtain ⟨p, hp⟩ : ∃ p, m.ph[i]? = some p := ⟨_, List.getElem?_eq_getElem (by rw [HNN.out]; exact hlt)⟩
    obtain ⟨f, hf⟩ : ∃ f, m.fg[i]? = some f := ⟨_, List.getElem?_eq_getElem (by have := HG.out.2.1; have := HNN.out; omega)⟩
    obtain ⟨l, hl⟩ : ∃ l, m.lv[i]? = some l := ⟨_, List.getElem?_eq_getElem (by have := HG.out.1; have := HNN.out; omega)⟩
    obtain ⟨cm, hcm⟩ : ∃ x, C[i]? = some x := ⟨_, List.getElem?_eq_getElem (by have := HG.out.2.2.1; have := HNN.out; have := HNC.out; have := HN.out; omega)⟩
    have HS : Hid (autoN m C (i + 1) = autoN m C i ++ (if cm = true ∧ burdB m i = false ∧ (p = 1 ∨ (p = 4 ∧ l = true)) then [recP i 2] ++ (if p = 4 ∧ l = true then [recLv i 0] else []) ++ (if f then [recFl i] else []) else [])) := Lib.hid (by rw [autoN, autoC, phAt_of hp, lvAt_of hl, fgAt_of hf, hcm]; rfl)
    have HLN : Hid ((autoN m C i).length ≤ 3000) := Lib.hid (by have := autoN_len m C i; omega)
    have h5 := ph_five (HG.out.2.2.2 p (List.mem_of_getElem? hp))
    obtain ⟨A, hqA, _, cA⟩ := (HALL.out wr HB.out).2.2.1.1.it hp
    obtain ⟨B, hqB, _, cB⟩ := (HALL.out wr HB.out).2.2.1.2.2.1.bl hl
    obtain ⟨D, hqD, _, cD⟩ := (HALL.out wr HB.out).2.2.2.1.bl hcm
    have hi0 : (0 : Int) ≤ (i : Int) := by omega
    have hin : (i : Int) < (m.ph.length : Int) := by have := HNN.out; omega
    have hinN : (i : Int) < (N : Int) := by omega
    have hiv : (i : Int) < (m.lv.length : Int) := by have := HG.out.1; have := HNN.out; omega
    have hif : (i : Int) < (m.fg.length : Int) := by have := HG.out.2.1; have := HNN.out; omega
    have hic : (i : Int) < (nC : Int) := by have := HG.out.2.2.1; have := HNN.out; have := HN.out; omega
    have HFG := Lib.hid hf; have HPH := Lib.hid hp
    generalize autoN m C i = la at *
    clear hp hf hl hcm hlt
    have y1 := (HALL.out wr HB.out).2.1.cell 1 _ rfl
    have y2 := (HALL.out wr HB.out).2.1.cell 2 _ rfl
    have y3 := (HALL.out wr HB.out).2.1.cell 3 _ rfl
    rw [hqD]
    rw [hqA] at y0
    rw [hqB] at y2
    have HQA := Lib.hid hqA; have HQB := Lib.hid hqB
    clear hqA hqB hqD
    rcases h5 with rfl | rfl | rfl | rfl | rfl
    · cases cm
      · have HS2 : Hid (autoN m C (i + 1) = la) := Lib.hid (by rw [HS.out]; simp)
        clear HS
        go_wp2_with fail
        exact ⟨⟨i + 1, by omega, by go_num, by rw [HS2.out]; exact HO.out, HB.out⟩, by simp [intOf]; omega⟩
      · go_wp2_with fail
        have hM := (HALL.out _ HB.out).2.2.1
        replace hM : RdM wr m ⟨some A, a.pc, a.f, a.fc, some B, a.lc, a.e, a.ec⟩ := ⟨by rw [← HQA.out]; exact hM.1, hM.2.1, by rw [← HQB.out]; exact hM.2.2.1, hM.2.2.2⟩
        refine (unburdened_any m ⟨some A, a.pc, a.f, a.fc, some B, a.lc, a.e, a.ec⟩ i _ HE.out hM).mono ?_
        rintro e w5 ⟨rfl, hb5⟩
        have HO5 := Lib.hid (rowLater HO.out hb5); have HB5 := Lib.hid (HB.out.trans (hb5.mono HB.out.size))
        clear hM hb5 HO HB cA cB cD y0 y1 y2 y3 hd
        cases hbd : burdB m i
        · obtain ⟨A, hqA, _, cA⟩ := (HALL.out w5 HB5.out).2.2.1.1.it HPH.out
          have y0 := (HALL.out w5 HB5.out).2.1.cell 0 _ rfl
          rw [hqA] at y0
          clear hqA
          have HS2 : Hid (autoN m C (i + 1) = la) := Lib.hid (by rw [HS.out]; simp)
          clear HS hbd
          go_wp2_with fail
          exact ⟨⟨i + 1, by omega, by go_num, by rw [HS2.out]; exact HO5.out, HB5.out⟩, by simp [intOf]; omega⟩
        · have HS2 : Hid (autoN m C (i + 1) = la) := Lib.hid (by rw [HS.out]; simp)
          clear HS hbd
          go_wp2_with fail
          exact ⟨⟨i + 1, by omega, by go_num, by rw [HS2.out]; exact HO5.out, HB5.out⟩, by simp [intOf]; omega⟩
    · cases cm
      · have HS2 : Hid (autoN m C (i + 1) = la) := Lib.hid (by rw [HS.out]; simp)
        clear HS
        go_wp2_with fail
        exact ⟨⟨i + 1, by omega, by go_num, by rw [HS2.out]; exact HO.out, HB.out⟩, by simp [intOf]; omega⟩
      · go_wp2_with fail
        have hM := (HALL.out _ HB.out).2.2.1
        replace hM : RdM wr m ⟨some A, a.pc, a.f, a.fc, some B, a.lc, a.e, a.ec⟩ := ⟨by rw [← HQA.out]; exact hM.1, hM.2.1, by rw [← HQB.out]; exact hM.2.2.1, hM.2.2.2⟩
        refine (unburdened_any m ⟨some A, a.pc, a.f, a.fc, some B, a.lc, a.e, a.ec⟩ i _ HE.out hM).mono ?_
        rintro e w5 ⟨rfl, hb5⟩
        have HO5 := Lib.hid (rowLater HO.out hb5); have HB5 := Lib.hid (HB.out.trans (hb5.mono HB.out.size))
        clear hM hb5 HO HB cA cB cD y0 y1 y2 y3 hd
        cases hbd : burdB m i
        · obtain ⟨A, hqA, _, cA⟩ := (HALL.out w5 HB5.out).2.2.1.1.it HPH.out
          have y0 := (HALL.out w5 HB5.out).2.1.cell 0 _ rfl
          rw [hqA] at y0
          clear hqA
          go_wp2_with fail
          refine (refPhase_any i 2 _).mono ?_
          rintro e w9 ⟨v9, rfl, hb9, hr9⟩
          obtain ⟨q9, c9, rfl⟩ := recR_form hr9
          have HO9 := Lib.hid (rowLater HO5.out hb9); have HB9 := Lib.hid (HB5.out.trans (hb9.mono HB5.out.size)); have HR9 := Lib.hid (recR_out hr9)
          clear hb9 hr9
          go_wp2_with (at_builtin; refine app_rd rfl _ _ rfl la (recP i 2) _ rfl q9 c9 rfl HO9.out HB9.out (by have := HLN.out; omega) HR9.out ?_)
          intro v6 w6 ho6 hb6
          replace ho6 : w6.ownsRow w1.heap.size 47 5 v6 (la ++ [recP i 2]).length (recCells (la ++ [recP i 2])) := by simpa using ho6
          have HLN6 : Hid ((la ++ [recP i 2]).length ≤ 3006) := Lib.hid (by have := HLN.out; simp; omega)
          generalize hL6 : la ++ [recP i 2] = L6 at *
          have HL6 := Lib.hid hL6; have HO6 := Lib.hid ho6; have HB6 := Lib.hid hb6
          clear ho6 hb6 hL6
          obtain ⟨E, hqE, _, cE⟩ := (HALL.out w6 HB6.out).2.2.1.2.1.bl HFG.out
          have y1 := (HALL.out w6 HB6.out).2.1.cell 1 _ rfl
          rw [hqE] at y1
          clear hqE
          cases f
          · have HS2 : Hid (autoN m C (i + 1) = L6) := Lib.hid (by rw [HS.out, hbd, ← HL6.out]; simp)
            clear HS hbd
            go_wp2_with fail
            exact ⟨⟨i + 1, by omega, by go_num, by rw [HS2.out]; exact HO6.out, HB6.out⟩, by simp [intOf]; omega⟩
          · have HS2 : Hid (autoN m C (i + 1) = L6 ++ [recFl i]) := Lib.hid (by rw [HS.out, hbd, ← HL6.out]; simp)
            clear HS hbd
            go_wp2_with (at_builtin; refine app_new rfl _ _ rfl L6 (recFl i) _ rfl rfl HO6.out HB6.out (by have := HLN6.out; omega) ?_)
            intro v8 w8 ho8 hb8
            replace ho8 : w8.ownsRow w1.heap.size 47 5 v8 (L6 ++ [recFl i]).length (recCells (L6 ++ [recFl i])) := by simpa using ho8
            have HLN8 : Hid ((L6 ++ [recFl i]).length ≤ 3008) := Lib.hid (by have := HLN6.out; simp; omega)
            generalize hL8 : L6 ++ [recFl i] = L8 at *
            have HL8 := Lib.hid hL8; have HO8 := Lib.hid ho8; have HB8 := Lib.hid hb8
            clear ho8 hb8 hL8
            go_wp2_with fail
            exact ⟨⟨i + 1, by omega, by go_num, by rw [HS2.out]; exact HO8.out, HB8.out⟩, by simp [intOf]; omega⟩
        · have HS2 : Hid (autoN m C (i + 1) = la) := Lib.hid (by rw [HS.out]; simp [hbd])
          clear HS hbd
          go_wp2_with fail
          exact ⟨⟨i + 1, by omega, by go_num, by rw [HS2.out]; exact HO5.out, HB5.out⟩, by simp [intOf]; omega⟩
    · cases cm
      · have HS2 : Hid (autoN m C (i + 1) = la) := Lib.hid (by rw [HS.out]; simp)
        clear HS
        go_wp2_with fail
        exact ⟨⟨i + 1, by omega, by go_num, by rw [HS2.out]; exact HO.out, HB.out⟩, by simp [intOf]; omega⟩
      · go_wp2_with fail
        have hM := (HALL.out _ HB.out).2.2.1
        replace hM : RdM wr m ⟨some A, a.pc, a.f, a.fc, some B, a.lc, a.e, a.ec⟩ := ⟨by rw [← HQA.out]; exact hM.1, hM.2.1, by rw [← HQB.out]; exact hM.2.2.1, hM.2.2.2⟩
        refine (unburdened_any m ⟨some A, a.pc, a.f, a.fc, some B, a.lc, a.e, a.ec⟩ i _ HE.out hM).mono ?_
        rintro e w5 ⟨rfl, hb5⟩
        have HO5 := Lib.hid (rowLater HO.out hb5); have HB5 := Lib.hid (HB.out.trans (hb5.mono HB.out.size))
        clear hM hb5 HO HB cA cB cD y0 y1 y2 y3 hd
        cases hbd : burdB m i
        · obtain ⟨A, hqA, _, cA⟩ := (HALL.out w5 HB5.out).2.2.1.1.it HPH.out
          have y0 := (HALL.out w5 HB5.out).2.1.cell 0 _ rfl
          rw [hqA] at y0
          clear hqA
          have HS2 : Hid (autoN m C (i + 1) = la) := Lib.hid (by rw [HS.out]; simp)
          clear HS hbd
          go_wp2_with fail
          exact ⟨⟨i + 1, by omega, by go_num, by rw [HS2.out]; exact HO5.out, HB5.out⟩, by simp [intOf]; omega⟩
        · have HS2 : Hid (autoN m C (i + 1) = la) := Lib.hid (by rw [HS.out]; simp)
          clear HS hbd
          go_wp2_with fail
          exact ⟨⟨i + 1, by omega, by go_num, by rw [HS2.out]; exact HO5.out, HB5.out⟩, by simp [intOf]; omega⟩
    · cases cm
      · have HS2 : Hid (autoN m C (i + 1) = la) := Lib.hid (by rw [HS.out]; simp)
        clear HS
        go_wp2_with fail
        exact ⟨⟨i + 1, by omega, by go_num, by rw [HS2.out]; exact HO.out, HB.out⟩, by simp [intOf]; omega⟩
      · go_wp2_with fail
        have hM := (HALL.out _ HB.out).2.2.1
        replace hM : RdM wr m ⟨some A, a.pc, a.f, a.fc, some B, a.lc, a.e, a.ec⟩ := ⟨by rw [← HQA.out]; exact hM.1, hM.2.1, by rw [← HQB.out]; exact hM.2.2.1, hM.2.2.2⟩
        refine (unburdened_any m ⟨some A, a.pc, a.f, a.fc, some B, a.lc, a.e, a.ec⟩ i _ HE.out hM).mono ?_
        rintro e w5 ⟨rfl, hb5⟩
        have HO5 := Lib.hid (rowLater HO.out hb5); have HB5 := Lib.hid (HB.out.trans (hb5.mono HB.out.size))
        clear hM hb5 HO HB cA cB cD y0 y1 y2 y3 hd
        cases hbd : burdB m i
        · obtain ⟨A, hqA, _, cA⟩ := (HALL.out w5 HB5.out).2.2.1.1.it HPH.out
          have y0 := (HALL.out w5 HB5.out).2.1.cell 0 _ rfl
          rw [hqA] at y0
          clear hqA
          have HS2 : Hid (autoN m C (i + 1) = la) := Lib.hid (by rw [HS.out]; simp)
          clear HS hbd
          go_wp2_with fail
          exact ⟨⟨i + 1, by omega, by go_num, by rw [HS2.out]; exact HO5.out, HB5.out⟩, by simp [intOf]; omega⟩
        · have HS2 : Hid (autoN m C (i + 1) = la) := Lib.hid (by rw [HS.out]; simp)
          clear HS hbd
          go_wp2_with fail
          exact ⟨⟨i + 1, by omega, by go_num, by rw [HS2.out]; exact HO5.out, HB5.out⟩, by simp [intOf]; omega⟩
    · cases cm
      · have HS2 : Hid (autoN m C (i + 1) = la) := Lib.hid (by rw [HS.out]; simp)
        clear HS
        go_wp2_with fail
        exact ⟨⟨i + 1, by omega, by go_num, by rw [HS2.out]; exact HO.out, HB.out⟩, by simp [intOf]; omega⟩
      · cases l
        · go_wp2_with fail
          have hM := (HALL.out _ HB.out).2.2.1
          replace hM : RdM wr m ⟨some A, a.pc, a.f, a.fc, some B, a.lc, a.e, a.ec⟩ := ⟨by rw [← HQA.out]; exact hM.1, hM.2.1, by rw [← HQB.out]; exact hM.2.2.1, hM.2.2.2⟩
          refine (unburdened_any m ⟨some A, a.pc, a.f, a.fc, some B, a.lc, a.e, a.ec⟩ i _ HE.out hM).mono ?_
          rintro e w5 ⟨rfl, hb5⟩
          have HO5 := Lib.hid (rowLater HO.out hb5); have HB5 := Lib.hid (HB.out.trans (hb5.mono HB.out.size))
          clear hM hb5 HO HB cA cB cD y0 y1 y2 y3 hd
          cases hbd : burdB m i
          · obtain ⟨A, hqA, _, cA⟩ := (HALL.out w5 HB5.out).2.2.1.1.it HPH.out
            have y0 := (HALL.out w5 HB5.out).2.1.cell 0 _ rfl
            rw [hqA] at y0
            clear hqA
            have HS2 : Hid (autoN m C (i + 1) = la) := Lib.hid (by rw [HS.out]; simp)
            clear HS hbd
            go_wp2_with fail
            exact ⟨⟨i + 1, by omega, by go_num, by rw [HS2.out]; exact HO5.out, HB5.out⟩, by simp [intOf]; omega⟩
          · have HS2 : Hid (autoN m C (i + 1) = la) := Lib.hid (by rw [HS.out]; simp)
            clear HS hbd
            go_wp2_with fail
            exact ⟨⟨i + 1, by omega, by go_num, by rw [HS2.out]; exact HO5.out, HB5.out⟩, by simp [intOf]; omega⟩
        · go_wp2_with fail
          have hM := (HALL.out _ HB.out).2.2.1
          replace hM : RdM wr m ⟨some A, a.pc, a.f, a.fc, some B, a.lc, a.e, a.ec⟩ := ⟨by rw [← HQA.out]; exact hM.1, hM.2.1, by rw [← HQB.out]; exact hM.2.2.1, hM.2.2.2⟩
          refine (unburdened_any m ⟨some A, a.pc, a.f, a.fc, some B, a.lc, a.e, a.ec⟩ i _ HE.out hM).mono ?_
          rintro e w5 ⟨rfl, hb5⟩
          have HO5 := Lib.hid (rowLater HO.out hb5); have HB5 := Lib.hid (HB.out.trans (hb5.mono HB.out.size))
          clear hM hb5 HO HB cA cB cD y0 y1 y2 y3 hd
          cases hbd : burdB m i
          · obtain ⟨A, hqA, _, cA⟩ := (HALL.out w5 HB5.out).2.2.1.1.it HPH.out
            have y0 := (HALL.out w5 HB5.out).2.1.cell 0 _ rfl
            rw [hqA] at y0
            clear hqA
            go_wp2_with fail
            refine (refPhase_any i 2 _).mono ?_
            rintro e w9 ⟨v9, rfl, hb9, hr9⟩
            obtain ⟨q9, c9, rfl⟩ := recR_form hr9
            have HO9 := Lib.hid (rowLater HO5.out hb9); have HB9 := Lib.hid (HB5.out.trans (hb9.mono HB5.out.size)); have HR9 := Lib.hid (recR_out hr9)
            clear hb9 hr9
            go_wp2_with (at_builtin; refine app_rd rfl _ _ rfl la (recP i 2) _ rfl q9 c9 rfl HO9.out HB9.out (by have := HLN.out; omega) HR9.out ?_)
            intro v6 w6 ho6 hb6
            replace ho6 : w6.ownsRow w1.heap.size 47 5 v6 (la ++ [recP i 2]).length (recCells (la ++ [recP i 2])) := by simpa using ho6
            have HLN6 : Hid ((la ++ [recP i 2]).length ≤ 3006) := Lib.hid (by have := HLN.out; simp; omega)
            generalize hL6 : la ++ [recP i 2] = L6 at *
            have HL6 := Lib.hid hL6; have HO6 := Lib.hid ho6; have HB6 := Lib.hid hb6
            clear ho6 hb6 hL6
            go_wp2_with (at_builtin; refine app_new rfl _ _ rfl L6 (recLv i 0) _ rfl rfl HO6.out HB6.out (by have := HLN6.out; omega) ?_)
            intro v7 w7 ho7 hb7
            replace ho7 : w7.ownsRow w1.heap.size 47 5 v7 (L6 ++ [recLv i 0]).length (recCells (L6 ++ [recLv i 0])) := by simpa using ho7
            have HLN7 : Hid ((L6 ++ [recLv i 0]).length ≤ 3007) := Lib.hid (by have := HLN6.out; simp; omega)
            generalize hL7 : L6 ++ [recLv i 0] = L7 at *
            have HL7 := Lib.hid hL7; have HO7 := Lib.hid ho7; have HB7 := Lib.hid hb7
            clear ho7 hb7 hL7
            obtain ⟨E, hqE, _, cE⟩ := (HALL.out w7 HB7.out).2.2.1.2.1.bl HFG.out
            have y1 := (HALL.out w7 HB7.out).2.1.cell 1 _ rfl
            rw [hqE] at y1
            clear hqE
            cases f
            · have HS2 : Hid (autoN m C (i + 1) = L7) := Lib.hid (by rw [HS.out, hbd, ← HL7.out, ← HL6.out]; simp)
              clear HS hbd
              go_wp2_with fail
              exact ⟨⟨i + 1, by omega, by go_num, by rw [HS2.out]; exact HO7.out, HB7.out⟩, by simp [intOf]; omega⟩
            · have HS2 : Hid (autoN m C (i + 1) = L7 ++ [recFl i]) := Lib.hid (by rw [HS.out, hbd, ← HL7.out, ← HL6.out]; simp)
              clear HS hbd
              go_wp2_with (at_builtin; refine app_new rfl _ _ rfl L7 (recFl i) _ rfl rfl HO7.out HB7.out (by have := HLN7.out; omega) ?_)
              intro v8 w8 ho8 hb8
              replace ho8 : w8.ownsRow w1.heap.size 47 5 v8 (L7 ++ [recFl i]).length (recCells (L7 ++ [recFl i])) := by simpa using ho8
              have HLN8 : Hid ((L7 ++ [recFl i]).length ≤ 3008) := Lib.hid (by have := HLN7.out; simp; omega)
              generalize hL8 : L7 ++ [recFl i] = L8 at *
              have HL8 := Lib.hid hL8; have HO8 := Lib.hid ho8; have HB8 := Lib.hid hb8
              clear ho8 hb8 hL8
              go_wp2_with fail
              exact ⟨⟨i + 1, by omega, by go_num, by rw [HS2.out]; exact HO8.out, HB8.out⟩, by simp [intOf]; omega⟩
          · have HS2 : Hid (autoN m C (i + 1) = la) := Lib.hid (by rw [HS.out]; simp [hbd])
            clear HS hbd
            go_wp2_with fail
            exact ⟨⟨i + 1, by omega, by go_num, by rw [HS2.out]; exact HO5.out, HB5.out⟩, by simp [intOf]; omega⟩
end Go.Proofs.Ytgoojlfpngmdlaa
