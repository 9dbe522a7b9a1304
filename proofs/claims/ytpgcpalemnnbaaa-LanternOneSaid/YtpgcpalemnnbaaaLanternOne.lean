/- LanternOne: at each floor and in each direction at most one lantern is lit. Conditions: none. -/
import Derived.Test.YtpgcpalemnnbaaaLitLaw
import Derived.Test.YtpgcpalemnnbaaaSane23
import Derived.Test.YtpgcpalemnnbaaaViews23
import Derived.Test.YtpgcpalemnnbaaaArgsU
namespace Go.Proofs.Ytpgcpalemnnbaaa
open Go.ChangeShapes Go.WideShapes Go.ChangeAt Go.RowKit
attribute [local go_sem ↓] run_neq_cs run_eql_cs
attribute [local go_sem] run_store_float
def skB (nf f : Nat) (d : Int) : Bool := (((f : Int) == (nf : Int) - 1) && (d == 1)) || (((f : Int) == 0) && (d == 2))
set_option maxHeartbeats 8000000 in
set_option maxRecDepth 100000 in
theorem lanternOne_walk (n : Nat) (l : List Nat) (ql : Option Addr) (capl : Nat) (w : World) (hn : n < 256) (hl : l.length ≤ maxLen) (hu : RdU w ql l) :
    Calls Try.prog 4 #[.int .u8 n, .slice ql l.length capl] w fun e w' => e = .returned (.bool true) ∧ Below w.heap.size w w' := by
  have HL := Lib.hid hl; have HU := Lib.hid hu
  clear hl hu
  go_enter Try.func4, Try.ntmps4
  go_wp2_with fail
  have hB := b10_any n 200 w hn (by omega)
  change Calls _ _ #[.int .u8 n, .int .u8 200] _ _ at hB
  refine hB.mono ?_
  clear hB
  rintro e w1 ⟨g, cap, rfl, hg0, hg1, hr, hb⟩
  have hlc : (b10 n 200).cars.length = k10 n := cars10_len n 200
  have hkr := k10_range n
  have HSL := Lib.hid (slack10 n 200)
  have HF2 : Hid (2 ≤ (b10 n 200).fl ∧ (b10 n 200).fl ≤ 8) := Lib.hid (fl10_range n)
  have HVA := Lib.hid (valid10 n 200 (by omega))
  obtain ⟨k, hk⟩ : ∃ k, k10 n = k := ⟨_, rfl⟩
  rw [hk] at hlc hkr
  have HK := Lib.hid hlc
  have HR1 := Lib.hid hr; have HB1 := Lib.hid hb
  have HU1 := Lib.hid (HU.out.next hb)
  clear hr hb hlc hk HU
  generalize b10 n 200 = b at *
  go_upto_region 2 with fail
  have B5 := Blk.new w1 [.int .i64 b.fl, .int .i64 b.deb, .int .i64 b.room, .int .i64 b.park, .float .f64 b.em, .float .f64 b.fu, .float .f64 b.ov, .slice (some ⟨g, 0, none⟩) b.cars.length cap] 28
  have hb5 := below1' w1 (.cells #[.int .i64 b.fl, .int .i64 b.deb, .int .i64 b.room, .int .i64 b.park, .float .f64 b.em, .float .f64 b.fu, .float .f64 b.ov, .slice (some ⟨g, 0, none⟩) b.cars.length cap] 28)
  change Blk (w1.alloc (.cells #[.int .i64 b.fl, .int .i64 b.deb, .int .i64 b.room, .int .i64 b.park, .float .f64 b.em, .float .f64 b.fu, .float .f64 b.ov, .slice (some ⟨g, 0, none⟩) b.cars.length cap] 28)) _ _ at B5
  have HW2 := Lib.hid (HB1.out.trans (hb5.mono HB1.out.size))
  have HR2 := Lib.hid (HR1.out.next hb5)
  have HU2 := Lib.hid (HU1.out.next hb5)
  have HX2 := Lib.hid B5
  clear B5 hb5 HB1 HR1 HU1
  generalize w1.alloc (.cells #[.int .i64 b.fl, .int .i64 b.deb, .int .i64 b.room, .int .i64 b.park, .float .f64 b.em, .float .f64 b.fu, .float .f64 b.ov, .slice (some ⟨g, 0, none⟩) b.cars.length cap] 28) = w2 at *
  generalize w1.heap.size = g5 at *
  have k0 := (HX2.out).cell 0 _ rfl
  have k1 := (HX2.out).cell 1 _ rfl
  have k2 := (HX2.out).cell 2 _ rfl
  have k3 := (HX2.out).cell 3 _ rfl
  have k4 := (HX2.out).cell 4 _ rfl
  have k5 := (HX2.out).cell 5 _ rfl
  have k6 := (HX2.out).cell 6 _ rfl
  have k7 := (HX2.out).cell 7 _ rfl
  go_wp2_with fail
  refine (views23_any b (some ⟨g, 0, none⟩) cap l ql capl _ (by rw [HK.out]; omega) HL.out HF2.out.1 (by have := HF2.out.2; omega) HU2.out).mono ?_
  rintro e w4 ⟨v, V, rfl, hVk, hPP, hown, hb4⟩
  clear hPP
  obtain ⟨qv, capv, rfl⟩ := row_form hown
  have hVk' : V.length = k := by rw [hVk, HK.out]
  have HV4 := Lib.hid (rdV_of_owns hown)
  have HVK := Lib.hid hVk'
  rw [hVk']
  have HW4 := Lib.hid (HW2.out.trans (hb4.mono HW2.out.size)); have HR4 := Lib.hid (HR2.out.next hb4); have HX4 := Lib.hid (HX2.out.next hb4)
  clear hVk hVk' hown hb4 HW2 HR2 HX2 HU2 k0 k1 k2 k3 k4 k5 k6 k7
  go_upto_region 3 with fail
  have k0 := (HX4.out).cell 0 _ rfl
  have k1 := (HX4.out).cell 1 _ rfl
  have k2 := (HX4.out).cell 2 _ rfl
  have k3 := (HX4.out).cell 3 _ rfl
  have k4 := (HX4.out).cell 4 _ rfl
  have k5 := (HX4.out).cell 5 _ rfl
  have k6 := (HX4.out).cell 6 _ rfl
  have k7 := (HX4.out).cell 7 _ rfl
  rw [HK.out] at k7
  have hmk := run_mkC k (by omega)
  have HL1 : Hid (b.cars.length ≤ 1000) := Lib.hid (by rw [HK.out]; omega)
  have HOKL : Hid (lightOk b V (csZ k)) := Lib.hid ⟨HVA.out, by rw [HVK.out, HK.out], by rw [HK.out]; simp [csZ]⟩
  have HFF : Hid (lightF b V (csZ k) = lightK b V (csZ k) k ∧ lightE b V (csZ k) = 0) := Lib.hid (by rw [lightF, lightE, if_pos HOKL.out, if_pos HOKL.out, HVK.out]; exact ⟨rfl, rfl⟩)
  obtain ⟨F, hF⟩ : ∃ F, lightK b V (csZ k) k = F := ⟨_, rfl⟩
  rw [hF] at HFF
  have HFE := Lib.hid hF
  clear hF HOKL
  have HSS : Hid (∀ W, Below w4.heap.size w4 W → W.cell? ⟨g5, 0, none⟩ = some (.int .i64 b.fl) ∧ W.cell? ⟨g5, 1, none⟩ = some (.int .i64 b.deb) ∧ W.cell? ⟨g5, 2, none⟩ = some (.int .i64 b.room) ∧ W.cell? ⟨g5, 3, none⟩ = some (.int .i64 b.park) ∧ W.cell? ⟨g5, 4, none⟩ = some (.float .f64 b.em) ∧ W.cell? ⟨g5, 5, none⟩ = some (.float .f64 b.fu) ∧ W.cell? ⟨g5, 6, none⟩ = some (.float .f64 b.ov) ∧ W.cell? ⟨g5, 7, none⟩ = some (.slice (some ⟨g, 0, none⟩) k cap)) := Lib.hid fun W h => by
    have X := HX4.out.next h
    have x7 := X.cell 7 _ rfl
    rw [HK.out] at x7
    exact ⟨X.cell 0 _ rfl, X.cell 1 _ rfl, X.cell 2 _ rfl, X.cell 3 _ rfl, X.cell 4 _ rfl, X.cell 5 _ rfl, X.cell 6 _ rfl, x7⟩
  have HOC : Hid (∀ W B, Below w4.heap.size w4 W → W.ownsRow w4.heap.size 33 2 (.slice (some ⟨B, 0, none⟩) k k) k (csCells (csZ k)) → Calls Try.prog 12 #[.agg #[.int .i64 b.fl, .int .i64 b.deb, .int .i64 b.room, .int .i64 b.park, .float .f64 b.em, .float .f64 b.fu, .float .f64 b.ov, .slice (some ⟨g, 0, none⟩) k cap], .slice qv k capv, .slice (some ⟨B, 0, none⟩) k k] W fun e w' => ∃ q1 c1 q2 c2, e = .returned (.tuple #[cvL F q1 c1 q2 c2, .int .i64 0]) ∧ w'.ownsRow W.heap.size 33 2 (.slice q1 F.lit.length c1) F.lit.length (csCells F.lit) ∧ w'.ownsRow W.heap.size 4 1 (.slice q2 F.gong.length c2) F.gong.length (boolCells F.gong) ∧ Below W.heap.size W w') := Lib.hid fun W B h ho => by
    have hh := light_any b (some ⟨g, 0, none⟩) cap V qv capv (csZ k) (some ⟨B, 0, none⟩) k W HL1.out HSL.out (HR4.out.next h) (HV4.out.next h) (rdX_of_owns ho)
    rw [HFF.out.1, HFF.out.2, HVK.out, show (csZ k).length = k by simp [csZ]] at hh
    rw [← HK.out]
    rw [← HK.out] at hh
    exact hh
  go_cut [7, 8] from 20 to 29 (fun v4 v5 wx => lanP w4 F 0 v4 v5 wx)
  case first =>
    go_region_held3 (fun W : World => W.cell? ⟨g5, 0, none⟩ = some (.int .i64 b.fl) ∧ W.cell? ⟨g5, 1, none⟩ = some (.int .i64 b.deb) ∧ W.cell? ⟨g5, 2, none⟩ = some (.int .i64 b.room) ∧ W.cell? ⟨g5, 3, none⟩ = some (.int .i64 b.park) ∧ W.cell? ⟨g5, 4, none⟩ = some (.float .f64 b.em) ∧ W.cell? ⟨g5, 5, none⟩ = some (.float .f64 b.fu) ∧ W.cell? ⟨g5, 6, none⟩ = some (.float .f64 b.ov) ∧ W.cell? ⟨g5, 7, none⟩ = some (.slice (some ⟨g, 0, none⟩) k cap))
      ((refine HSS.out _ ?_
        repeat (with_reducible refine setB2 ?_ ?_; rotate_left; (first | exact Nat.le_refl _ | exact Nat.le_succ _ | exact T6.out.size))
        first
          | with_reducible exact drewB2 w4
          | with_reducible exact drewA2 w4 _
          | with_reducible exact drewAA2 w4 _ _
          | with_reducible exact T6.out
          | with_reducible exact below_al2 T6.out (Nat.le_refl _) _
          | with_reducible exact below_al2 (drewB2 w4) (Nat.le_refl _) _
          | with_reducible exact below_al2 (below_al2 (drewB2 w4) (Nat.le_refl _) _) (Nat.le_refl _) _))
      (first
        | (go_at_call 12
           refine (HOC.out _ _ ?_ ?_).mono ?_
           · first
               | with_reducible exact drewA2 w4 _
               | with_reducible exact drewAA2 w4 _ _
           · first
               | with_reducible exact ownsC_0 w4 k (by omega)
               | with_reducible exact ownsC_1 w4 k _ (by omega)
               | with_reducible exact ownsC_2 w4 k _ (by omega)
           rintro e w6 ⟨q1, c1, q2, c2, rfl, ho1, ho2, hb6⟩
           have T6 : Hid (Below w4.heap.size w4 w6) := Lib.hid (by first | with_reducible exact (drewA2 w4 _).trans (hb6.mono (drewA2 w4 _).size) | with_reducible exact (drewAA2 w4 _ _).trans (hb6.mono (drewAA2 w4 _ _).size))
           have c6 := base_cell hb6
           have z6 := base_frozen2 hb6))
    all_goals go_wp2_with fail
    all_goals go_meet
    all_goals
      first
        | exact lanP_A T6.out (by simp) ho1 ho2
        | exact lanP_B (xs := zL) rfl T6.out (Nat.le_succ _) (by simp) (blkL_1 hb6) ho1 ho2
        | exact lanP_B (xs := zL) rfl T6.out (Nat.le_refl _) (by simp; omega) (blkL_0 hb6) ho1 ho2
  case rest =>
    obtain ⟨g8, q1, c1, q2, c2, rfl, rfl, hg8, hB8, ho1, ho2, hb8⟩ := hcut
    obtain ⟨l1, l2⟩ := lightK_len b V (csZ k) k (by rw [HVK.out]; exact Nat.le_refl _) (by simp [csZ])
    rw [HFE.out] at l1 l2
    rw [l1] at ho1; rw [l2] at ho2
    unfold lanC at hB8
    rw [l1, l2] at hB8
    have HG8 := Lib.hid hB8
    have HW8 := Lib.hid (HW4.out.trans (hb8.mono HW4.out.size))
    have HX8 : Hid (Blk wc g5 [.int .i64 b.fl, .int .i64 b.deb, .int .i64 b.room, .int .i64 b.park, .float .f64 b.em, .float .f64 b.fu, .float .f64 b.ov, .slice (some ⟨g, 0, none⟩) k cap]) := Lib.hid (by have h := HX4.out.next hb8; rw [HK.out] at h; exact h)
    have HQ1 := Lib.hid (rdX_of_owns ho1); have HQ2 := Lib.hid (rdX_of_owns ho2); have HV8 := Lib.hid (HV4.out.next hb8)
    have HALL : Hid (∀ W, Below wc.heap.size wc W → Blk W g5 [.int .i64 b.fl, .int .i64 b.deb, .int .i64 b.room, .int .i64 b.park, .float .f64 b.em, .float .f64 b.fu, .float .f64 b.ov, .slice (some ⟨g, 0, none⟩) k cap] ∧ Blk W g8 [.slice q1 k c1, .slice q2 k c2, .int .u32 (F.clr.1.toNat : Int), .int .u32 (F.clr.2.toNat : Int)] ∧ RdV W qv V ∧ RdX W q1 (csCells F.lit) ∧ RdX W q2 (boolCells F.gong)) := Lib.hid fun W h => ⟨HX8.out.next h, HG8.out.next h, HV8.out.next h, HQ1.out.next h, HQ2.out.next h⟩
    have HCL : Hid (∀ (f : Nat) (d : Int), (f : Int) < b.fl → (d = 1 ∨ d = 2) → ¬ ((f : Int) = b.fl - 1 ∧ d = 1) → ¬ ((f : Int) = 0 ∧ d = 2) → callB b f d = true) := Lib.hid (by
      intro f d hf hd h1 h2
      simp only [callB, HVA.out, isCallB, inR]
      rcases hd with rfl | rfl
      · have : (f : Int) ≤ b.fl - 2 := by omega
        simp [this]
      · have : 1 ≤ (f : Int) ∧ (f : Int) ≤ b.fl - 1 := by omega
        simp [this])
    generalize hwc : wc = w8 at *
    clear hwc ho1 ho2 hB8 hb8 HSS HOC hmk k0 k1 k2 k3 k4 k5 k6 k7 HX4 HV4 HR4 HW4 HQ1 HQ2 HV8 HX8 l1 l2
    obtain ⟨nf, hnf⟩ := Int.eq_ofNat_of_zero_le (show 0 ≤ b.fl by have := HF2.out.1; omega)
    have hf2 : 2 ≤ nf ∧ nf ≤ 8 := by have := HF2.out; omega
    have HNF := Lib.hid hnf
    clear hnf
    have s0 := (HG8.out).cell 0 _ rfl
    have s1 := (HG8.out).cell 1 _ rfl
    have s2 := (HG8.out).cell 2 _ rfl
    have s3 := (HG8.out).cell 3 _ rfl
    go_wp2_with fail
    clear s0 s1 s2 s3
    go_loopw [9] (fun v wr => ∃ f : Nat, f ≤ nf ∧ v = .int .i64 f ∧ Below w8.heap.size w8 wr) (fun v _ => nf - (intOf v).toNat)
    case atStart => exact ⟨0, by omega, rfl, Below.refl _ _⟩
    case round =>
      obtain ⟨f, hf, rfl, hb⟩ := hrel
      have HB := Lib.hid hb
      clear hb
      have j0 : wr.cell? ⟨g5, 0, none⟩ = some (.int .i64 (nf : Int)) := by rw [← HNF.out]; exact (HALL.out wr HB.out).1.cell 0 _ rfl
      by_cases hlt : f < nf
      · have hd : decide ((f : Int) < (nf : Int)) = true := by simp; omega
        have hf0 : (0 : Int) ≤ (f : Int) := by omega
        go_wp2_with fail
        clear j0 hd
        go_loopw [10] (fun v wr => ∃ d : Int, (d = 1 ∨ d = 2 ∨ d = 3) ∧ v = .int .i64 d ∧ Below w8.heap.size w8 wr) (fun v _ => (3 - intOf v).toNat)
        case atStart => exact ⟨1, .inl rfl, rfl, HB.out⟩
        case round =>
          clear HB
          obtain ⟨d, hd, rfl, hb⟩ := hrel
          have HB := Lib.hid hb
          clear hb
          have j0 : wr.cell? ⟨g5, 0, none⟩ = some (.int .i64 (nf : Int)) := by rw [← HNF.out]; exact (HALL.out wr HB.out).1.cell 0 _ rfl
          by_cases h3 : d = 3
          · subst h3
            go_wp2_with fail
            exact ⟨⟨f + 1, by omega, by go_num, HB.out⟩, by simp [intOf]; omega⟩
          · have hd12 : d = 1 ∨ d = 2 := by omega
            have hle : decide (d ≤ 2) = true := by simp; omega
            have HD12 := Lib.hid hd12
            clear hd h3
            go_upto_region 12 with fail
            clear hle
            go_cut [74] from 58 to 74 (fun v wx => v = .bool (skB nf f d) ∧ wx = wr)
            case first =>
              cases e1 : ((f : Int) == (nf : Int) - 1) <;> cases e2 : ((f : Int) == 0) <;> rcases HD12.out with rfl | rfl
              all_goals
                have E1 := Lib.hid e1; have E2 := Lib.hid e2
                go_wp2_with fail
                go_meet
                exact ⟨by rw [skB, E1.out, E2.out]; rfl, rfl⟩
            case rest =>
              obtain ⟨rfl, hwq⟩ := hcut
              subst hwq
              cases hsk : skB nf f d
              rotate_left 1
              · clear hsk
                go_wp2_with fail
                exact ⟨⟨d + 1, by rcases HD12.out with rfl | rfl <;> omega, rfl, HB.out⟩, by rcases HD12.out with rfl | rfl <;> simp [intOf]⟩
              · have hcb : callB b f d = true := HCL.out f d (by rw [HNF.out]; omega) HD12.out (fun h => by rw [HNF.out] at h; simp [skB, h.1, h.2] at hsk) (fun h => by simp [skB, h.1, h.2] at hsk)
                have HCB := Lib.hid hcb
                clear hsk hcb j0
                go_wp2_with fail
                have hf32 : f < 32 := by omega
                have HB0 := HB
                go_loopw [11, 12, 13] (fun v11 v12 v13 wr => ∃ i : Nat, i ≤ k ∧ v13 = .int .i64 i ∧ v12 = .bool (shB V f d i) ∧ v11 = .int .i64 (if shB V f d i then 1 else 0) ∧ Below w8.heap.size w8 wr) (fun _ _ v _ => k - (intOf v).toNat)
                case atStart => exact ⟨0, by omega, rfl, rfl, rfl, HB0.out⟩
                case round =>
                  clear HB HB0
                  obtain ⟨i, hi, rfl, rfl, rfl, hb⟩ := hrel
                  have HB := Lib.hid hb
                  clear hb
                  obtain ⟨_, hL8, hrv, hr1, hr2⟩ := HALL.out wr HB.out
                  have y0 := hL8.cell 0 _ rfl
                  have HL8 := Lib.hid hL8
                  clear hL8
                  by_cases hik : i < k
                  · have hdk : decide ((i : Int) < (k : Int)) = true := by simp; omega
                    obtain ⟨v, hv⟩ : ∃ v, V[i]? = some v := ⟨_, List.getElem?_eq_getElem (by rw [HVK.out]; exact hik)⟩
                    have hz : (csZ k)[i]? = some (0#32, 0#32) := by rw [csZ, List.getElem?_replicate, if_pos hik]
                    have hla := (lit_at b V (csZ k) (by rw [HVK.out]; simp [csZ]) k (by rw [HVK.out]; exact Nat.le_refl _) i v _ hik hv hz).1
                    rw [HFE.out] at hla
                    have hch := clr_has b V (csZ k) f d hf32 HD12.out HCB.out (by rw [HVK.out]; simp [csZ]) i (by rw [HVK.out]; omega)
                    have hlh := has_minus3 (calledC b v) (lightK b V (csZ k) i).clr f d hf32 HD12.out
                    rw [called_has b v f d hf32 HD12.out HCB.out, hch] at hlh
                    have HSU := Lib.hid (shB_succ V f d i v hv)
                    have HLH := Lib.hid hlh
                    obtain ⟨A1, hA1, _, p0, p1⟩ := hr1.cs hla
                    obtain ⟨A, hqA, hA, hcc⟩ := hrv i v hv
                    subst hA1
                    subst hqA
                    have HXX : Hid (∀ W, Below w8.heap.size w8 W → W.cell? ⟨(A.add (i * 12)).block, (A.add (i * 12)).off + 1, none⟩ = some (.bool v.sv) ∧ W.cell? ⟨(A.add (i * 12)).block, (A.add (i * 12)).off + 7, none⟩ = some (.int .u32 (v.sh.1.toNat : Int)) ∧ W.cell? ⟨(A.add (i * 12)).block, (A.add (i * 12)).off + 8, none⟩ = some (.int .u32 (v.sh.2.toNat : Int))) := Lib.hid (fun W h => by
                      obtain ⟨A', hq', _, hcc'⟩ := (HALL.out W h).2.2.1 i v hv
                      obtain rfl : A = A' := by simpa using hq'
                      exact ⟨by rw [← addr_one]; exact hcc' 1 _ rfl, by rw [← addr_one]; exact hcc' 7 _ rfl, by rw [← addr_one]; exact hcc' 8 _ rfl⟩)
                    have hi0 : (0 : Int) ≤ (i : Int) := by omega
                    have hi1 : (i : Int) < (k : Int) := by omega
                    clear hcc hA hv hz hla hch hrv hr1 hr2 hlh
                    generalize minus (calledC b v) (lightK b V (csZ k) i).clr = c at *
                    obtain ⟨_, x7, x8⟩ := HXX.out wr HB.out
                    cases hsh : shB V f d i
                    rotate_left 1
                    · have HC : Hid (has c f d = false) := Lib.hid (by rw [HLH.out, hsh]; simp)
                      have HS2 : Hid (shB V f d (i + 1) = true) := Lib.hid (by rw [HSU.out, hsh]; rfl)
                      clear hsh
                      go_wp2_with fail
                      refine (calls_bool (refHas_any c f d _) HC.out).mono ?_
                      rintro e w10 ⟨rfl, hb10⟩
                      have HB10 := Lib.hid (HB.out.trans (hb10.mono HB.out.size))
                      clear hb10 p0 p1 x7 x8 y0
                      go_wp2_with fail
                      exact ⟨⟨i + 1, by omega, by go_num, by rw [HS2.out], by rw [HS2.out]; rfl, HB10.out⟩, by simp [intOf]; omega⟩
                    · cases hsv : v.sv
                      · have HC : Hid (has c f d = false) := Lib.hid (by rw [HLH.out, hsv]; simp)
                        have HS2 : Hid (shB V f d (i + 1) = false) := Lib.hid (by rw [HSU.out, hsh, hsv]; rfl)
                        have HSV := Lib.hid hsv
                        clear hsh hsv
                        go_wp2_with fail
                        refine (calls_bool (refHas_any c f d _) HC.out).mono ?_
                        rintro e w10 ⟨rfl, hb10⟩
                        have HB10 := Lib.hid (HB.out.trans (hb10.mono HB.out.size))
                        clear hb10 p0 p1 x7 x8 y0
                        obtain ⟨x1, x7, x8⟩ := HXX.out w10 HB10.out
                        rw [HSV.out] at x1
                        go_wp2_with fail
                        exact ⟨⟨i + 1, by omega, by go_num, by rw [HS2.out], by rw [HS2.out]; rfl, HB10.out⟩, by simp [intOf]; omega⟩
                      · cases hhs : has v.sh f d
                        · have HC : Hid (has c f d = false) := Lib.hid (by rw [HLH.out, hhs]; simp)
                          have HS2 : Hid (shB V f d (i + 1) = false) := Lib.hid (by rw [HSU.out, hsh, hhs]; simp)
                          have HSV := Lib.hid hsv; have HHS := Lib.hid hhs
                          clear hsh hsv hhs
                          go_wp2_with fail
                          refine (calls_bool (refHas_any c f d _) HC.out).mono ?_
                          rintro e w10 ⟨rfl, hb10⟩
                          have HB10 := Lib.hid (HB.out.trans (hb10.mono HB.out.size))
                          clear hb10 p0 p1 x7 x8 y0
                          obtain ⟨x1, x7, x8⟩ := HXX.out w10 HB10.out
                          rw [HSV.out] at x1
                          go_wp2_with fail
                          refine (calls_bool (refHas_any v.sh f d _) HHS.out).mono ?_
                          rintro e w11 ⟨rfl, hb11⟩
                          have HB11 := Lib.hid (HB10.out.trans (hb11.mono HB10.out.size))
                          clear hb11 x1 x7 x8
                          go_wp2_with fail
                          exact ⟨⟨i + 1, by omega, by go_num, by rw [HS2.out], by rw [HS2.out]; rfl, HB11.out⟩, by simp [intOf]; omega⟩
                        · have HC : Hid (has c f d = true) := Lib.hid (by rw [HLH.out, hhs, hsv, hsh]; rfl)
                          have HS2 : Hid (shB V f d (i + 1) = true) := Lib.hid (by rw [HSU.out, hsh, hhs, hsv]; rfl)
                          have HSV := Lib.hid hsv; have HHS := Lib.hid hhs
                          clear hsh hsv hhs
                          go_wp2_with fail
                          refine (calls_bool (refHas_any c f d _) HC.out).mono ?_
                          rintro e w10 ⟨rfl, hb10⟩
                          have HB10 := Lib.hid (HB.out.trans (hb10.mono HB.out.size))
                          clear hb10 p0 p1 x7 x8 y0
                          obtain ⟨x1, x7, x8⟩ := HXX.out w10 HB10.out
                          rw [HSV.out] at x1
                          go_wp2_with fail
                          refine (calls_bool (refHas_any v.sh f d _) HHS.out).mono ?_
                          rintro e w11 ⟨rfl, hb11⟩
                          have HB11 := Lib.hid (HB10.out.trans (hb11.mono HB10.out.size))
                          clear hb11 x1 x7 x8
                          obtain ⟨x1, x7, x8⟩ := HXX.out w11 HB11.out
                          rw [HSV.out] at x1
                          go_wp2_with fail
                          refine (calls_bool (refHas_any v.sh f d _) HHS.out).mono ?_
                          rintro e w12 ⟨rfl, hb12⟩
                          have HB12 := Lib.hid (HB11.out.trans (hb12.mono HB11.out.size))
                          clear hb12 x1 x7 x8
                          go_wp2_with fail
                          exact ⟨⟨i + 1, by omega, by go_num, by rw [HS2.out], by rw [HS2.out]; rfl, HB12.out⟩, by simp [intOf]; omega⟩
                  · have hdk : decide ((i : Int) < (k : Int)) = false := by simp; omega
                    obtain rfl : i = k := by omega
                    have hch := clr_has b V (csZ i) f d hf32 HD12.out HCB.out (by rw [HVK.out]; simp [csZ]) i (by rw [HVK.out]; exact Nat.le_refl _)
                    rw [HFE.out] at hch
                    have s2 := HL8.out.cell 2 _ rfl; have s3 := HL8.out.cell 3 _ rfl
                    clear hrv hr1 hr2 y0
                    cases hsh : shB V f d i
                    all_goals
                      rw [hsh] at hch
                      have HC := Lib.hid hch
                      clear hch hsh
                      go_wp2_with fail
                      refine (calls_bool (refHas_any F.clr f d _) HC.out).mono ?_
                      rintro e w10 ⟨rfl, hb10⟩
                      have HB10 := Lib.hid (HB.out.trans (hb10.mono HB.out.size))
                      clear hb10 s2 s3
                      go_wp2_with fail
                      exact ⟨⟨d + 1, by rcases HD12.out with rfl | rfl <;> omega, rfl, HB10.out⟩, by rcases HD12.out with rfl | rfl <;> simp [intOf]⟩
      · have hd : decide ((f : Int) < (nf : Int)) = false := by simp; omega
        go_wp2_with fail
        clear j0 hd
        go_loopw [14] (fun v wr => ∃ i : Nat, i ≤ k ∧ v = .int .i64 i ∧ Below w8.heap.size w8 wr) (fun v _ => k - (intOf v).toNat)
        case atStart => exact ⟨0, by omega, rfl, HB.out⟩
        case round =>
          clear HB
          obtain ⟨i, hi, rfl, hb⟩ := hrel
          have HB := Lib.hid hb
          clear hb
          by_cases hik : i < k
          · have hdk : decide ((i : Int) < (k : Int)) = true := by simp; omega
            obtain ⟨v, hv⟩ : ∃ v, V[i]? = some v := ⟨_, List.getElem?_eq_getElem (by rw [HVK.out]; exact hik)⟩
            have hz : (csZ k)[i]? = some (0#32, 0#32) := by rw [csZ, List.getElem?_replicate, if_pos hik]
            obtain ⟨hla, hlg⟩ := lit_at b V (csZ k) (by rw [HVK.out]; simp [csZ]) k (by rw [HVK.out]; exact Nat.le_refl _) i v _ hik hv hz
            rw [HFE.out] at hla hlg
            rw [newB_zero] at hlg
            obtain ⟨_, hL8, _, hr1, hr2⟩ := HALL.out wr HB.out
            have HL8 := Lib.hid hL8
            obtain ⟨A1, hA1, _, p0, p1⟩ := hr1.cs hla
            obtain ⟨A2, hA2, _, p2⟩ := hr2.bl hlg
            subst hA1
            subst hA2
            have hi0 : (0 : Int) ≤ (i : Int) := by omega
            have hi1 : (i : Int) < (k : Int) := by omega
            clear hL8 hr1 hr2 hv hz hla hlg
            generalize minus (calledC b v) (lightK b V (csZ k) i).clr = c at *
            replace p0 : ∀ W, Grow.Cl wr.drew W → _ := fun W h => cell_later (Grow.Cl.base h) p0
            replace p1 : ∀ W, Grow.Cl wr.drew W → _ := fun W h => cell_later (Grow.Cl.base h) p1
            replace p2 : ∀ W, Grow.Cl wr.drew W → _ := fun W h => cell_later (Grow.Cl.base h) p2
            have y0 := (HL8.out).reg 0 _ rfl
            have y1 := (HL8.out).reg 1 _ rfl
            go_upto_region 27 with fail
            clear hdk
            (refine Grow.wp_region Grow.noPlan Grow.noPlan_stable (by kernel_rfl) (by kernel_rfl) ?_; intro opsq Hopsq)
            repeat (first | (refine Grow.lex_move rfl ?_ rfl ?_; (· first | exact Grow.wanted_none | (rw [Hopsq.out]; rfl)); intro K hK; simp only [Grow.put_lit, Grow.setAt, Grow.eval_lit, Grow.ev]; refine hK _ _ ?_; clear hK K) | (refine Grow.lex_assign rfl ?_ rfl ?_; (· first | exact Grow.wanted_none | (rw [Hopsq.out]; rfl)); intro K hK; simp only [Grow.put_lit, Grow.setAt, Grow.eval_lit, Grow.ev]; refine hK _ _ ?_; clear hK K) | (refine Grow.lex_plain rfl rfl ?_ rfl ?_; (· first | exact Grow.wanted_none | (rw [Hopsq.out]; rfl)); apply Exists.intro; refine ⟨fun wq hCq _ => ?_, ?_⟩; (· (go_wp2_with fail; refine ⟨rfl, Below.refl _ _, ?_⟩; simp only [Grow.getD_lit, Grow.nth]; rfl)); intro K hK; simp only [Grow.put_lit, Grow.setAt]; refine hK _ _ ?_; clear hK K) | (refine Grow.lex_nilCheck rfl rfl ?_ rfl ?_; (· first | exact Grow.wanted_none | (rw [Hopsq.out]; rfl)); intro K hK; simp only [Grow.put_lit, Grow.setAt]; refine hK _ _ ?_; clear hK K) | (refine Grow.lex_skip ?_ ?_; (· (rw [Hopsq.out]; rfl)); intro K hK; simp only [Grow.put_lit, Grow.setAt]; refine hK _ _ ?_; clear hK K))
            (refine Grow.lex_nil ?_; intro w10 hb10 _; replace hb10 := Grow.Cl.base hb10; clear Hopsq opsq)
            have HB10 := Lib.hid (HB.out.trans (hb10.mono HB.out.size))
            clear hb10 p0 p1 p2 y0 y1
            go_wp2_with fail
            exact ⟨⟨i + 1, by omega, by go_num, HB10.out⟩, by simp [intOf]; omega⟩
          · have hdk : decide ((i : Int) < (k : Int)) = false := by simp; omega
            have HW9 := Lib.hid (HW8.out.trans (HB.out.mono HW8.out.size))
            go_wp2_with fail
            refine (sane23_any _).mono ?_
            rintro e w11 ⟨rfl, hb11⟩
            go_wp2_with fail
            go_ret
            exact ⟨rfl, HW9.out.trans (hb11.mono HW9.out.size)⟩
set_option maxHeartbeats 1000000 in
set_option maxRecDepth 100000 in
theorem lanternOne_lifted (os : Os) (started : os.Started) (H : Type) (enc : TypeId × Value → H) :
    ReturnsInHanded {} Try.checked os 4 .any (Rows.lanternOneSpec.pre6 enc Try.prog Try.f4 Rows.lanternOneRow.domain false) (Rows.lanternOneSpec.post enc Try.prog Try.f4 false true false false) := by
  refine law_lifted (C := Try.checked) own laidOut started (by kernel_rfl) Try.func4 4 rfl Try.underlying4 (by kernel_rfl) rfl H enc
    (fun ds h => by match ds, h with | [d0, d1], _ => rfl)
    (ChangeSpec.witness6 (enc := enc) (C := Try.checked) false ⟨#[], #[.int .u8 0, .slice none 0 0], []⟩ 8 (by kernel_rfl) (by kernel_rfl) (by kernel_rfl) (by kernel_rfl)) ?_
  intro W base args ds ps hval hA hsz
  have hA' : DataW.TrodAll enc Try.prog W 0 (fun _ => true) true Try.f4.params.toList args.toList ds ps := hA
  have hval' : ∀ (j : Nat) t v, Try.f4.params[j]? = some t → args[j]? = some v → Value.okWide Try.prog W .any base t v := hval
  rw [Try.params4] at hA' hval'
  obtain ⟨v0, vs0, d0, ds0, p0, q0, hargs, rfl, rfl, h0, r0⟩ := trodAll_cons hA'
  obtain ⟨v1, vs1, d1, ds1, p1, q1, rfl, rfl, rfl, h1, r1⟩ := trodAll_cons r0
  obtain ⟨rfl, rfl, rfl⟩ := trodAll_nil r1
  obtain rfl : args = #[v0, v1] := by cases args; simp_all
  obtain ⟨x0, rfl, rfl, rfl, wx0⟩ := open_int Try.underlying5 (hval' 0 5 v0 rfl rfl) h0
  obtain ⟨l1, q1x, cap1, rfl, hl1, hu1⟩ := open_u8s (hval' 1 22 v1 rfl rfl) h1
  (obtain ⟨m0, rfl, hm0⟩ := u8_wf wx0; exact lanternOne_walk m0 l1 q1x cap1 W hm0 hl1 hu1)

theorem lanternOne_over : Rows.lanternOneRow.holds Try.pinned (OpenSpec.ofChange Rows.lanternOneSpec) :=
  OpenClaim.holds_of_wide 4 Try.f4 rfl rfl rfl rfl rfl rfl rfl ⟨rfl, rfl, rfl, rfl, rfl⟩ rfl rfl rfl rfl rfl (by kernel_rfl) Try.func4 (by kernel_rfl)
    (of_decide_eq_true (by kernel_rfl)) (by unfold Func.isWrapper; first | (rw [if_pos (by decide +kernel)]; kernel_rfl) | (rw [if_neg (by decide +kernel)]; exact ⟨rfl, rfl⟩))
    (fun os started H enc _ => lanternOne_lifted os started H enc)

/-- THE STATEMENT. -/
theorem lanternOne_holds : Rows.LanternOneSaid := lanternOne_over
#print axioms lanternOne_holds
end Go.Proofs.Ytpgcpalemnnbaaa
