/- The sanity check of chapter 19 answers true. Conditions: none. -/
import Derived.Test.YtnnkldidlgiipaaKeep19
import Derived.Test.YtnnkldidlgiipaaInjNew
import Derived.Deep.RegionWith
namespace Go.Proofs.Ytnnkldidlgiipaa
open Go.RowKit
attribute [local go_sem] run_store_float
def duZ (i : Nat) : List Duty := if i ≤ 5 then [(0, 1, (i : Int))] else []
def zB (i : Nat) : BelV := if i = 0 then oneB else ⟨0, 0, 2, duZ i, i, decide (i = 6)⟩
theorem b4_fl : (b18 0 4).fl = 2 := rfl
theorem b4_len : (b18 0 4).cars.length = 1 := rfl
theorem b4_dl : dlOf (b18 0 4) 0 = 5 := rfl
theorem b4_qu : quOf (b18 0 4) 0 = 6 := rfl
theorem b4_call : callB (b18 0 4) 0 1 = true := by unfold callB; rw [valid18]; rfl
theorem zB_head (fl dir door st : Int) (du : List Duty) (late : Bool) (h : (late && decide (0 < du.length)) = false) (h1 : inR (-1) 1 fl = true) (h2 : inR 0 3 dir = true) (h3 : inR 0 3 door = true) (h4 : inR 0 1000000 st = true) : headB (b18 0 4) 0 ⟨fl, dir, door, du, st, late⟩ = true := by
  unfold headB
  show (decide (validN (b18 0 4) = 0) && inR 0 (((b18 0 4).cars.length : Int) - 1) 0 && inR (-1) ((b18 0 4).fl - 1) fl && inR 0 3 dir && inR 0 3 door && inR 0 1000000 st && !(late && decide (0 < du.length))) = true
  rw [valid18, h, h2, h3, h4, b4_fl, show inR (-1) (2 - 1) fl = true from h1, b4_len]
  rfl
theorem zB_du (i : Nat) (hi : i ≤ 5) : dutiesB (b18 0 4) (dlOf (b18 0 4) 0) [(0, 1, (i : Int))] 1 = true := by
  show ([0] : List Nat).all (stepB (b18 0 4) (dlOf (b18 0 4) 0) [(0, 1, (i : Int))]) = true
  have : stepB (b18 0 4) (dlOf (b18 0 4) 0) [(0, 1, (i : Int))] 0 = true := by
    show (callB (b18 0 4) 0 1 && inR 0 (dlOf (b18 0 4) 0) (i : Int) && true) = true
    rw [b4_call, b4_dl, (inR_iff _ _ _).2 ⟨by omega, by omega⟩]
    rfl
  simp [this]
theorem zB_state (i : Nat) (h6 : i ≤ 6) : stateB (b18 0 4) 0 (zB i) = true := by
  unfold zB
  split
  · rename_i h
    subst h
    unfold stateB
    show (headB (b18 0 4) 0 oneB && dutiesB (b18 0 4) (dlOf (b18 0 4) 0) [(0, 1, ((0 : Nat) : Int))] 1) = true
    rw [zB_du 0 (by omega)]
    unfold oneB
    rw [zB_head _ _ _ _ _ _ rfl rfl rfl rfl rfl]; rfl
  · unfold stateB duZ
    by_cases h : i ≤ 5
    · show (headB (b18 0 4) 0 ⟨0, 0, 2, if i ≤ 5 then [(0, 1, (i : Int))] else [], i, decide (i = 6)⟩ && dutiesB (b18 0 4) (dlOf (b18 0 4) 0) (if i ≤ 5 then [(0, 1, (i : Int))] else []) (if i ≤ 5 then [(0, 1, (i : Int))] else [] : List Duty).length) = true
      rw [if_pos h]
      rw [zB_head _ _ _ _ _ _ (by rw [decide_eq_false (by omega)]; rfl) rfl rfl rfl ((inR_iff _ _ _).2 ⟨by omega, by omega⟩)]
      exact zB_du i h
    · show (headB (b18 0 4) 0 ⟨0, 0, 2, if i ≤ 5 then [(0, 1, (i : Int))] else [], i, decide (i = 6)⟩ && dutiesB (b18 0 4) (dlOf (b18 0 4) 0) (if i ≤ 5 then [(0, 1, (i : Int))] else []) (if i ≤ 5 then [(0, 1, (i : Int))] else [] : List Duty).length) = true
      rw [if_neg h]
      rw [zB_head _ _ _ _ _ _ (by simp) rfl rfl rfl ((inR_iff _ _ _).2 ⟨by omega, by omega⟩)]
      rfl
theorem zB_obs (i : Nat) (hi : i < 6) : observeV (b18 0 4) 0 (zB i) (0, 0, 2) = zB (i + 1) ∧ obsOk (b18 0 4) 0 (zB i) (0, 0, 2) = true := by
  have hs := zB_state i (by omega)
  have ho : obsB (b18 0 4).fl (0, 0, 2) = true := by rw [b4_fl]; decide
  have hok : obsOk (b18 0 4) 0 (zB i) (0, 0, 2) = true := by unfold obsOk; rw [hs, ho]; rfl
  refine ⟨?_, hok⟩
  have hsh : showsV (b18 0 4).fl (0, 0, 2) = (0#32, 0#32) := by rw [b4_fl]; decide
  have hha : has (0#32, 0#32) 0 1 = false := by decide +kernel
  have hdu : (zB i).du = [(0, 1, (i : Int))] := by
    unfold zB duZ
    split
    · rename_i h; subst h; rfl
    · show (if i ≤ 5 then _ else _) = _; rw [if_pos (by omega)]
  have hst : (zB i).still = (i : Int) := by
    unfold zB; split
    · rename_i h; subst h; rfl
    · rfl
  unfold observeV
  rw [if_pos hok, hsh]
  unfold agedV stillV
  rw [hdu, hst, b4_dl]
  have hz : zB (i + 1) = ⟨0, 0, 2, duZ (i + 1), ((i + 1 : Nat) : Int), decide (i + 1 = 6)⟩ := by unfold zB; rw [if_neg (by omega)]
  rw [hz]
  by_cases h : i + 1 ≤ 5
  · have hl : agedLate 5 [(0, 1, (i : Int))] = false := by
      show (decide ((5 : Int) < (i : Int) + 1) || false) = false
      rw [decide_eq_false (by omega)]; rfl
    have ha : agedL (0#32, 0#32) [(0, 1, (i : Int))] = [(0, 1, (i : Int) + 1)] := by simp [agedL, hha, agedD]
    have hd : duZ (i + 1) = [(0, 1, (i : Int) + 1)] := by unfold duZ; rw [if_pos h]; rfl
    simp only [hl, ha, hd]
    rw [decide_eq_false (by omega)]
    have : min ((i : Int) + 1) 1000000 = ((i + 1 : Nat) : Int) := by omega
    simp [this]
  · have hl : agedLate 5 [(0, 1, (i : Int))] = true := by
      show (decide ((5 : Int) < (i : Int) + 1) || false) = true
      rw [decide_eq_true (by omega)]; rfl
    have hd : duZ (i + 1) = [] := by unfold duZ; rw [if_neg h]
    simp only [hl, hd]
    rw [decide_eq_true (by omega)]
    have : min ((i : Int) + 1) 1000000 = ((i + 1 : Nat) : Int) := by omega
    simp [this]
theorem zB_quiet (i : Nat) (h1 : 1 ≤ i) (h6 : i ≤ 6) : quietB (b18 0 4) 0 (zB i) = decide (i = 6) := by
  unfold quietB
  rw [zB_state i h6, b4_qu]
  unfold zB
  rw [if_neg (by omega)]
  show (true && decide ((duZ i).length = 0) && decide ((2 : Int) = 2) && decide ((6 : Int) ≤ (i : Int))) = _
  unfold duZ
  by_cases h : i = 6
  · subst h; rfl
  · rw [if_pos (by omega), decide_eq_false h]; rfl
theorem newB_st19 : stateB (b18 0 4) 0 newB = true := by
  unfold stateB newB
  rw [zB_head _ _ _ _ _ _ rfl rfl rfl rfl rfl]; rfl
set_option maxHeartbeats 8000000 in
set_option maxRecDepth 100000 in
theorem sane19_any (w : World) :
    Calls Try.prog 13 #[] w fun e w' => e = .returned (.bool true) ∧ Below w.heap.size w w' := by
  go_enter Try.func13, Try.ntmps13
  go_wp2_with fail
  refine (b18_val2 0 4 _ (by omega) (by omega)).mono ?_
  rintro e w1 ⟨g, cap, rfl, hg0, hg1, hown, hr, hb⟩
  have hcq : w1.cell? ⟨g, 2, none⟩ = some (.int .i64 6) := by
    obtain ⟨A, hq, _, hcell⟩ := hr 0 (c18 4 (fl18 0) 0) rfl
    obtain rfl : A = ⟨g, 0, none⟩ := by simpa using hq.symm
    have := hcell 2 _ rfl
    rwa [Addr.add_lit] at this
  have HL1 : Hid ((b18 0 4).cars.length ≤ 1000) := Lib.hid (by show (1 : Nat) ≤ 1000; omega)
  have HOB : Hid (∀ i, i < 6 → observeV (b18 0 4) 0 (zB i) (0, 0, 2) = zB (i + 1) ∧ obsOk (b18 0 4) 0 (zB i) (0, 0, 2) = true) := Lib.hid zB_obs
  have HQT : Hid (∀ i, 1 ≤ i → i ≤ 6 → quietB (b18 0 4) 0 (zB i) = decide (i = 6)) := Lib.hid zB_quiet
  have HS0 : Hid (stateB (b18 0 4) 0 newB = true) := Lib.hid newB_st19
  have hnc' : (0 : Int) < ((b18 0 4).cars.length : Int) := by show (0 : Int) < ((1 : Nat) : Int); omega
  clear hown
  generalize b18 0 4 = b at *
  have HCQ1 := Lib.hid hcq; have HR1 := Lib.hid hr; have HB1 := Lib.hid hb
  clear hcq hr hb
  go_upto_region 2 with fail
  have B5 := Blk.new w1 [.int .i64 b.fl, .int .i64 b.deb, .int .i64 b.room, .int .i64 b.park, .float .f64 b.em, .float .f64 b.fu, .float .f64 b.ov, .slice (some ⟨g, 0, none⟩) b.cars.length cap] 27
  have hb5 := below1' w1 (.cells #[.int .i64 b.fl, .int .i64 b.deb, .int .i64 b.room, .int .i64 b.park, .float .f64 b.em, .float .f64 b.fu, .float .f64 b.ov, .slice (some ⟨g, 0, none⟩) b.cars.length cap] 27)
  change Blk (w1.alloc (.cells #[.int .i64 b.fl, .int .i64 b.deb, .int .i64 b.room, .int .i64 b.park, .float .f64 b.em, .float .f64 b.fu, .float .f64 b.ov, .slice (some ⟨g, 0, none⟩) b.cars.length cap] 27)) _ _ at B5
  have HB3 := Lib.hid (HB1.out.trans (hb5.mono HB1.out.size))
  have HR3 := Lib.hid (HR1.out.next hb5)
  have HCQ := Lib.hid (cell_later hb5 HCQ1.out)
  have HB5 := Lib.hid B5
  clear B5 hb5 HB1 HR1 HCQ1
  generalize w1.alloc (.cells #[.int .i64 b.fl, .int .i64 b.deb, .int .i64 b.room, .int .i64 b.park, .float .f64 b.em, .float .f64 b.fu, .float .f64 b.ov, .slice (some ⟨g, 0, none⟩) b.cars.length cap] 27) = w3 at *
  generalize w1.heap.size = g5 at *
  have hzz5 : g5 < w3.heap.size := HB5.out.lt
  have hkk : ∀ W, Below w3.heap.size w3 W → (∀ v i, [.int .i64 b.fl, .int .i64 b.deb, .int .i64 b.room, .int .i64 b.park, .float .f64 b.em, .float .f64 b.fu, .float .f64 b.ov, .slice (some ⟨g, 0, none⟩) b.cars.length cap][i]? = some v → W.cell? ⟨g5, i, none⟩ = some v) ∧ RdC W (some ⟨g, 0, none⟩) b.cars := fun W hW => ⟨fun v i hv => (HB5.out.next hW).cell i v hv, HR3.out.next hW⟩
  have HKK := Lib.hid hkk
  clear hkk
  have HW := Lib.hid (Below.refl w3.heap.size w3)
  have c0 := base_cell HW.out
  have k0 := (HB5.out).cell 0 _ rfl
  have k1 := (HB5.out).cell 1 _ rfl
  have k2 := (HB5.out).cell 2 _ rfl
  have k3 := (HB5.out).cell 3 _ rfl
  have k4 := (HB5.out).cell 4 _ rfl
  have k5 := (HB5.out).cell 5 _ rfl
  have k6 := (HB5.out).cell 6 _ rfl
  have k7 := (HB5.out).cell 7 _ rfl
  go_cut [2, 3] from 9 to 14 (fun v2 v3 wx => ∃ g7 q7 cap7, v2 = .pointer (some ⟨g7, 0, none⟩) ∧ v3 = .int .i64 0 ∧ w3.heap.size ≤ g7 ∧ Blk wx g7 (oneB.cells q7 cap7) ∧ RdD wx q7 oneB.du ∧ Below w3.heap.size w3 wx)
  case first =>
    go_region_with (first
      | (refine (new_any _).mono ?_
         rintro e w4 ⟨rfl, hb4⟩
         have T4 : Hid (Below w3.heap.size w3 w4) := Lib.hid (by first | exact (drewB2 w3).trans (hb4.mono (drewB2 w3).size) | exact (below_al2 (drewB2 w3) (Nat.le_refl _) _).trans (hb4.mono (below_al2 (drewB2 w3) (Nat.le_refl _) _).size))
         have c4 := base_cell hb4
         have z4 := base_frozen2 hb4
         have kk := (HKK.out _ T4.out).1
         have l0 := kk _ 0 rfl
         have l1 := kk _ 1 rfl
         have l2 := kk _ 2 rfl
         have l3 := kk _ 3 rfl
         have l4 := kk _ 4 rfl
         have l5 := kk _ 5 rfl
         have l6 := kk _ 6 rfl
         have l7 := kk _ 7 rfl
         clear kk
         have t5 : g5 < w4.heap.size := Nat.lt_of_lt_of_le hzz5 T4.out.size
         try (have t4 : w3.heap.size < w4.heap.size := (by have h : (w3.alloc _).heap.size ≤ w4.heap.size := hb4.size; rw [World.size_alloc] at h; exact h)))
      | (refine (injectNew_any b (some ⟨g, 0, none⟩) cap 0 _ HL1.out HS0.out ?_).mono ?_
         · first | exact (HKK.out _ T4.out).2 | exact (HKK.out _ (below_al2 T4.out (Nat.le_refl _) _)).2
         rintro e w6 ⟨_, rfl, hb6, q7, cap7, rfl, hrd, hlo⟩
         have T6 : Hid (Below w3.heap.size w3 w6) := Lib.hid (by first | exact T4.out.trans (hb6.mono T4.out.size) | exact (below_al2 T4.out (Nat.le_refl _) _).trans (hb6.mono (below_al2 T4.out (Nat.le_refl _) _).size))
         have c6 := base_cell hb6
         have z6 := base_frozen2 hb6))
    all_goals
      go_wp2_with fail
      go_meet
      refine ⟨_, q7, cap7, rfl, rfl, ?_⟩
      first
        | (show w3.heap.size ≤ w6.heap.size ∧ _; exact endA2 (V := oneB) T6.out hrd)
        | (show w3.heap.size ≤ w4.heap.size ∧ _; exact endB2 (V := oneB) (g7 := w4.heap.size) T6.out hrd T4.out.size ((Blk.new w4 [.int .i64 0, .int .i64 0, .int .i64 0, .slice none 0 0, .int .i64 0, .bool false] 35).next hb6) (fun A hA => by have h := hlo A hA; rw [World.size_alloc] at h; exact h))
        | (show w3.heap.size ≤ w3.heap.size ∧ _
           have hB3 : Blk (w3.alloc (.cells #[.int .i64 0, .int .i64 0, .int .i64 0, .slice none 0 0, .int .i64 0, .bool false] 35)).drew w3.heap.size [.int .i64 0, .int .i64 0, .int .i64 0, .slice none 0 0, .int .i64 0, .bool false] := Blk.new w3 [.int .i64 0, .int .i64 0, .int .i64 0, .slice none 0 0, .int .i64 0, .bool false] 35
           exact endB2 (V := oneB) (g7 := w3.heap.size) T6.out hrd (Nat.le_refl _) ((hB3.next hb4).next hb6) (fun A hA => Nat.lt_of_lt_of_le t4 (hlo A hA)))
  case rest =>
    obtain ⟨g7, q7, cap7, rfl, rfl, hg7, hB7, hrd, hb⟩ := hcut
    generalize hwx : wc = w5 at *
    clear hwx HW c0 k0 k1 k2 k3 k4 k5 k6 k7
    have HS : Hid (Blk w5 g7 [.int .i64 (-1), .int .i64 0, .int .i64 0, .slice q7 1 cap7, .int .i64 0, .bool false]) := Lib.hid hB7
    have HD := Lib.hid hrd; have HW5 := Lib.hid hb
    have hz7 : g7 < w5.heap.size := HS.out.lt
    clear hB7 hrd hb
    have j0 := (HS.out).cell 0 _ rfl
    have j1 := (HS.out).cell 1 _ rfl
    have j2 := (HS.out).cell 2 _ rfl
    have j3 := (HS.out).cell 3 _ rfl
    have j4 := (HS.out).cell 4 _ rfl
    have j5 := (HS.out).cell 5 _ rfl
    go_wp2_with fail
    go_loopw [4] (fun v4 wr => ∃ (k : Nat) (q9 : Option Addr) (cap9 : Nat), k ≤ 6 ∧ v4 = .int .i64 ((k : Int) + 1) ∧ Blk wr g7 ((zB k).cells q9 cap9) ∧ RdD wr q9 (zB k).du ∧ Exc g7 w5 wr) (fun v _ => 7 - (intOf v).toNat)
    case atStart => exact ⟨0, q7, cap7, by omega, rfl, HS.out, HD.out, Exc.refl _ _⟩
    case round =>
      obtain ⟨k, q9, cap9, hk, rfl, hblk, hrd, hexc⟩ := hrel
      have HWr := Lib.hid (HW5.out.trans (hexc.below hg7 HW5.out.size))
      have HE := Lib.hid hexc; have HSr := Lib.hid hblk; have HDr := Lib.hid hrd
      clear hexc hblk hrd HS HD j0 j1 j2 j3 j4 j5
      by_cases hlt : k < 6
      · have hlt' : (k : Int) + 1 ≤ 6 := by omega
        have hdu : (zB k).du.length ≤ 1000 := by
          unfold zB duZ; split
          · decide
          · show (if k ≤ 5 then _ else _ : List Duty).length ≤ 1000
            split <;> simp
        have HOBS := Lib.hid (observe_any b (some ⟨g, 0, none⟩) cap 0 (zB k) q9 cap9 (0, 0, 2) wr HL1.out hdu (HKK.out _ HWr.out).2 HDr.out)
        obtain ⟨hob1, hob2⟩ := HOB.out k hlt
        rw [hob1, hob2] at HOBS
        have hqv := HQT.out (k + 1) (by omega) (by omega)
        have hz : zB (k + 1) = ⟨0, 0, 2, duZ (k + 1), (k : Int) + 1, decide (k + 1 = 6)⟩ := by unfold zB; rw [if_neg (by omega)]; rfl
        rw [hz] at hqv
        have HZ := Lib.hid hz
        rw [hz] at HOBS
        have hdl : (duZ (k + 1)).length ≤ 1000 := by unfold duZ; split <;> simp
        clear hob1 hob2 hz
        generalize zB k = S at *
        generalize duZ (k + 1) = D at *
        have HDL := Lib.hid hdl
        clear hdl
        have kk := (HKK.out _ HWr.out).1
        have k0 := kk _ 0 rfl; have k1 := kk _ 1 rfl; have k2 := kk _ 2 rfl; have k3 := kk _ 3 rfl; have k4 := kk _ 4 rfl; have k5 := kk _ 5 rfl; have k6 := kk _ 6 rfl; have k7 := kk _ 7 rfl
        clear kk
        have j0 := (HSr.out).cell 0 _ rfl
        have j1 := (HSr.out).cell 1 _ rfl
        have j2 := (HSr.out).cell 2 _ rfl
        have j3 := (HSr.out).cell 3 _ rfl
        have j4 := (HSr.out).cell 4 _ rfl
        have j5 := (HSr.out).cell 5 _ rfl
        have hz7' : g7 < wr.heap.size := HSr.out.lt
        by_cases h6 : k + 1 = 6
        · have hk6 : (k : Int) + 1 = 6 := by omega
          have hq6 : ((k : Int) + 1 == 6) = true := by rw [hk6]; rfl
          rw [decide_eq_true h6] at HOBS HZ hqv
          have HQV := Lib.hid hqv
          clear hqv h6 hk6
          have HQ : Hid (∀ W q1 cap1, RdC W (some ⟨g, 0, none⟩) b.cars → RdD W q1 D → Calls Try.prog 11 #[cvB b (some ⟨g, 0, none⟩) cap, .int .i64 0, cvS ⟨0, 0, 2, D, (k : Int) + 1, true⟩ q1 cap1] W fun e w' => e = .returned (.bool true) ∧ Below W.heap.size W w') := by
            refine Lib.hid fun W q1 cap1 hrc hrd => ?_
            have h := quiet_any b (some ⟨g, 0, none⟩) cap 0 ⟨0, 0, 2, D, (k : Int) + 1, true⟩ q1 cap1 W HL1.out HDL.out hrc hrd
            rw [HQV.out] at h
            exact h
          go_wp2_with fail
          refine HOBS.out.mono ?_
          rintro e w8 ⟨_, rfl, hb8, q1, cap1, rfl, hrd1, hlo1⟩
          have hlo7 : ∀ A, q1 = some A → A.block ≠ g7 := fun A hA => by have := hlo1 A hA; omega
          have B9 := Blk.new w8 [.int .i64 0, .int .i64 0, .int .i64 2, .slice q1 D.length cap1, .int .i64 ((k : Int) + 1), .bool true] 35
          have hb9 := below1' w8 (.cells #[.int .i64 0, .int .i64 0, .int .i64 2, .slice q1 D.length cap1, .int .i64 ((k : Int) + 1), .bool true] 35)
          change Blk (w8.alloc (.cells #[.int .i64 0, .int .i64 0, .int .i64 2, .slice q1 D.length cap1, .int .i64 ((k : Int) + 1), .bool true] 35)) _ _ at B9
          have HW9 := Lib.hid (hb8.trans (hb9.mono hb8.size))
          have HB9 := Lib.hid B9
          have HD9 : Hid (RdD (w8.alloc (.cells #[.int .i64 0, .int .i64 0, .int .i64 2, .slice q1 D.length cap1, .int .i64 ((k : Int) + 1), .bool true] 35)) q1 D) := Lib.hid (hrd1.next hb9)
          have HL7 := Lib.hid hlo7
          clear hb8 hb9 B9 hrd1 hlo1 hlo7 HOBS k0 k1 k2 k3 k4 k5 k6 k7 j0 j1 j2 j3 j4 j5
          go_upto_region 9 with fail
          generalize w8.alloc (.cells #[.int .i64 0, .int .i64 0, .int .i64 2, .slice q1 D.length cap1, .int .i64 ((k : Int) + 1), .bool true] 35) = w9 at *
          generalize w8.heap.size = g9 at *
          have HWb := Lib.hid (HWr.out.trans (HW9.out.mono HWr.out.size))
          have kk := (HKK.out _ HWb.out).1
          have k0 := kk _ 0 rfl; have k1 := kk _ 1 rfl; have k2 := kk _ 2 rfl; have k3 := kk _ 3 rfl; have k4 := kk _ 4 rfl; have k5 := kk _ 5 rfl; have k6 := kk _ 6 rfl; have k7 := kk _ 7 rfl
          clear kk
          have x0 := (HB9.out).cell 0 _ rfl
          have x1 := (HB9.out).cell 1 _ rfl
          have x2 := (HB9.out).cell 2 _ rfl
          have x3 := (HB9.out).cell 3 _ rfl
          have x4 := (HB9.out).cell 4 _ rfl
          have x5 := (HB9.out).cell 5 _ rfl
          go_wp2_with fail
          refine (HQ.out w9 q1 cap1 (HKK.out _ HWb.out).2 HD9.out).mono ?_
          rintro e wz ⟨rfl, hbz⟩
          have HWz := Lib.hid (HW9.out.trans (hbz.mono HW9.out.size))
          have HBz := Lib.hid (HB9.out.next hbz)
          have HDz := Lib.hid (HD9.out.next hbz)
          have HEz := Lib.hid (HE.out.step HWz.out)
          have HSz := Lib.hid (HSr.out.next HWz.out)
          have hcq := cell_later (HWr.out.trans (HWz.out.mono HWr.out.size)) HCQ.out
          have kk := (HKK.out _ (HWr.out.trans (HWz.out.mono HWr.out.size))).1
          clear hbz HWb k0 k1 k2 k3 k4 k5 k6 k7 x0 x1 x2 x3 x4 x5 HQ
          have k7 := kk _ 7 rfl
          clear kk
          have x0 := (HBz.out).cell 0 _ rfl
          have x1 := (HBz.out).cell 1 _ rfl
          have x2 := (HBz.out).cell 2 _ rfl
          have x3 := (HBz.out).cell 3 _ rfl
          have x4 := (HBz.out).cell 4 _ rfl
          have x5 := (HBz.out).cell 5 _ rfl
          have y0 := (HSz.out).cell 0 _ rfl
          have y1 := (HSz.out).cell 1 _ rfl
          have y2 := (HSz.out).cell 2 _ rfl
          have y3 := (HSz.out).cell 3 _ rfl
          have y4 := (HSz.out).cell 4 _ rfl
          have y5 := (HSz.out).cell 5 _ rfl
          have f0 := HSz.out.fr 0; have f1 := HSz.out.fr 1; have f2 := HSz.out.fr 2; have f3 := HSz.out.fr 3; have f4 := HSz.out.fr 4; have f5 := HSz.out.fr 5
          go_wp2_with fail
          refine ⟨⟨k + 1, q1, cap1, by omega, by go_num, ?_, ?_, (((((HEz.out.set 0 _).set 1 _).set 2 _).set 3 _).set 4 _).set 5 _⟩, by simp [intOf]; omega⟩
          · rw [HZ.out]
            exact (((((HSz.out.set 0 (.int .i64 0)).set 1 (.int .i64 0)).set 2 (.int .i64 2)).set 3 (.slice q1 D.length cap1)).set 4 (.int .i64 ((k : Int) + 1))).set 5 (.bool true)
          · rw [HZ.out]
            exact (((((HDz.out.set HL7.out).set HL7.out).set HL7.out).set HL7.out).set HL7.out).set HL7.out
        · have hk6 : ¬ (k : Int) + 1 = 6 := by omega
          have hq6 : ((k : Int) + 1 == 6) = false := by simpa using hk6
          rw [decide_eq_false h6] at HOBS HZ hqv
          have HQV := Lib.hid hqv
          clear hqv h6 hk6
          have HQ : Hid (∀ W q1 cap1, RdC W (some ⟨g, 0, none⟩) b.cars → RdD W q1 D → Calls Try.prog 11 #[cvB b (some ⟨g, 0, none⟩) cap, .int .i64 0, cvS ⟨0, 0, 2, D, (k : Int) + 1, false⟩ q1 cap1] W fun e w' => e = .returned (.bool false) ∧ Below W.heap.size W w') := by
            refine Lib.hid fun W q1 cap1 hrc hrd => ?_
            have h := quiet_any b (some ⟨g, 0, none⟩) cap 0 ⟨0, 0, 2, D, (k : Int) + 1, false⟩ q1 cap1 W HL1.out HDL.out hrc hrd
            rw [HQV.out] at h
            exact h
          go_wp2_with fail
          refine HOBS.out.mono ?_
          rintro e w8 ⟨_, rfl, hb8, q1, cap1, rfl, hrd1, hlo1⟩
          have hlo7 : ∀ A, q1 = some A → A.block ≠ g7 := fun A hA => by have := hlo1 A hA; omega
          have B9 := Blk.new w8 [.int .i64 0, .int .i64 0, .int .i64 2, .slice q1 D.length cap1, .int .i64 ((k : Int) + 1), .bool false] 35
          have hb9 := below1' w8 (.cells #[.int .i64 0, .int .i64 0, .int .i64 2, .slice q1 D.length cap1, .int .i64 ((k : Int) + 1), .bool false] 35)
          change Blk (w8.alloc (.cells #[.int .i64 0, .int .i64 0, .int .i64 2, .slice q1 D.length cap1, .int .i64 ((k : Int) + 1), .bool false] 35)) _ _ at B9
          have HW9 := Lib.hid (hb8.trans (hb9.mono hb8.size))
          have HB9 := Lib.hid B9
          have HD9 : Hid (RdD (w8.alloc (.cells #[.int .i64 0, .int .i64 0, .int .i64 2, .slice q1 D.length cap1, .int .i64 ((k : Int) + 1), .bool false] 35)) q1 D) := Lib.hid (hrd1.next hb9)
          have HL7 := Lib.hid hlo7
          clear hb8 hb9 B9 hrd1 hlo1 hlo7 HOBS k0 k1 k2 k3 k4 k5 k6 k7 j0 j1 j2 j3 j4 j5
          go_upto_region 9 with fail
          generalize w8.alloc (.cells #[.int .i64 0, .int .i64 0, .int .i64 2, .slice q1 D.length cap1, .int .i64 ((k : Int) + 1), .bool false] 35) = w9 at *
          generalize w8.heap.size = g9 at *
          have HWb := Lib.hid (HWr.out.trans (HW9.out.mono HWr.out.size))
          have kk := (HKK.out _ HWb.out).1
          have k0 := kk _ 0 rfl; have k1 := kk _ 1 rfl; have k2 := kk _ 2 rfl; have k3 := kk _ 3 rfl; have k4 := kk _ 4 rfl; have k5 := kk _ 5 rfl; have k6 := kk _ 6 rfl; have k7 := kk _ 7 rfl
          clear kk
          have x0 := (HB9.out).cell 0 _ rfl
          have x1 := (HB9.out).cell 1 _ rfl
          have x2 := (HB9.out).cell 2 _ rfl
          have x3 := (HB9.out).cell 3 _ rfl
          have x4 := (HB9.out).cell 4 _ rfl
          have x5 := (HB9.out).cell 5 _ rfl
          go_wp2_with fail
          refine (HQ.out w9 q1 cap1 (HKK.out _ HWb.out).2 HD9.out).mono ?_
          rintro e wz ⟨rfl, hbz⟩
          have HWz := Lib.hid (HW9.out.trans (hbz.mono HW9.out.size))
          have HBz := Lib.hid (HB9.out.next hbz)
          have HDz := Lib.hid (HD9.out.next hbz)
          have HEz := Lib.hid (HE.out.step HWz.out)
          have HSz := Lib.hid (HSr.out.next HWz.out)
          have hcq := cell_later (HWr.out.trans (HWz.out.mono HWr.out.size)) HCQ.out
          have kk := (HKK.out _ (HWr.out.trans (HWz.out.mono HWr.out.size))).1
          clear hbz HWb k0 k1 k2 k3 k4 k5 k6 k7 x0 x1 x2 x3 x4 x5 HQ
          have k7 := kk _ 7 rfl
          clear kk
          have x0 := (HBz.out).cell 0 _ rfl
          have x1 := (HBz.out).cell 1 _ rfl
          have x2 := (HBz.out).cell 2 _ rfl
          have x3 := (HBz.out).cell 3 _ rfl
          have x4 := (HBz.out).cell 4 _ rfl
          have x5 := (HBz.out).cell 5 _ rfl
          have y0 := (HSz.out).cell 0 _ rfl
          have y1 := (HSz.out).cell 1 _ rfl
          have y2 := (HSz.out).cell 2 _ rfl
          have y3 := (HSz.out).cell 3 _ rfl
          have y4 := (HSz.out).cell 4 _ rfl
          have y5 := (HSz.out).cell 5 _ rfl
          have f0 := HSz.out.fr 0; have f1 := HSz.out.fr 1; have f2 := HSz.out.fr 2; have f3 := HSz.out.fr 3; have f4 := HSz.out.fr 4; have f5 := HSz.out.fr 5
          go_wp2_with fail
          refine ⟨⟨k + 1, q1, cap1, by omega, by go_num, ?_, ?_, (((((HEz.out.set 0 _).set 1 _).set 2 _).set 3 _).set 4 _).set 5 _⟩, by simp [intOf]; omega⟩
          · rw [HZ.out]
            exact (((((HSz.out.set 0 (.int .i64 0)).set 1 (.int .i64 0)).set 2 (.int .i64 2)).set 3 (.slice q1 D.length cap1)).set 4 (.int .i64 ((k : Int) + 1))).set 5 (.bool false)
          · rw [HZ.out]
            exact (((((HDz.out.set HL7.out).set HL7.out).set HL7.out).set HL7.out).set HL7.out).set HL7.out
      · obtain rfl : k = 6 := by omega
        have HSe : Hid (Blk wr g7 [.int .i64 0, .int .i64 0, .int .i64 2, .slice q9 0 cap9, .int .i64 6, .bool true]) := Lib.hid HSr.out
        have j0 := (HSe.out).cell 0 _ rfl
        have j1 := (HSe.out).cell 1 _ rfl
        have j2 := (HSe.out).cell 2 _ rfl
        have j3 := (HSe.out).cell 3 _ rfl
        have j4 := (HSe.out).cell 4 _ rfl
        have j5 := (HSe.out).cell 5 _ rfl
        go_wp2_with fail
        go_ret
        exact ⟨rfl, HB3.out.trans (HWr.out.mono HB3.out.size)⟩
end Go.Proofs.Ytnnkldidlgiipaa
