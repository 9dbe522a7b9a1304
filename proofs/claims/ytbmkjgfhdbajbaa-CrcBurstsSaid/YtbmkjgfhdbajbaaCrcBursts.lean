/- The law CrcBursts returns true for every string, place and mask, and leaves all memory that was there as it was. Conditions: none. -/
import Derived.Test.YtbmkjgfhdbajbaaCrcMore
import Derived.Test.YtbmkjgfhdbajbaaFrame
namespace Go.Proofs.Ytbmkjgfhdbajbaa
open Go.ChangeShapes Go.WideShapes Go.ChangeAt Go.RowKit
open Go.ChangeMaps (open_string shut_string)

set_option maxHeartbeats 1000000 in
theorem crcBursts_walk (s : ByteArray) (a m : Nat) (w : World) (hs : s.size ≤ maxLen) (ha : a < 65536) (hm : m < 65536) :
    Calls Try.prog 4 #[.string s, .int .u16 a, .int .u16 m] w fun e w' => e = .returned (.bool true) ∧ Below w.heap.size w w' := by
  unfold maxLen at hs
  by_cases h : s.size ≤ 1000
  · by_cases hm0 : m = 0
    · have e0 : ((m : Int) == 0) = true := by simp [hm0]
      clear hm0
      go_enter Try.func4, Try.ntmps4
      go_wp2_with fail
      refine (sane_any _).mono ?_
      rintro e w1 ⟨rfl, hb1⟩
      go_wp2_with fail
      go_ret
      exact ⟨rfl, hb1⟩
    · have e0 : ((m : Int) == 0) = false := by simp; omega
      clear hm0
      go_enter Try.func4, Try.ntmps4
      go_wp2_with fail
      refine (seal_any _ _ (by unfold maxLen; omega)).mono ?_
      rintro e w1 ⟨rfl, hb1⟩
      go_wp2_with fail
      have ea : ((a : Int) % (8 * ((s.size : Int) + 2))) = ((a % (8 * (s.size + 2)) : Nat) : Int) := by simp
      rw [ea]
      clear ea
      refine (flipped_any _ _ _ _ (by rw [bs_size, seal_len]; simp; omega) (by have := Nat.mod_lt a (show 0 < 8 * (s.size + 2) by omega); omega) hm).mono ?_
      rintro e w2 ⟨rfl, hb2⟩
      rw [bs_list]
      generalize a % (8 * (s.size + 2)) = p
      have hq := bs_eq (Crc.burst (Crc.seal16 s.data.toList) p m) (Crc.seal16 s.data.toList)
      by_cases he : Crc.burst (Crc.seal16 s.data.toList) p m = Crc.seal16 s.data.toList
      · rw [show (Crc.burst (Crc.seal16 s.data.toList) p m == Crc.seal16 s.data.toList) = true from by simp [he]] at hq
        clear he
        go_wp2_with fail
        refine (sane_any _).mono ?_
        rintro e w3 ⟨rfl, hb3⟩
        go_wp2_with fail
        go_ret
        have b2 := hb1.trans (hb2.mono hb1.size)
        exact ⟨rfl, b2.trans (hb3.mono b2.size)⟩
      · rw [show (Crc.burst (Crc.seal16 s.data.toList) p m == Crc.seal16 s.data.toList) = false from by simp [he]] at hq
        have ho := openB_bad (Crc.burst (Crc.seal16 s.data.toList) p m) (by rw [burst_length, seal_len]; omega) (by have := Crc.burst_law _ p m he; rwa [Crc.seal_zero] at this)
        have Ho := Lib.hid ho; clear ho he
        go_wp2_with fail
        refine (open_any _ _ (by rw [bs_size, burst_length, seal_len]; simp; unfold maxLen; omega)).mono ?_
        rintro e w3 ⟨rfl, hb3⟩
        rw [Ho.out]
        go_wp2_with fail
        refine (sane_any _).mono ?_
        rintro e w4 ⟨rfl, hb4⟩
        go_wp2_with fail
        go_ret
        have b2 := hb1.trans (hb2.mono hb1.size)
        have b3 := b2.trans (hb3.mono b2.size)
        exact ⟨rfl, b3.trans (hb4.mono b3.size)⟩
  · go_enter Try.func4, Try.ntmps4
    go_wp2_with fail
    refine (sane_any _).mono ?_
    rintro e w1 ⟨rfl, hb1⟩
    go_wp2_with fail
    go_ret
    exact ⟨rfl, hb1⟩

set_option maxRecDepth 100000 in
theorem crcBursts_lifted (os : Os) (started : os.Started) (H : Type) (enc : TypeId × Value → H) :
    ReturnsInHanded {} Try.checked os 4 .any (Rows.crcBurstsSpec.pre6 enc Try.prog Try.f4 Rows.crcBurstsRow.domain false) (Rows.crcBurstsSpec.post enc Try.prog Try.f4 false true false false) := by
  refine law_lifted (C := Try.checked) own laidOut started (by kernel_rfl) Try.func4 4 rfl Try.underlying4 (by kernel_rfl) rfl H enc
    (fun ds h => by match ds, h with | [d0, d1, d2], _ => rfl)
    (ChangeSpec.witness6 (enc := enc) (C := Try.checked) false ⟨#[], #[.string ByteArray.empty, .int .u16 0, .int .u16 0], []⟩ 8 (by kernel_rfl) (by kernel_rfl) (by kernel_rfl) (by kernel_rfl)) ?_
  intro W base args ds ps hval hA hsz
  have hA' : DataW.TrodAll enc Try.prog W 0 (fun _ => true) true Try.f4.params.toList args.toList ds ps := hA
  have hval' : ∀ (j : Nat) t v, Try.f4.params[j]? = some t → args[j]? = some v → Value.okWide Try.prog W .any base t v := hval
  rw [Try.params4] at hA' hval'
  obtain ⟨v0, vs0, d0, ds0, p0, q0, hargs, rfl, rfl, h0, r0⟩ := trodAll_cons hA'
  obtain ⟨v1, vs1, d1, ds1, p1, q1, rfl, rfl, rfl, h1, r1⟩ := trodAll_cons r0
  obtain ⟨v2, vs2, d2, ds2, p2, q2, rfl, rfl, rfl, h2, r2⟩ := trodAll_cons r1
  obtain ⟨rfl, rfl, rfl⟩ := trodAll_nil r2
  obtain rfl : args = #[v0, v1, v2] := by cases args; simp_all
  obtain ⟨s0, rfl, rfl, rfl, hs0⟩ := open_string Try.underlying9 (hval' 0 9 v0 rfl rfl) h0
  obtain ⟨x1, rfl, rfl, rfl, wx1⟩ := open_int Try.underlying27 (hval' 1 27 v1 rfl rfl) h1
  obtain ⟨x2, rfl, rfl, rfl, wx2⟩ := open_int Try.underlying27 (hval' 2 27 v2 rfl rfl) h2
  (obtain ⟨a, rfl, ha⟩ := u16_nat wx1; obtain ⟨m, rfl, hm⟩ := u16_nat wx2; exact crcBursts_walk s0 a m W hs0 ha hm)

theorem crcBursts_over : Rows.crcBurstsRow.holds Try.pinned (OpenSpec.ofChange Rows.crcBurstsSpec) :=
  OpenClaim.holds_of_wide 4 Try.f4 rfl rfl rfl rfl rfl rfl rfl ⟨rfl, rfl, rfl, rfl, rfl⟩ rfl rfl rfl rfl rfl (by kernel_rfl) Try.func4 (by kernel_rfl)
    (of_decide_eq_true (by kernel_rfl)) (by unfold Func.isWrapper; first | (rw [if_pos (by decide +kernel)]; kernel_rfl) | (rw [if_neg (by decide +kernel)]; exact ⟨rfl, rfl⟩))
    (fun os started H enc _ => crcBursts_lifted os started H enc)

/-- THE STATEMENT. -/
theorem crcBursts_holds : Rows.CrcBurstsSaid := crcBursts_over
#print axioms crcBursts_holds
end Go.Proofs.Ytbmkjgfhdbajbaa
