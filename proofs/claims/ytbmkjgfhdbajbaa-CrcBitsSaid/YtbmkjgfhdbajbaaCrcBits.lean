/- The law CrcBits returns true for every string and place, and leaves all memory that was there as it was. Conditions: none. -/
import Derived.Test.YtbmkjgfhdbajbaaCrcMore
import Derived.Test.YtbmkjgfhdbajbaaFrame
namespace Go.Proofs.Ytbmkjgfhdbajbaa
open Go.ChangeShapes Go.WideShapes Go.ChangeAt Go.RowKit
open Go.ChangeMaps (open_string shut_string)

theorem ne_nat {n : Nat} {x y : BitVec n} (h : x ≠ y) : ((x.toNat : Int) != (y.toNat : Int)) = true := by
  rw [bne_iff_ne]; intro e; apply h; apply BitVec.eq_of_toNat_eq; omega

set_option maxHeartbeats 1000000 in
theorem crcBits_walk (s : ByteArray) (a : Nat) (w : World) (hs : s.size ≤ maxLen) (ha : a < 65536) :
    Calls Try.prog 7 #[.string s, .int .u16 a] w fun e w' => e = .returned (.bool true) ∧ Below w.heap.size w w' := by
  unfold maxLen at hs
  by_cases h : s.size ≤ 2000
  · by_cases hm0 : s.size = 0
    · have e0 : ((s.size : Int) == 0) = true := by simp [hm0]
      clear hm0
      go_enter Try.func7, Try.ntmps7
      go_wp2_with fail
      refine (sane_any _).mono ?_
      rintro e w1 ⟨rfl, hb1⟩
      go_wp2_with fail
      go_ret
      exact ⟨rfl, hb1⟩
    · have e0 : ((s.size : Int) == 0) = false := by rw [beq_eq_false_iff_ne]; omega
      have hpos : 0 < s.size := by omega
      clear hm0
      go_enter Try.func7, Try.ntmps7
      go_wp2_with fail
      have ea : ((a : Int) % (8 * (s.size : Int))) = ((a % (8 * s.size) : Nat) : Int) := by simp
      rw [ea]
      clear ea
      have hmod := Nat.mod_lt a (show 0 < 8 * s.size by omega)
      refine (flipped_any _ _ 1 _ (by omega) (by omega) (by decide)).mono ?_
      rintro e w2 ⟨rfl, hb2⟩
      generalize a % (8 * s.size) = p at hmod
      rw [burst_one _ _ (by simpa using hmod)]
      have h8 := ne_nat (Crc.bit_law8 s.data.toList p (by simpa using hmod)).symm
      have h16 := ne_nat (Crc.bit_law16 s.data.toList p (by simpa using hmod)).symm
      have hl : (bs (Crc.flip s.data.toList p)).size ≤ maxLen := by rw [bs_size, Crc.length_flip]; simp; unfold maxLen; omega
      go_wp2_with fail
      refine (sum8_any _ _ (by unfold maxLen; omega)).mono ?_
      rintro e w3 ⟨rfl, rfl⟩
      go_wp2_with fail
      refine (sum8_any _ _ hl).mono ?_
      rintro e w4 ⟨rfl, rfl⟩
      rw [bs_list]
      go_wp2_with fail
      refine (sum16_any _ _ (by unfold maxLen; omega)).mono ?_
      rintro e w5 ⟨rfl, rfl⟩
      go_wp2_with fail
      refine (sum16_any _ _ hl).mono ?_
      rintro e w6 ⟨rfl, rfl⟩
      rw [bs_list]
      go_wp2_with fail
      refine (sane_any _).mono ?_
      rintro e w7 ⟨rfl, hb7⟩
      go_wp2_with fail
      go_ret
      exact ⟨rfl, hb2.trans (hb7.mono hb2.size)⟩
  · have e0 : ((s.size : Int) == 0) = false := by rw [beq_eq_false_iff_ne]; omega
    go_enter Try.func7, Try.ntmps7
    go_wp2_with fail
    refine (sane_any _).mono ?_
    rintro e w1 ⟨rfl, hb1⟩
    go_wp2_with fail
    go_ret
    exact ⟨rfl, hb1⟩

set_option maxRecDepth 100000 in
theorem crcBits_lifted (os : Os) (started : os.Started) (H : Type) (enc : TypeId × Value → H) :
    ReturnsInHanded {} Try.checked os 7 .any (Rows.crcBitsSpec.pre6 enc Try.prog Try.f7 Rows.crcBitsRow.domain false) (Rows.crcBitsSpec.post enc Try.prog Try.f7 false true false false) := by
  refine law_lifted (C := Try.checked) own laidOut started (by kernel_rfl) Try.func7 4 rfl Try.underlying4 (by kernel_rfl) rfl H enc
    (fun ds h => by match ds, h with | [d0, d1], _ => rfl)
    (ChangeSpec.witness6 (enc := enc) (C := Try.checked) false ⟨#[], #[.string ByteArray.empty, .int .u16 0], []⟩ 8 (by kernel_rfl) (by kernel_rfl) (by kernel_rfl) (by kernel_rfl)) ?_
  intro W base args ds ps hval hA hsz
  have hA' : DataW.TrodAll enc Try.prog W 0 (fun _ => true) true Try.f7.params.toList args.toList ds ps := hA
  have hval' : ∀ (j : Nat) t v, Try.f7.params[j]? = some t → args[j]? = some v → Value.okWide Try.prog W .any base t v := hval
  rw [Try.params7] at hA' hval'
  obtain ⟨v0, vs0, d0, ds0, p0, q0, hargs, rfl, rfl, h0, r0⟩ := trodAll_cons hA'
  obtain ⟨v1, vs1, d1, ds1, p1, q1, rfl, rfl, rfl, h1, r1⟩ := trodAll_cons r0
  obtain ⟨rfl, rfl, rfl⟩ := trodAll_nil r1
  obtain rfl : args = #[v0, v1] := by cases args; simp_all
  obtain ⟨s0, rfl, rfl, rfl, hs0⟩ := open_string Try.underlying9 (hval' 0 9 v0 rfl rfl) h0
  obtain ⟨x1, rfl, rfl, rfl, wx1⟩ := open_int Try.underlying27 (hval' 1 27 v1 rfl rfl) h1
  (obtain ⟨a, rfl, ha⟩ := u16_nat wx1; exact crcBits_walk s0 a W hs0 ha)

theorem crcBits_over : Rows.crcBitsRow.holds Try.pinned (OpenSpec.ofChange Rows.crcBitsSpec) :=
  OpenClaim.holds_of_wide 7 Try.f7 rfl rfl rfl rfl rfl rfl rfl ⟨rfl, rfl, rfl, rfl, rfl⟩ rfl rfl rfl rfl rfl (by kernel_rfl) Try.func7 (by kernel_rfl)
    (of_decide_eq_true (by kernel_rfl)) (by unfold Func.isWrapper; first | (rw [if_pos (by decide +kernel)]; kernel_rfl) | (rw [if_neg (by decide +kernel)]; exact ⟨rfl, rfl⟩))
    (fun os started H enc _ => crcBits_lifted os started H enc)

/-- THE STATEMENT. -/
theorem crcBits_holds : Rows.CrcBitsSaid := crcBits_over
#print axioms crcBits_holds
end Go.Proofs.Ytbmkjgfhdbajbaa
