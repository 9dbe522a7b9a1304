/- The law CrcSums returns true for every string and leaves all memory that was there as it was. Conditions: none. -/
import Derived.Test.YtbmkjgfhdbajbaaCrcFlip
import Derived.Test.YtbmkjgfhdbajbaaFrame
namespace Go.Proofs.Ytbmkjgfhdbajbaa
open Go.ChangeShapes Go.WideShapes Go.ChangeAt Go.RowKit
open Go.ChangeMaps (open_string shut_string)

theorem openB_tuple (s : ByteArray) : ∃ t c, openB s = .tuple #[.string t, .int .i64 c] := by
  unfold openB
  split
  · exact ⟨_, _, rfl⟩
  · split
    · exact ⟨_, _, rfl⟩
    · exact ⟨_, _, rfl⟩
theorem openB_seal (l : List UInt8) : openB (bs (Crc.seal16 l)) = .tuple #[.string (bs l), .int .i64 0] := by
  have hlen : (Crc.seal16 l).length = l.length + 2 := by simp [Crc.seal16]
  have ht : (Crc.seal16 l).take ((Crc.seal16 l).length - 2) = l := by rw [hlen]; simp [Crc.seal16]
  rw [openB, bs_size, bs_list, ht, if_neg (by omega), if_pos rfl]

set_option maxHeartbeats 1000000 in
theorem crcSums_walk (s : ByteArray) (w : World) (hs : s.size ≤ maxLen) :
    Calls Try.prog 3 #[.string s] w fun e w' => e = .returned (.bool true) ∧ Below w.heap.size w w' := by
  unfold maxLen at hs
  by_cases h : s.size ≤ 5000
  · obtain ⟨t, c, ho⟩ := openB_tuple s
    have Ho := Lib.hid ho; clear ho
    go_enter Try.func3, Try.ntmps3
    go_wp2_with fail
    refine (open_any s _ (by unfold maxLen; omega)).mono ?_
    rintro e w1 ⟨rfl, hb1⟩
    rw [Ho.out]
    go_wp2_with fail
    refine (refOpen_any s _ (by unfold maxLen; omega)).mono ?_
    rintro e w2 ⟨rfl, hb2⟩
    rw [Ho.out]
    go_wp2_with fail
    refine (seal_any s _ (by unfold maxLen; omega)).mono ?_
    rintro e w3 ⟨rfl, hb3⟩
    go_wp2_with fail
    refine (open_any _ _ (by rw [bs_size]; simp [Crc.seal16]; unfold maxLen; omega)).mono ?_
    rintro e w4 ⟨rfl, hb4⟩
    rw [openB_seal]
    go_wp2_with fail
    refine (sum16_any s _ (by unfold maxLen; omega)).mono ?_
    rintro e w5 ⟨rfl, rfl⟩
    go_wp2_with fail
    refine (refSum16_any s _ (by unfold maxLen; omega)).mono ?_
    rintro e w6 ⟨rfl, rfl⟩
    go_wp2_with fail
    refine (sum8_any s _ (by unfold maxLen; omega)).mono ?_
    rintro e w7 ⟨rfl, rfl⟩
    go_wp2_with fail
    refine (refSum8_any s _ (by unfold maxLen; omega)).mono ?_
    rintro e w8 ⟨rfl, rfl⟩
    go_wp2_with fail
    refine (seal_any s _ (by unfold maxLen; omega)).mono ?_
    rintro e w9 ⟨rfl, hb9⟩
    go_wp2_with fail
    refine (refSeal_any s _ (by unfold maxLen; omega)).mono ?_
    rintro e w10 ⟨rfl, hb10⟩
    have hbs : (bs s.data.toList).toList = s.toList := by rw [bs_self]
    go_wp2_with fail
    refine (seal_any s _ (by unfold maxLen; omega)).mono ?_
    rintro e w11 ⟨rfl, hb11⟩
    go_wp2_with fail
    refine (sum16_any _ _ (by rw [bs_size]; simp [Crc.seal16]; unfold maxLen; omega)).mono ?_
    rintro e w12 ⟨rfl, rfl⟩
    rw [bs_list, Crc.seal_zero]
    go_wp2_with fail
    refine (sane_any _).mono ?_
    rintro e w13 ⟨rfl, hb13⟩
    go_wp2_with fail
    go_ret
    have b2 := hb1.trans (hb2.mono hb1.size)
    have b3 := b2.trans (hb3.mono b2.size)
    have b4 := b3.trans (hb4.mono b3.size)
    have b9 := b4.trans (hb9.mono b4.size)
    have b10 := b9.trans (hb10.mono b9.size)
    have b11 := b10.trans (hb11.mono b10.size)
    exact ⟨rfl, b11.trans (hb13.mono b11.size)⟩
  · go_enter Try.func3, Try.ntmps3
    go_wp2_with fail
    refine (sane_any _).mono ?_
    rintro e w1 ⟨rfl, hb1⟩
    go_wp2_with fail
    go_ret
    exact ⟨rfl, hb1⟩

set_option maxRecDepth 100000 in
theorem crcSums_lifted (os : Os) (started : os.Started) (H : Type) (enc : TypeId × Value → H) :
    ReturnsInHanded {} Try.checked os 3 .any (Rows.crcSumsSpec.pre6 enc Try.prog Try.f3 Rows.crcSumsRow.domain false) (Rows.crcSumsSpec.post enc Try.prog Try.f3 false true false false) := by
  refine law_lifted (C := Try.checked) own laidOut started (by kernel_rfl) Try.func3 4 rfl Try.underlying4 (by kernel_rfl) rfl H enc
    (fun ds h => by match ds, h with | [d0], _ => rfl)
    (ChangeSpec.witness6 (enc := enc) (C := Try.checked) false ⟨#[], #[.string ByteArray.empty], []⟩ 8 (by kernel_rfl) (by kernel_rfl) (by kernel_rfl) (by kernel_rfl)) ?_
  intro W base args ds ps hval hA _
  have hA' : DataW.TrodAll enc Try.prog W 0 (fun _ => true) true Try.f3.params.toList args.toList ds ps := hA
  have hval' : ∀ (j : Nat) t v, Try.f3.params[j]? = some t → args[j]? = some v → Value.okWide Try.prog W .any base t v := hval
  rw [Try.params3] at hA' hval'
  obtain ⟨v0, vs0, d0, ds0, p0, q0, hargs, rfl, rfl, h0, r0⟩ := trodAll_cons hA'
  obtain ⟨rfl, rfl, rfl⟩ := trodAll_nil r0
  obtain rfl : args = #[v0] := by cases args; simp_all
  obtain ⟨s, rfl, rfl, rfl, hs⟩ := open_string Try.underlying9 (hval' 0 9 v0 rfl rfl) h0
  exact crcSums_walk s W hs

theorem crcSums_over : Rows.crcSumsRow.holds Try.pinned (OpenSpec.ofChange Rows.crcSumsSpec) :=
  OpenClaim.holds_of_wide 3 Try.f3 rfl rfl rfl rfl rfl rfl rfl ⟨rfl, rfl, rfl, rfl, rfl⟩ rfl rfl rfl rfl rfl (by kernel_rfl) Try.func3 (by kernel_rfl)
    (of_decide_eq_true (by kernel_rfl)) (by unfold Func.isWrapper; first | (rw [if_pos (by decide +kernel)]; kernel_rfl) | (rw [if_neg (by decide +kernel)]; exact ⟨rfl, rfl⟩))
    (fun os started H enc _ => crcSums_lifted os started H enc)

/-- THE STATEMENT. -/
theorem crcSums_holds : Rows.CrcSumsSaid := crcSums_over
#print axioms crcSums_holds
end Go.Proofs.Ytbmkjgfhdbajbaa
