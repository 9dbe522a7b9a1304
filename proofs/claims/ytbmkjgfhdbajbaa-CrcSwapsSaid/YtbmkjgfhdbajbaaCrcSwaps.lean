/- The law CrcSwaps returns true for every string and place, and leaves all memory that was there as it was. Conditions: none. -/
import Derived.Test.YtbmkjgfhdbajbaaCrcMore
import Derived.Test.YtbmkjgfhdbajbaaFrame
import Derived.Test.YtbmkjgfhdbajbaaGrow
import Derived.RegionTactic
namespace Go.Proofs.Ytbmkjgfhdbajbaa
open Go.ChangeShapes Go.WideShapes Go.ChangeAt Go.RowKit
open Go.ChangeMaps (open_string shut_string)

theorem cl_cell {w W : World} (h : Grow.Cl w.drew W) {a : Addr} {v : Value} (hc : w.cell? a = some v) : W.cell? a = some v := cell_later (Grow.Cl.base h) hc

set_option maxHeartbeats 1000000 in
theorem crcSwaps_walk (s : ByteArray) (a : Nat) (w : World) (hs : s.size ≤ maxLen) (ha : a < 65536) :
    Calls Try.prog 8 #[.string s, .int .u16 a] w fun e w' => e = .returned (.bool true) ∧ Below w.heap.size w w' := by
  unfold maxLen at hs
  by_cases h : s.size ≤ 1000
  · go_enter Try.func8, Try.ntmps8
    go_wp2_with fail
    refine (seal_any _ _ (by unfold maxLen; omega)).mono ?_
    rintro e w1 ⟨rfl, hb1⟩
    have hl : (Crc.seal16 s.data.toList).length = s.size + 2 := by rw [seal_len]; simp
    have Hlaw := Lib.hid (fun p q x y h => Crc.swap_law p q x y h)
    have Hz := Lib.hid (Crc.seal_zero s.data.toList)
    clear Hlaw
    have hcv := Lib.run_convert_string_bytes (P := Try.prog) w1 9 33 5 (bs (Crc.seal16 s.data.toList)) Try.underlying9 Try.underlying33 Try.underlying5
    have hr0 := row8_made w1 (bs (Crc.seal16 s.data.toList))
    have hb0 := below_made w1 (bs (Crc.seal16 s.data.toList))
    rw [bs_size, hl] at hcv
    rw [bs_list] at hr0
    generalize Crc.seal16 s.data.toList = L at *
    generalize Lib.bytesWorld w1 5 (bs L) = w2 at hcv hr0 hb0
    generalize grownCap w1 (s.size + 2) 0 5 = c at hcv
    obtain ⟨k, hk, hk1⟩ : ∃ k : Nat, ((a : Int) % ((s.size : Int) + 2 - 1)) = (k : Int) ∧ k < s.size + 1 := ⟨a % (s.size + 1), by rw [show ((s.size : Int) + 2 - 1) = ((s.size + 1 : Nat) : Int) from by omega]; simp, Nat.mod_lt _ (by omega)⟩
    go_wp2_with fail
    rw [hk]
    clear hk
    obtain ⟨x, hx, hcx, hfx⟩ : ∃ x, L[k]? = some x ∧ w2.cell? ⟨w1.heap.size, k, none⟩ = some (.int .u8 (x.toNat : Int)) ∧ w2.frozen? ⟨w1.heap.size, k, none⟩ = false :=
      ⟨_, List.getElem?_eq_getElem (by omega), hr0 k (by omega)⟩
    obtain ⟨y, hy, hcy, hfy⟩ : ∃ x, L[k + 1]? = some x ∧ w2.cell? ⟨w1.heap.size, k + 1, none⟩ = some (.int .u8 (x.toNat : Int)) ∧ w2.frozen? ⟨w1.heap.size, k + 1, none⟩ = false :=
      ⟨_, List.getElem?_eq_getElem (by omega), hr0 (k + 1) (by omega)⟩
    have h1 : ∀ W, Grow.Cl w2.drew W → W.cell? ⟨w1.heap.size, k, none⟩ = some (.int .u8 (x.toNat : Int)) := fun W hW => cl_cell hW hcx
    have h2 : ∀ W, Grow.Cl w2.drew W → W.cell? ⟨w1.heap.size, k + 1, none⟩ = some (.int .u8 (y.toNat : Int)) := fun W hW => cl_cell hW hcy
    have Hx := Lib.hid hx; have Hy := Lib.hid hy; have Hl := Lib.hid hl; have Hr := Lib.hid hr0
    clear hx hy hl hr0
    by_cases hxy : x = y
    · have he : ((x.toNat : Int) == (y.toNat : Int)) = true := by simp [hxy]
      clear hxy
      (refine Grow.wp_region Grow.noPlan Grow.noPlan_stable (by kernel_rfl) (by kernel_rfl) ?_; intro opsq Hopsq)
      repeat (first | (refine Grow.lex_move rfl ?_ rfl ?_; (· first | exact Grow.wanted_none | (rw [Hopsq.out]; rfl)); intro K hK; simp only [Act.put, Act.eval, List.setIfInBounds_toArray, List.set_cons_zero, List.set_cons_succ, Array.getD_eq_getD_getElem?, List.getElem?_toArray, List.getElem?_cons_zero, List.getElem?_cons_succ, Option.getD_some]; refine hK _ _ ?_; clear hK K) | (refine Grow.lex_assign rfl ?_ rfl ?_; (· first | exact Grow.wanted_none | (rw [Hopsq.out]; rfl)); intro K hK; simp only [Act.put, Act.eval, List.setIfInBounds_toArray, List.set_cons_zero, List.set_cons_succ, Array.getD_eq_getD_getElem?, List.getElem?_toArray, List.getElem?_cons_zero, List.getElem?_cons_succ, Option.getD_some]; refine hK _ _ ?_; clear hK K) | (refine Grow.lex_plain rfl rfl ?_ rfl ?_; (· first | exact Grow.wanted_none | (rw [Hopsq.out]; rfl)); apply Exists.intro; refine ⟨fun wq hCq _ => ?_, ?_⟩; (· (go_wp2_with fail; refine ⟨rfl, Below.refl _ _, ?_⟩; simp only [Array.getD_eq_getD_getElem?, List.getElem?_toArray, List.getElem?_cons_zero, List.getElem?_cons_succ, Option.getD_some]; rfl)); intro K hK; simp only [Act.put, List.setIfInBounds_toArray, List.set_cons_zero, List.set_cons_succ]; refine hK _ _ ?_; clear hK K) | (refine Grow.lex_skip ?_ ?_; (· (rw [Hopsq.out]; rfl)); intro K hK; simp only [Act.put, List.setIfInBounds_toArray, List.set_cons_zero, List.set_cons_succ]; refine hK _ _ ?_; clear hK K))
      (refine Grow.lex_nil ?_; intro w3 hb3 _; replace hb3 := Grow.Cl.base hb3; clear Hopsq opsq)
      go_wp2_with fail
      refine (sane_any _).mono ?_
      rintro e w4 ⟨rfl, hb4⟩
      go_wp2_with fail
      go_ret
      have b2 := hb1.trans (hb0.mono hb1.size)
      have b3 := b2.trans (hb3.mono b2.size)
      exact ⟨rfl, b3.trans (hb4.mono b3.size)⟩
    · have he : ((x.toNat : Int) == (y.toNat : Int)) = false := by
        rw [beq_eq_false_iff_ne]; intro h; apply hxy; apply UInt8.toNat_inj.1; omega
      have Hxy := Lib.hid hxy
      clear hxy
      (refine Grow.wp_region Grow.noPlan Grow.noPlan_stable (by kernel_rfl) (by kernel_rfl) ?_; intro opsq Hopsq)
      repeat (first | (refine Grow.lex_move rfl ?_ rfl ?_; (· first | exact Grow.wanted_none | (rw [Hopsq.out]; rfl)); intro K hK; simp only [Act.put, Act.eval, List.setIfInBounds_toArray, List.set_cons_zero, List.set_cons_succ, Array.getD_eq_getD_getElem?, List.getElem?_toArray, List.getElem?_cons_zero, List.getElem?_cons_succ, Option.getD_some]; refine hK _ _ ?_; clear hK K) | (refine Grow.lex_assign rfl ?_ rfl ?_; (· first | exact Grow.wanted_none | (rw [Hopsq.out]; rfl)); intro K hK; simp only [Act.put, Act.eval, List.setIfInBounds_toArray, List.set_cons_zero, List.set_cons_succ, Array.getD_eq_getD_getElem?, List.getElem?_toArray, List.getElem?_cons_zero, List.getElem?_cons_succ, Option.getD_some]; refine hK _ _ ?_; clear hK K) | (refine Grow.lex_plain rfl rfl ?_ rfl ?_; (· first | exact Grow.wanted_none | (rw [Hopsq.out]; rfl)); apply Exists.intro; refine ⟨fun wq hCq _ => ?_, ?_⟩; (· (go_wp2_with fail; refine ⟨rfl, Below.refl _ _, ?_⟩; simp only [Array.getD_eq_getD_getElem?, List.getElem?_toArray, List.getElem?_cons_zero, List.getElem?_cons_succ, Option.getD_some]; rfl)); intro K hK; simp only [Act.put, List.setIfInBounds_toArray, List.set_cons_zero, List.set_cons_succ]; refine hK _ _ ?_; clear hK K) | (refine Grow.lex_skip ?_ ?_; (· (rw [Hopsq.out]; rfl)); intro K hK; simp only [Act.put, List.setIfInBounds_toArray, List.set_cons_zero, List.set_cons_succ]; refine hK _ _ ?_; clear hK K))
      (refine Grow.lex_nil ?_; intro w3 hb3 _; replace hb3 := Grow.Cl.base hb3; clear Hopsq opsq)
      have g1 := cell_later hb3 hcx
      have g2 := cell_later hb3 hcy
      have Hr3 : Hid (Row8 w3 w1.heap.size L) := fun j hj => by
        obtain ⟨a1, a2⟩ := Hr.out j hj
        have hlt := block_lt_of_cell a1
        exact ⟨cell_later hb3 a1, by rw [hb3.frozen hlt]; exact a2⟩
      have f1 : w3.frozen? ⟨w1.heap.size, k, none⟩ = false := by rw [hb3.frozen (block_lt_of_cell hcx)]; exact hfx
      have f2 : w3.frozen? ⟨w1.heap.size, k + 1, none⟩ = false := by rw [hb3.frozen (block_lt_of_cell hcy)]; exact hfy
      clear h1 h2 hcx hcy hfx hfy
      go_wp2_with fail
      go_region
      have Hr4 : Row8 ((w3.setCell ⟨w1.heap.size, k, none⟩ (.int .u8 (y.toNat : Int))).setCell ⟨w1.heap.size, k + 1, none⟩ (.int .u8 (x.toNat : Int))).drew w1.heap.size ((L.set k y).set (k + 1) x) :=
        row8_set (row8_set Hr3.out k (by have := Hl.out; omega) y) (k + 1) (by simp; have := Hl.out; omega) x
      have hb4 : Below w1.heap.size w1 ((w3.setCell ⟨w1.heap.size, k, none⟩ (.int .u8 (y.toNat : Int))).setCell ⟨w1.heap.size, k + 1, none⟩ (.int .u8 (x.toNat : Int))).drew :=
        (((hb0.trans (hb3.mono hb0.size)).setCell (Nat.le_refl _) _).setCell (Nat.le_refl _) _).drew
      generalize ((w3.setCell ⟨w1.heap.size, k, none⟩ (.int .u8 (y.toNat : Int))).setCell ⟨w1.heap.size, k + 1, none⟩ (.int .u8 (x.toNat : Int))).drew = w4 at Hr4 hb4 ⊢
      have hcs := conv_row Hr4 (s.size + 2) c (by simp; exact Hl.out)
      have hsum : Crc.sum16 ((L.set k y).set (k + 1) x) ≠ 0#16 := by
        have hlen := Hl.out
        have eL : L = L.take k ++ x :: y :: L.drop (k + 2) := by
          have e1 : L.drop k = x :: L.drop (k + 1) := by
            obtain ⟨h1, h2⟩ := List.getElem?_eq_some_iff.1 Hx.out
            rw [List.drop_eq_getElem_cons h1, h2]
          have e2 : L.drop (k + 1) = y :: L.drop (k + 2) := by
            obtain ⟨h1, h2⟩ := List.getElem?_eq_some_iff.1 Hy.out
            rw [List.drop_eq_getElem_cons h1, h2]
          rw [← e2, ← e1, List.take_append_drop]
        have eM : (L.set k y).set (k + 1) x = L.take k ++ y :: x :: L.drop (k + 2) := by
          have hk : (L.take k).length = k := by simp; omega
          conv => lhs; rw [eL]
          rw [List.set_append_right _ _ (by omega), hk, Nat.sub_self, List.set_cons_zero, List.set_append_right _ _ (by omega), hk, Nat.add_sub_cancel_left]
          rfl
        have := Crc.swap_law (L.take k) (L.drop (k + 2)) x y Hxy.out
        rw [eM]
        intro h0
        apply this
        rw [h0, ← eL, Hz.out]
      have hlen : ((L.set k y).set (k + 1) x).length = s.size + 2 := by simp; exact Hl.out
      have ho := openB_bad _ (by rw [hlen]; omega) hsum
      have hsz : (bs ((L.set k y).set (k + 1) x)).size ≤ maxLen := by rw [bs_size, hlen]; unfold maxLen; omega
      generalize (L.set k y).set (k + 1) x = M at hcs ho hsz
      clear Hr3 g1 g2 f1 f2 hsum hlen Hr4
      have Ho := Lib.hid ho; clear ho
      go_wp2_with fail
      refine (open_any _ _ hsz).mono ?_
      rintro e w5 ⟨rfl, hb5⟩
      rw [Ho.out]
      go_wp2_with fail
      refine (sane_any _).mono ?_
      rintro e w6 ⟨rfl, hb6⟩
      go_wp2_with fail
      go_ret
      have b4 := hb1.trans (hb4.mono hb1.size)
      have b5 := b4.trans (hb5.mono b4.size)
      exact ⟨rfl, b5.trans (hb6.mono b5.size)⟩
  · go_enter Try.func8, Try.ntmps8
    go_wp2_with fail
    refine (sane_any _).mono ?_
    rintro e w1 ⟨rfl, hb1⟩
    go_wp2_with fail
    go_ret
    exact ⟨rfl, hb1⟩

set_option maxRecDepth 100000 in
theorem crcSwaps_lifted (os : Os) (started : os.Started) (H : Type) (enc : TypeId × Value → H) :
    ReturnsInHanded {} Try.checked os 8 .any (Rows.crcSwapsSpec.pre6 enc Try.prog Try.f8 Rows.crcSwapsRow.domain false) (Rows.crcSwapsSpec.post enc Try.prog Try.f8 false true false false) := by
  refine law_lifted (C := Try.checked) own laidOut started (by kernel_rfl) Try.func8 4 rfl Try.underlying4 (by kernel_rfl) rfl H enc
    (fun ds h => by match ds, h with | [d0, d1], _ => rfl)
    (ChangeSpec.witness6 (enc := enc) (C := Try.checked) false ⟨#[], #[.string ByteArray.empty, .int .u16 0], []⟩ 8 (by kernel_rfl) (by kernel_rfl) (by kernel_rfl) (by kernel_rfl)) ?_
  intro W base args ds ps hval hA hsz
  have hA' : DataW.TrodAll enc Try.prog W 0 (fun _ => true) true Try.f8.params.toList args.toList ds ps := hA
  have hval' : ∀ (j : Nat) t v, Try.f8.params[j]? = some t → args[j]? = some v → Value.okWide Try.prog W .any base t v := hval
  rw [Try.params8] at hA' hval'
  obtain ⟨v0, vs0, d0, ds0, p0, q0, hargs, rfl, rfl, h0, r0⟩ := trodAll_cons hA'
  obtain ⟨v1, vs1, d1, ds1, p1, q1, rfl, rfl, rfl, h1, r1⟩ := trodAll_cons r0
  obtain ⟨rfl, rfl, rfl⟩ := trodAll_nil r1
  obtain rfl : args = #[v0, v1] := by cases args; simp_all
  obtain ⟨s0, rfl, rfl, rfl, hs0⟩ := open_string Try.underlying9 (hval' 0 9 v0 rfl rfl) h0
  obtain ⟨x1, rfl, rfl, rfl, wx1⟩ := open_int Try.underlying27 (hval' 1 27 v1 rfl rfl) h1
  (obtain ⟨a, rfl, ha⟩ := u16_nat wx1; exact crcSwaps_walk s0 a W hs0 ha)

theorem crcSwaps_over : Rows.crcSwapsRow.holds Try.pinned (OpenSpec.ofChange Rows.crcSwapsSpec) :=
  OpenClaim.holds_of_wide 8 Try.f8 rfl rfl rfl rfl rfl rfl rfl ⟨rfl, rfl, rfl, rfl, rfl⟩ rfl rfl rfl rfl rfl (by kernel_rfl) Try.func8 (by kernel_rfl)
    (of_decide_eq_true (by kernel_rfl)) (by unfold Func.isWrapper; first | (rw [if_pos (by decide +kernel)]; kernel_rfl) | (rw [if_neg (by decide +kernel)]; exact ⟨rfl, rfl⟩))
    (fun os started H enc _ => crcSwaps_lifted os started H enc)

/-- THE STATEMENT. -/
theorem crcSwaps_holds : Rows.CrcSwapsSaid := crcSwaps_over
#print axioms crcSwaps_holds
end Go.Proofs.Ytbmkjgfhdbajbaa
