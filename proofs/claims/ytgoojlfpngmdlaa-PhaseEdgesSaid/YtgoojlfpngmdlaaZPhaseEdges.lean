/- PhaseEdges: which edges there are, for any two numbers. Conditions: none. -/
import Derived.Test.YtgoojlfpngmdlaaZSane25
import Derived.Test.YtgoojlfpngmdlaaZFrame
namespace Go.Proofs.Ytgoojlfpngmdlaa
open Go.ChangeShapes Go.WideShapes Go.ChangeAt Go.RowKit
/-- How many of the first a pairs are edges. -/
def cntE : Nat → Nat
  | 0 => 0
  | k + 1 => cntE k + if edgeB ((k / 8 : Nat) - 1) ((k % 8 : Nat) - 1) then 1 else 0
theorem cntE_le (k : Nat) : cntE k ≤ k := by
  induction k with
  | zero => exact Nat.le_refl _
  | succ k ih => unfold cntE; split <;> omega
theorem cntE_at (a c : Nat) (hc : c < 8) : cntE (8 * a + (c + 1)) = cntE (8 * a + c) + if edgeB ((a : Int) - 1) ((c : Int) - 1) then 1 else 0 := by
  rw [← Nat.add_assoc, cntE, show (8 * a + c) / 8 = a by omega, show (8 * a + c) % 8 = c by omega]
theorem cntE_all : cntE 64 = 8 := by decide +kernel
set_option maxHeartbeats 4000000 in
set_option maxRecDepth 100000 in
theorem phaseEdges_walk (x y : Int) (w : World) :
    Calls Try.prog 3 #[.int .i64 x, .int .i64 y] w fun e w' => e = .returned (.bool true) ∧ Below w.heap.size w w' := by
  go_enter Try.func3, Try.ntmps3
  go_wp2_with fail
  go_loopw [5, 6] (fun v5 v wr => ∃ a : Nat, a ≤ 8 ∧ v = .int .i64 ((a : Int) - 1) ∧ v5 = .int .i64 (cntE (8 * a) : Int) ∧ Below w.heap.size w wr) (fun _ v _ => (8 - (intOf v + 1)).toNat)
  case atStart => exact ⟨0, by omega, rfl, rfl, Below.refl _ _⟩
  case round =>
    obtain ⟨a, ha, rfl, rfl, hb⟩ := hrel
    have HB := Lib.hid hb
    clear hb
    by_cases hlt : a < 8
    · have hd : decide ((a : Int) - 1 < 7) = true := by simp; omega
      have ha1 : (-1 : Int) ≤ (a : Int) - 1 := by omega
      have ha2 : (a : Int) - 1 < 7 := by omega
      go_wp2_with fail
      clear hd
      go_loopw [5, 7] (fun v5 v wr => ∃ c : Nat, c ≤ 8 ∧ v = .int .i64 ((c : Int) - 1) ∧ v5 = .int .i64 (cntE (8 * a + c) : Int) ∧ Below w.heap.size w wr) (fun _ v _ => (8 - (intOf v + 1)).toNat)
      case atStart => exact ⟨0, by omega, rfl, rfl, HB.out⟩
      case round =>
        clear HB
        obtain ⟨c, hc, rfl, rfl, hb⟩ := hrel
        have HB := Lib.hid hb
        clear hb
        by_cases hlc : c < 8
        · have hd : decide ((c : Int) - 1 < 7) = true := by simp; omega
          have hc1 : (-1 : Int) ≤ (c : Int) - 1 := by omega
          have hc2 : (c : Int) - 1 < 7 := by omega
          have HS := Lib.hid (cntE_at a c hlc)
          have HN := Lib.hid (cntE_le (8 * a + c))
          have h1 := fun W => edge_any ((a : Int) - 1) ((c : Int) - 1) W
          have h2 := fun W => refEdge_any ((a : Int) - 1) ((c : Int) - 1) W
          have H1 := Lib.hid h1; have H2 := Lib.hid h2
          clear h1 h2
          generalize edgeB ((a : Int) - 1) ((c : Int) - 1) = r at *
          obtain ⟨t, ht⟩ : ∃ t, cntE (8 * a + c) = t := ⟨_, rfl⟩
          rw [ht] at HS HN ⊢
          have ht0 : (0 : Int) ≤ (t : Int) := by omega
          have ht1 : (t : Int) < 1000 := by have := HN.out; omega
          clear ht
          go_wp2_with fail
          refine (H1.out wr).mono ?_
          rintro e w1 ⟨rfl, hb1⟩
          have HB1 := Lib.hid (HB.out.trans (hb1.mono HB.out.size))
          clear hb1 HB hd
          go_wp2_with fail
          refine (H2.out w1).mono ?_
          rintro e w2 ⟨rfl, hb2⟩
          have HB2 := Lib.hid (HB1.out.trans (hb2.mono HB1.out.size))
          clear hb2 HB1
          go_wp2_with fail
          refine (H1.out w2).mono ?_
          rintro e w3 ⟨rfl, hb3⟩
          have HB3 := Lib.hid (HB2.out.trans (hb3.mono HB2.out.size))
          clear hb3 HB2
          cases r
          · have HS2 : Hid (cntE (8 * a + (c + 1)) = t) := Lib.hid (by rw [HS.out]; rfl)
            clear HS
            go_wp2_with fail
            exact ⟨⟨c + 1, by omega, by go_num, by rw [HS2.out], HB3.out⟩, by simp [intOf]; omega⟩
          · have HS2 : Hid (cntE (8 * a + (c + 1)) = t + 1) := Lib.hid (by rw [HS.out]; rfl)
            clear HS
            go_wp2_with fail
            exact ⟨⟨c + 1, by omega, by go_num, by rw [HS2.out]; go_num, HB3.out⟩, by simp [intOf]; omega⟩
        · have hd : decide ((c : Int) - 1 < 7) = false := by simp; omega
          have HS : Hid (cntE (8 * a + c) = cntE (8 * (a + 1))) := Lib.hid (by congr 1; omega)
          have hc7 : ¬ (c : Int) - 1 < 7 := by omega
          go_wp2_with fail
          exact ⟨⟨a + 1, by omega, by go_num, by rw [HS.out], HB.out⟩, by simp [intOf]; omega⟩
    · have hd : decide ((a : Int) - 1 < 7) = false := by simp; omega
      have ha7 : ¬ (a : Int) - 1 < 7 := by omega
      obtain rfl : a = 8 := by omega
      have HS : Hid (cntE (8 * 8) = 8) := Lib.hid cntE_all
      rw [HS.out]
      have h1 := fun W => edge_any x y W
      have h2 := fun W => refEdge_any x y W
      have H1 := Lib.hid h1; have H2 := Lib.hid h2
      clear h1 h2 HS
      generalize edgeB x y = r at *
      go_wp2_with fail
      refine (H1.out wr).mono ?_
      rintro e w1 ⟨rfl, hb1⟩
      have HB1 := Lib.hid (HB.out.trans (hb1.mono HB.out.size))
      clear hb1 HB hd
      go_wp2_with fail
      refine (H2.out w1).mono ?_
      rintro e w2 ⟨rfl, hb2⟩
      have HB2 := Lib.hid (HB1.out.trans (hb2.mono HB1.out.size))
      clear hb2 HB1
      go_wp2_with fail
      refine (sane25_any w2).mono ?_
      rintro e w3 ⟨rfl, hb3⟩
      have HB3 := Lib.hid (HB2.out.trans (hb3.mono HB2.out.size))
      clear hb3 HB2
      go_wp2_with fail
      go_ret
      exact ⟨rfl, HB3.out⟩
set_option maxHeartbeats 1000000 in
set_option maxRecDepth 100000 in
theorem phaseEdges_lifted (os : Os) (started : os.Started) (H : Type) (enc : TypeId × Value → H) :
    ReturnsInHanded {} Try.checked os 3 .any (Rows.phaseEdgesSpec.pre6 enc Try.prog Try.f3 Rows.phaseEdgesRow.domain false) (Rows.phaseEdgesSpec.post enc Try.prog Try.f3 false true false false) := by
  refine law_lifted (C := Try.checked) own laidOut started (by kernel_rfl) Try.func3 4 rfl Try.underlying4 (by kernel_rfl) rfl H enc
    (fun ds h => by match ds, h with | [d0, d1], _ => rfl)
    (ChangeSpec.witness6 (enc := enc) (C := Try.checked) false ⟨#[], #[.int .i64 0, .int .i64 0], []⟩ 8 (by kernel_rfl) (by kernel_rfl) (by kernel_rfl) (by kernel_rfl)) ?_
  intro W base args ds ps hval hA hsz
  have hA' : DataW.TrodAll enc Try.prog W 0 (fun _ => true) true Try.f3.params.toList args.toList ds ps := hA
  have hval' : ∀ (j : Nat) t v, Try.f3.params[j]? = some t → args[j]? = some v → Value.okWide Try.prog W .any base t v := hval
  rw [Try.params3] at hA' hval'
  obtain ⟨v0, vs0, d0, ds0, p0, q0, hargs, rfl, rfl, h0, r0⟩ := trodAll_cons hA'
  obtain ⟨v1, vs1, d1, ds1, p1, q1, rfl, rfl, rfl, h1, r1⟩ := trodAll_cons r0
  obtain ⟨rfl, rfl, rfl⟩ := trodAll_nil r1
  obtain rfl : args = #[v0, v1] := by cases args; simp_all
  obtain ⟨x0, rfl, rfl, rfl, wx0⟩ := open_int Try.underlying3 (hval' 0 3 v0 rfl rfl) h0
  obtain ⟨x1, rfl, rfl, rfl, wx1⟩ := open_int Try.underlying3 (hval' 1 3 v1 rfl rfl) h1
  exact phaseEdges_walk x0 x1 W

theorem phaseEdges_over : Rows.phaseEdgesRow.holds Try.pinned (OpenSpec.ofChange Rows.phaseEdgesSpec) :=
  OpenClaim.holds_of_wide 3 Try.f3 rfl rfl rfl rfl rfl rfl rfl ⟨rfl, rfl, rfl, rfl, rfl⟩ rfl rfl rfl rfl rfl (by kernel_rfl) Try.func3 (by kernel_rfl)
    (of_decide_eq_true (by kernel_rfl)) (by unfold Func.isWrapper; first | (rw [if_pos (by decide +kernel)]; kernel_rfl) | (rw [if_neg (by decide +kernel)]; exact ⟨rfl, rfl⟩))
    (fun os started H enc _ => phaseEdges_lifted os started H enc)

/-- THE STATEMENT. -/
theorem phaseEdges_holds : Rows.PhaseEdgesSaid := phaseEdges_over
#print axioms phaseEdges_holds
end Go.Proofs.Ytgoojlfpngmdlaa
