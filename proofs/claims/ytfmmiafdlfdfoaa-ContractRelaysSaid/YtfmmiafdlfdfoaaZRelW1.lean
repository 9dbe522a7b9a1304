/- The walks over the small functions of overlayref11 and overlayref17: next, New, IsSweep, open, move, sweeping, turning. Conditions: those of each theorem. -/
import Derived.Test.YtfmmiafdlfdfoaaZRelB
import Derived.Test.YtfmmiafdlfdfoaaZBld
import Derived.Test.YtfmmiafdlfdfoaaZSample
namespace Go.Proofs.Ytfmmiafdlfdfoaa
namespace Rel
open Go.RowKit
abbrev cvC (x : Int × Int × Int) : Value := .agg #[.int .i64 x.1, .int .i64 x.2.1, .int .i64 x.2.2]
abbrev cvSw (r o : Int) : Value := .agg #[.int .i64 r, .int .i64 o]
abbrev cvSt (s : StV) : Value := .agg #[.int .u32 (s.1.toNat : Int), .int .u32 (s.2.1.toNat : Int), .int .u32 (s.2.2.toNat : Int)]
theorem set3_below {w w' : World} (h : Below w.heap.size w w') (a b c : Value) : Below w.heap.size w (((w'.setCell ⟨w.heap.size, 0, none⟩ a).setCell ⟨w.heap.size, 1, none⟩ b).setCell ⟨w.heap.size, 2, none⟩ c) :=
  ((h.setCell (p := ⟨w.heap.size, 0, none⟩) (Nat.le_refl _) a).setCell (p := ⟨w.heap.size, 1, none⟩) (Nat.le_refl _) b).setCell (p := ⟨w.heap.size, 2, none⟩) (Nat.le_refl _) c
set_option maxHeartbeats 1000000 in
theorem isSweep_any (r o : Int) (w : World) (hr : 0 ≤ r ∧ r ≤ 2) (ho : 0 ≤ o ∧ o ≤ 7) :
    Calls Try.prog 66 #[cvSw r o] w fun e w' => e = .returned (.bool true) ∧ Below w.heap.size w w' := by
  obtain ⟨h1, h2⟩ := hr
  obtain ⟨h3, h4⟩ := ho
  have d1 : decide (0 ≤ r) = true := decide_eq_true h1
  have d2 : decide (r ≤ 2) = true := decide_eq_true h2
  have d3 : decide (0 ≤ o) = true := decide_eq_true h3
  have d4 : decide (o ≤ 7) = true := decide_eq_true h4
  go_enter Try.func66, Try.ntmps66
  go_wp2_with fail
  go_ret
  exact ⟨rfl, below1' _ _⟩
set_option maxHeartbeats 1000000 in
theorem openC_any (d : Int) (w : World) :
    Calls Try.prog 71 #[.int .i64 d] w fun e w' => e = .returned (.agg #[.int .i64 3, .int .i64 d, .int .i64 d]) ∧ Below w.heap.size w w' := by
  go_enter Try.func71, Try.ntmps71
  go_wp2_with fail
  exact bodyPost_ret (v := .agg #[.int .i64 3, .int .i64 d, .int .i64 d]) (by simp [results, Try.results71, go_sem]) rfl ⟨rfl, below1' _ _⟩
set_option maxHeartbeats 1000000 in
theorem moveC_any (d : Int) (w : World) :
    Calls Try.prog 72 #[.int .i64 d] w fun e w' => e = .returned (.agg #[.int .i64 (moveC d).1, .int .i64 (moveC d).2.1, .int .i64 (moveC d).2.2]) ∧ Below w.heap.size w w' := by
  by_cases h1 : d = 1
  · subst h1
    go_enter Try.func72, Try.ntmps72
    go_wp2_with fail
    exact bodyPost_ret (v := .agg #[.int .i64 1, .int .i64 1, .int .i64 0]) (by simp [results, Try.results72, go_sem]) rfl ⟨rfl, below1' _ _⟩
  · by_cases h2 : d = 2
    · subst h2
      go_enter Try.func72, Try.ntmps72
      go_wp2_with fail
      exact bodyPost_ret (v := .agg #[.int .i64 2, .int .i64 2, .int .i64 0]) (by simp [results, Try.results72, go_sem]) rfl ⟨rfl, below1' _ _⟩
    · have e1 : (d == 1) = false := by simpa using h1
      have e2 : (d == 2) = false := by simpa using h2
      have em : moveC d = (0, 0, 0) := by unfold moveC; rw [if_neg h1, if_neg h2]
      rw [em]
      clear h1 h2 em
      go_enter Try.func72, Try.ntmps72
      go_wp2_with fail
      exact bodyPost_ret (v := .agg #[.int .i64 0, .int .i64 0, .int .i64 0]) (by simp [results, Try.results72, go_sem]) rfl ⟨rfl, below1' _ _⟩
set_option maxHeartbeats 1000000 in
theorem next_any (f d : Int) (w : World) (hf : -1000 ≤ f ∧ f ≤ 1000) :
    Calls Try.prog 43 #[.int .i64 f, .int .i64 d] w fun e w' => e = .returned (.int .i64 (if d = 1 then f + 1 else f - 1)) ∧ Below w.heap.size w w' := by
  obtain ⟨h3, h4⟩ := hf
  by_cases h1 : d = 1
  · subst h1
    go_enter Try.func43, Try.ntmps43
    go_wp2_with fail
    go_ret
    exact ⟨rfl, Below.refl _ _⟩
  · have e1 : (d == 1) = false := by simpa using h1
    rw [if_neg h1]
    clear h1
    go_enter Try.func43, Try.ntmps43
    go_wp2_with fail
    go_ret
    exact ⟨by go_num, Below.refl _ _⟩
set_option maxHeartbeats 1000000 in
theorem newR_any (f : Int) (w : World) :
    Calls Try.prog 25 #[.int .i64 f] w fun e w' => e = .returned (.agg #[.int .i64 0, .int .i64 f, .int .i64 0, .int .i64 0, .int .i64 2, .int .i64 0, .int .u32 0, .int .u32 0, .int .u32 0]) ∧ Below w.heap.size w w' := by
  go_enter Try.func25, Try.ntmps25
  go_wp2_with fail
  exact bodyPost_ret (v := .agg #[.int .i64 0, .int .i64 f, .int .i64 0, .int .i64 0, .int .i64 2, .int .i64 0, .int .u32 0, .int .u32 0, .int .u32 0]) (by simp [results, Try.results25, go_sem]) rfl ⟨rfl, below1' _ _⟩
set_option maxHeartbeats 4000000 in
theorem sweeping_any (dir back : Int) (car same other ahead behind : Bool) (w : World) :
    Calls Try.prog 69 #[.int .i64 dir, .int .i64 back, .bool car, .bool same, .bool other, .bool ahead, .bool behind] w fun e w' => e = .returned (.tuple #[cvC (sweepC dir back car same other ahead behind).1, .bool (sweepC dir back car same other ahead behind).2]) ∧ Below w.heap.size w w' := by
  obtain ⟨x, hx⟩ : ∃ x, sweepC dir back car same other ahead behind = x := ⟨_, rfl⟩
  rw [hx]
  have HX := Lib.hid hx
  clear hx
  have X0 : Blk (w.alloc (.cells #[.int .i64 0, .int .i64 0, .int .i64 0] 102)) w.heap.size [.int .i64 0, .int .i64 0, .int .i64 0] := by
    have hx := Blk.new w [.int .i64 0, .int .i64 0, .int .i64 0] 102
    exact hx
  have XW : Below w.heap.size w (w.alloc (.cells #[.int .i64 0, .int .i64 0, .int .i64 0] 102)) := below1' w _
  have HWW := Lib.hid XW; have HX0 := Lib.hid X0
  clear XW X0
  go_enter Try.func69, Try.ntmps69
  go_upto_region 1 with fail
  generalize (w.alloc (.cells #[.int .i64 0, .int .i64 0, .int .i64 0] 102)) = w0 at *
  have HW := Lib.hid (Below.refl w0.heap.size w0)
  have hz0 := HX0.out.lt
  cases car <;> cases same <;> cases other <;> cases ahead <;> cases behind
  all_goals
    have hX := HX.out
    simp [sweepC, openC] at hX
    subst hX
    clear HX
    have k0 := HX0.out.cell 0 _ rfl; have k1 := HX0.out.cell 1 _ rfl; have k2 := HX0.out.cell 2 _ rfl
    have f0 := HX0.out.fr 0; have f1 := HX0.out.fr 1; have f2 := HX0.out.fr 2
    go_wp2_with fail
    first
      | (refine (openC_any dir w0).mono ?_
         rintro e w1 ⟨rfl, hb1⟩
         have HX1 := Lib.hid (HX0.out.next hb1); have HW1 := Lib.hid (HWW.out.trans (hb1.mono HWW.out.size))
         clear hb1 k0 k1 k2 f0 f1 f2
         have k0 := HX1.out.cell 0 _ rfl; have k1 := HX1.out.cell 1 _ rfl; have k2 := HX1.out.cell 2 _ rfl
         have f0 := HX1.out.fr 0; have f1 := HX1.out.fr 1; have f2 := HX1.out.fr 2
         go_wp2_with fail
         have R3 := ((HX1.out.set 0 (.int .i64 3)).set 1 (.int .i64 dir)).set 2 (.int .i64 dir)
         have r0 := R3.cell 0 _ rfl; have r1 := R3.cell 1 _ rfl; have r2 := R3.cell 2 _ rfl
         exact bodyPost_ret (v := .tuple #[.agg #[.int .i64 3, .int .i64 dir, .int .i64 dir], .bool true]) (by simp [results, Try.results69, go_sem, r0, r1, r2]) rfl ⟨rfl, set3_below HW1.out _ _ _⟩)
      | (refine (openC_any back w0).mono ?_
         rintro e w1 ⟨rfl, hb1⟩
         have HX1 := Lib.hid (HX0.out.next hb1); have HW1 := Lib.hid (HWW.out.trans (hb1.mono HWW.out.size))
         clear hb1 k0 k1 k2 f0 f1 f2
         have k0 := HX1.out.cell 0 _ rfl; have k1 := HX1.out.cell 1 _ rfl; have k2 := HX1.out.cell 2 _ rfl
         have f0 := HX1.out.fr 0; have f1 := HX1.out.fr 1; have f2 := HX1.out.fr 2
         go_wp2_with fail
         have R3 := ((HX1.out.set 0 (.int .i64 3)).set 1 (.int .i64 back)).set 2 (.int .i64 back)
         have r0 := R3.cell 0 _ rfl; have r1 := R3.cell 1 _ rfl; have r2 := R3.cell 2 _ rfl
         exact bodyPost_ret (v := .tuple #[.agg #[.int .i64 3, .int .i64 back, .int .i64 back], .bool true]) (by simp [results, Try.results69, go_sem, r0, r1, r2]) rfl ⟨rfl, set3_below HW1.out _ _ _⟩)
      | (refine (openC_any 0 w0).mono ?_
         rintro e w1 ⟨rfl, hb1⟩
         have HX1 := Lib.hid (HX0.out.next hb1); have HW1 := Lib.hid (HWW.out.trans (hb1.mono HWW.out.size))
         clear hb1 k0 k1 k2 f0 f1 f2
         have k0 := HX1.out.cell 0 _ rfl; have k1 := HX1.out.cell 1 _ rfl; have k2 := HX1.out.cell 2 _ rfl
         have f0 := HX1.out.fr 0; have f1 := HX1.out.fr 1; have f2 := HX1.out.fr 2
         go_wp2_with fail
         have R3 := ((HX1.out.set 0 (.int .i64 3)).set 1 (.int .i64 0)).set 2 (.int .i64 0)
         have r0 := R3.cell 0 _ rfl; have r1 := R3.cell 1 _ rfl; have r2 := R3.cell 2 _ rfl
         exact bodyPost_ret (v := .tuple #[.agg #[.int .i64 3, .int .i64 0, .int .i64 0], .bool true]) (by simp [results, Try.results69, go_sem, r0, r1, r2]) rfl ⟨rfl, set3_below HW1.out _ _ _⟩)
      | (refine (moveC_any dir w0).mono ?_
         rintro e w1 ⟨rfl, hb1⟩
         have HX1 := Lib.hid (HX0.out.next hb1); have HW1 := Lib.hid (HWW.out.trans (hb1.mono HWW.out.size))
         clear hb1 k0 k1 k2 f0 f1 f2
         have k0 := HX1.out.cell 0 _ rfl; have k1 := HX1.out.cell 1 _ rfl; have k2 := HX1.out.cell 2 _ rfl
         have f0 := HX1.out.fr 0; have f1 := HX1.out.fr 1; have f2 := HX1.out.fr 2
         go_wp2_with fail
         have R3 := ((HX1.out.set 0 (.int .i64 (moveC dir).1)).set 1 (.int .i64 (moveC dir).2.1)).set 2 (.int .i64 (moveC dir).2.2)
         have r0 := R3.cell 0 _ rfl; have r1 := R3.cell 1 _ rfl; have r2 := R3.cell 2 _ rfl
         exact bodyPost_ret (v := .tuple #[.agg #[.int .i64 (moveC dir).1, .int .i64 (moveC dir).2.1, .int .i64 (moveC dir).2.2], .bool true]) (by simp [results, Try.results69, go_sem, r0, r1, r2]) rfl ⟨rfl, set3_below HW1.out _ _ _⟩)
      | (have R3 := ((HX0.out.set 0 (.int .i64 0)).set 1 (.int .i64 0)).set 2 (.int .i64 0)
         have r0 := R3.cell 0 _ rfl; have r1 := R3.cell 1 _ rfl; have r2 := R3.cell 2 _ rfl
         exact bodyPost_ret (v := .tuple #[.agg #[.int .i64 0, .int .i64 0, .int .i64 0], .bool false]) (by simp [results, Try.results69, go_sem, r0, r1, r2]) rfl ⟨rfl, set3_below HWW.out _ _ _⟩)
set_option maxHeartbeats 2000000 in
theorem turning_any (back : Int) (other behind : Bool) (w : World) :
    Calls Try.prog 70 #[.int .i64 back, .bool other, .bool behind] w fun e w' => e = .returned (cvC (turnC back other behind)) ∧ Below w.heap.size w w' := by
  obtain ⟨x, hx⟩ : ∃ x, turnC back other behind = x := ⟨_, rfl⟩
  rw [hx]
  have HX := Lib.hid hx
  clear hx
  have X0 : Blk (w.alloc (.cells #[.int .i64 0, .int .i64 0, .int .i64 0] 102)) w.heap.size [.int .i64 0, .int .i64 0, .int .i64 0] := by
    have hx := Blk.new w [.int .i64 0, .int .i64 0, .int .i64 0] 102
    exact hx
  have XW : Below w.heap.size w (w.alloc (.cells #[.int .i64 0, .int .i64 0, .int .i64 0] 102)) := below1' w _
  have HWW := Lib.hid XW; have HX0 := Lib.hid X0
  clear XW X0
  go_enter Try.func70, Try.ntmps70
  go_upto_region 1 with fail
  generalize (w.alloc (.cells #[.int .i64 0, .int .i64 0, .int .i64 0] 102)) = w0 at *
  have HW := Lib.hid (Below.refl w0.heap.size w0)
  have hz0 := HX0.out.lt
  cases other <;> cases behind
  all_goals
    have hX := HX.out
    simp [turnC, openC] at hX
    subst hX
    clear HX
    have k0 := HX0.out.cell 0 _ rfl; have k1 := HX0.out.cell 1 _ rfl; have k2 := HX0.out.cell 2 _ rfl
    have f0 := HX0.out.fr 0; have f1 := HX0.out.fr 1; have f2 := HX0.out.fr 2
    go_wp2_with fail
    first
      | (refine (openC_any back w0).mono ?_
         rintro e w1 ⟨rfl, hb1⟩
         have HX1 := Lib.hid (HX0.out.next hb1); have HW1 := Lib.hid (HWW.out.trans (hb1.mono HWW.out.size))
         clear hb1 k0 k1 k2 f0 f1 f2
         have k0 := HX1.out.cell 0 _ rfl; have k1 := HX1.out.cell 1 _ rfl; have k2 := HX1.out.cell 2 _ rfl
         have f0 := HX1.out.fr 0; have f1 := HX1.out.fr 1; have f2 := HX1.out.fr 2
         go_wp2_with fail
         have R3 := ((HX1.out.set 0 (.int .i64 3)).set 1 (.int .i64 back)).set 2 (.int .i64 back)
         have r0 := R3.cell 0 _ rfl; have r1 := R3.cell 1 _ rfl; have r2 := R3.cell 2 _ rfl
         exact bodyPost_ret (v := .agg #[.int .i64 3, .int .i64 back, .int .i64 back]) (by simp [results, Try.results70, go_sem, r0, r1, r2]) rfl ⟨rfl, set3_below HW1.out _ _ _⟩)
      | (refine (moveC_any back w0).mono ?_
         rintro e w1 ⟨rfl, hb1⟩
         have HX1 := Lib.hid (HX0.out.next hb1); have HW1 := Lib.hid (HWW.out.trans (hb1.mono HWW.out.size))
         clear hb1 k0 k1 k2 f0 f1 f2
         have k0 := HX1.out.cell 0 _ rfl; have k1 := HX1.out.cell 1 _ rfl; have k2 := HX1.out.cell 2 _ rfl
         have f0 := HX1.out.fr 0; have f1 := HX1.out.fr 1; have f2 := HX1.out.fr 2
         go_wp2_with fail
         have R3 := ((HX1.out.set 0 (.int .i64 (moveC back).1)).set 1 (.int .i64 (moveC back).2.1)).set 2 (.int .i64 (moveC back).2.2)
         have r0 := R3.cell 0 _ rfl; have r1 := R3.cell 1 _ rfl; have r2 := R3.cell 2 _ rfl
         exact bodyPost_ret (v := .agg #[.int .i64 (moveC back).1, .int .i64 (moveC back).2.1, .int .i64 (moveC back).2.2]) (by simp [results, Try.results70, go_sem, r0, r1, r2]) rfl ⟨rfl, set3_below HW1.out _ _ _⟩)
      | (have R3 := ((HX0.out.set 0 (.int .i64 0)).set 1 (.int .i64 0)).set 2 (.int .i64 0)
         have r0 := R3.cell 0 _ rfl; have r1 := R3.cell 1 _ rfl; have r2 := R3.cell 2 _ rfl
         exact bodyPost_ret (v := .agg #[.int .i64 0, .int .i64 0, .int .i64 0]) (by simp [results, Try.results70, go_sem, r0, r1, r2]) rfl ⟨rfl, set3_below HWW.out _ _ _⟩)
end Rel
end Go.Proofs.Ytfmmiafdlfdfoaa
