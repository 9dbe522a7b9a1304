/- The sanity check of chapter 07, walked. Conditions: none. -/
import Derived.Test.YtfffacgfjblccaaCallsHalf
namespace Go.Proofs.Ytfffacgfjblccaa
open Go.RowKit
attribute [local go_sem ↓] run_eql_cs run_neq_cs

theorem list54 : listC (5#32, 4#32) = [(0, 1), (2, 1), (2, 2)] := by decide
theorem above54 : above (5#32, 4#32) 0 = (4#32, 4#32) := by decide
theorem has54 : has (5#32, 4#32) 0 1 = true := by decide

set_option maxHeartbeats 1000000 in
theorem sane_any (w : World) : Calls Try.prog 11 #[] w fun e w' => e = .returned (.bool true) ∧ Below w.heap.size w w' := by
  have T0 := Two.new w (.int .u32 5) (.int .u32 4) 24
  have hb0 := below1 w (.cells #[.int .u32 5, .int .u32 4] 24)
  go_enter Try.func11, Try.ntmps11
  go_wp2_with fail
  refine (list_any (5#32, 4#32) _).mono ?_
  rintro e w1 ⟨v, rfl, hv, hb1⟩
  have T1 := T0.next hb1
  have hb2 := hb0.trans (hb1.mono hb0.size)
  rw [list54] at hv
  rcases hv.2 with ⟨_, hn⟩ | ⟨g, cap, cur, rfl, hg, hh, hc, hm, _⟩
  · cases hn
  have hcap : 3 ≤ cap := hc
  have c0 : w1.cell? ⟨g, 10, none⟩ = some (.int .i64 2) := hv.cellAt 10 (by simp)
  have c1 : w1.cell? ⟨g, 11, none⟩ = some (.int .i64 2) := hv.cellAt 11 (by simp)
  have c2 : w1.cell? ⟨g, 12, none⟩ = some (.int .i64 (-1)) := hv.cellAt 12 (by simp)
  have c3 : w1.cell? ⟨g, 13, none⟩ = some (.int .i64 0) := hv.cellAt 13 (by simp)
  have c4 : w1.cell? ⟨g, 14, none⟩ = some (.bool false) := hv.cellAt 14 (by simp)
  have k0 := T1.cell0; have k1 := T1.cell1
  clear hv hh hb1 hb0 T0 hg
  go_wp2_with fail
  refine (count_any (5#32, 4#32) _).mono ?_
  rintro e w2 ⟨rfl, hb3⟩
  rw [list54]
  have T2 := T1.next hb3
  have hb4 := hb2.trans (hb3.mono hb2.size)
  have m0 := T2.cell0; have m1 := T2.cell1
  clear k0 k1 c0 c1 c2 c3 c4 hb3
  go_wp2_with fail
  refine (above_any (5#32, 4#32) 0 _ (by omega) (by omega)).mono ?_
  rintro e w3 ⟨rfl, hb5⟩
  rw [above54]
  have T3 := T2.next hb5
  have hb6 := hb4.trans (hb5.mono hb4.size)
  have n0 := T3.cell0; have n1 := T3.cell1
  clear m0 m1 hb5
  go_wp2_with fail
  refine (has_any (5#32, 4#32) 0 1 _).mono ?_
  rintro e w4 ⟨rfl, hb7⟩
  rw [has54]
  clear n0 n1
  go_wp2_with fail
  go_ret
  exact ⟨rfl, hb6.trans (hb7.mono hb6.size)⟩
end Go.Proofs.Ytfffacgfjblccaa
