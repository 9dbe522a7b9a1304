/- Arrays of two and of three bytes as they come in. Conditions: none. -/
import Derived.Test.YtgoojlfpngmdlaaZArgsI
import Derived.Test.YtgoojlfpngmdlaaZArgsU
import Derived.Laws.IdiomArrays
namespace Go.Proofs.Ytgoojlfpngmdlaa
open Go.ChangeShapes Go.WideShapes Go.ChangeAt Go.RowKit
section
variable {H : Type} {enc : TypeId × Value → H} {w : World}
set_option maxRecDepth 100000 in
theorem open_b2 {r : Reach} {b0 : Nat} {v : Value} {d : DataW H} {p : List MemPlace} (hv : Value.okWide Try.prog w r b0 24 v) (h : DataW.Trod enc Try.prog w 0 (fun _ => true) true 24 v d p) : ∃ a b : Nat, v = .agg #[.int .u8 a, .int .u8 b] ∧ a < 256 ∧ b < 256 := by
  obtain ⟨cs, rfl, hsz⟩ := okWide_array Try.underlying24 hv
  have hsz2 : cs.size = 2 := hsz.trans (by kernel_rfl)
  obtain ⟨c0, c1, rfl⟩ : ∃ c0 c1, cs = #[c0, c1] := by
    obtain ⟨l⟩ := cs
    match l, hsz2 with
    | [c0, c1], _ => exact ⟨c0, c1, rfl⟩
  obtain ⟨fuel, hf⟩ := h
  obtain ⟨y0, y1, n, h0, h1⟩ := trod_array2 Try.underlying24 (by kernel_rfl) hf
  obtain ⟨x, ex, _, wx⟩ := DataW.trod_int Try.underlying5 h0
  obtain ⟨y, ey, _, wy⟩ := DataW.trod_int Try.underlying5 h1
  obtain rfl : c0 = _ := List.head_eq_of_cons_eq ex
  obtain rfl : c1 = _ := List.head_eq_of_cons_eq ey
  obtain ⟨a, rfl, ha⟩ := u8_wf wx
  obtain ⟨b, rfl, hb⟩ := u8_wf wy
  exact ⟨a, b, rfl, ha, hb⟩
set_option maxRecDepth 100000 in
theorem open_b3 {r : Reach} {b0 : Nat} {v : Value} {d : DataW H} {p : List MemPlace} (hv : Value.okWide Try.prog w r b0 55 v) (h : DataW.Trod enc Try.prog w 0 (fun _ => true) true 55 v d p) : ∃ a b c : Nat, v = .agg #[.int .u8 a, .int .u8 b, .int .u8 c] ∧ a < 256 ∧ b < 256 ∧ c < 256 := by
  obtain ⟨cs, rfl, hsz⟩ := okWide_array Try.underlying55 hv
  have hsz3 : cs.size = 3 := hsz.trans (by kernel_rfl)
  obtain ⟨c0, c1, c2, rfl⟩ : ∃ c0 c1 c2, cs = #[c0, c1, c2] := by
    obtain ⟨l⟩ := cs
    match l, hsz3 with
    | [c0, c1, c2], _ => exact ⟨c0, c1, c2, rfl⟩
  obtain ⟨fuel, hf⟩ := h
  obtain ⟨y0, y1, y2, n, _, h0, h1, h2⟩ := trod_array3 Try.underlying55 (by kernel_rfl) hf
  obtain ⟨x, ex, _, wx⟩ := DataW.trod_int Try.underlying5 h0
  obtain ⟨y, ey, _, wy⟩ := DataW.trod_int Try.underlying5 h1
  obtain ⟨z, ez, _, wz⟩ := DataW.trod_int Try.underlying5 h2
  obtain rfl : c0 = _ := List.head_eq_of_cons_eq ex
  obtain rfl : c1 = _ := List.head_eq_of_cons_eq ey
  obtain rfl : c2 = _ := List.head_eq_of_cons_eq ez
  obtain ⟨a, rfl, ha⟩ := u8_wf wx
  obtain ⟨b, rfl, hb⟩ := u8_wf wy
  obtain ⟨c, rfl, hc⟩ := u8_wf wz
  exact ⟨a, b, c, rfl, ha, hb, hc⟩
end
end Go.Proofs.Ytgoojlfpngmdlaa
