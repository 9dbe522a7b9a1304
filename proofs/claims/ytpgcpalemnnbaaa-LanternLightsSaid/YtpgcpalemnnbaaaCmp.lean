/- The walk over the order of duties. Conditions: none. -/
import Derived.Test.YtpgcpalemnnbaaaSmall
import Derived.Test.YtpgcpalemnnbaaaGrowMk
namespace Go.Proofs.Ytpgcpalemnnbaaa
open Go.RowKit

/-- A duty: floor, direction, age. -/
abbrev Duty : Type := Int × Int × Int
abbrev Duty.cells (d : Duty) : List Value := [.int .i64 d.1, .int .i64 d.2.1, .int .i64 d.2.2]
abbrev cvD (d : Duty) : Value := .agg #[.int .i64 d.1, .int .i64 d.2.1, .int .i64 d.2.2]
def cmpD (x y : Duty) : Int := orL [cmpI x.1 y.1, cmpI x.2.1 y.2.1]
def newI2 (g : Nat) : Value := .slice (some ⟨g, 0, none⟩) 2 2
theorem newI2_inj (x y : Nat) (h : newI2 x = newI2 y) : x = y := by unfold newI2 at h; simpa using h
theorem rdI_blk {w : World} {g : Nat} {a b : Int} (h : Blk w g [.int .i64 a, .int .i64 b]) : RdI w (newI2 g) [a, b] := by
  refine ⟨_, _, rfl, fun i x hx => ⟨⟨g, 0, none⟩, rfl, h.lt, ?_⟩⟩
  have hi : i < 2 := (List.getElem?_eq_some_iff.1 hx).1
  rw [Addr.add_lit, Nat.zero_add]
  match i, hi with
  | 0, _ => simp at hx; subst hx; exact h.cell 0 _ rfl
  | 1, _ => simp at hx; subst hx; exact h.cell 1 _ rfl
theorem mk_fact {mk : Nat → Value} {lo g : Nat} {ys : List Value} {xs : Array Value} {w : World} (hinj : ∀ x y, mk x = mk y → x = y) (h : mkR mk lo ys xs (mk g) w) : Blk w g ys := by
  obtain ⟨b, hb, _, hT⟩ := h
  rw [hinj _ _ hb]; exact hT
end Go.Proofs.Ytpgcpalemnnbaaa
