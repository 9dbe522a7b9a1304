/- Stores into the rows of an image of one's own. Conditions: those of the theorems. -/
import Derived.Test.YtgoojlfpngmdlaaZInit
import Derived.Test.YtgoojlfpngmdlaaZBld18
namespace Go.Proofs.Ytgoojlfpngmdlaa
open Go.RowKit
theorem row_oth {w : World} {b1 b2 s1 s2 n1 n2 : Nat} {e1 e2 : TypeId} {v : Value} {g n cap i : Nat} {u : Value} {x1 x2 : List Value} (hne : e1 ≠ e2) (h1 : w.ownsRow b1 e1 s1 (.slice (some ⟨g, 0, none⟩) n cap) n1 x1) (h2 : w.ownsRow b2 e2 s2 v n2 x2) : (w.setCell ⟨g, i, none⟩ u).ownsRow b2 e2 s2 v n2 x2 := by
  refine row_set h2 ?_
  rcases rows_apart hne h1 h2 with h | h
  · simp [Value.ownBlock] at h
  · exact h
theorem OwnM.setPh {w : World} {base g pc : Nat} {m : ImgV} {f : Option Addr} {fc : Nat} {l : Option Addr} {lc : Nat} {e : Option Addr} {ec : Nat} (h : OwnM w base m ⟨some ⟨g, 0, none⟩, pc, f, fc, l, lc, e, ec⟩) (i : Nat) (x : Int) : OwnM (w.setCell ⟨g, i, none⟩ (.int .i64 x)) base { m with ph := m.ph.set i x } ⟨some ⟨g, 0, none⟩, pc, f, fc, l, lc, e, ec⟩ := by
  obtain ⟨h1, h2, h3, h4, h5⟩ := h
  refine ⟨?_, row_oth (by decide) h1 h2, row_oth (by decide) h1 h3, row_oth (by decide) h1 h4, h5⟩
  have := row_upd h1 i (.int .i64 x)
  simpa [intCells, List.map_set] using this
theorem OwnM.setFg {w : World} {base g fc : Nat} {m : ImgV} {p : Option Addr} {pc : Nat} {l : Option Addr} {lc : Nat} {e : Option Addr} {ec : Nat} (h : OwnM w base m ⟨p, pc, some ⟨g, 0, none⟩, fc, l, lc, e, ec⟩) (i : Nat) (x : Bool) : OwnM (w.setCell ⟨g, i, none⟩ (.bool x)) base { m with fg := m.fg.set i x } ⟨p, pc, some ⟨g, 0, none⟩, fc, l, lc, e, ec⟩ := by
  obtain ⟨h1, h2, h3, h4, h5⟩ := h
  refine ⟨row_oth (by decide) h2 h1, ?_, row_set h3 ?_, row_oth (by decide) h2 h4, h5⟩
  · have := row_upd h2 i (.bool x)
    simpa [boolCells, List.map_set] using this
  · intro he
    cases l with
    | none => simp [Value.ownBlock] at he
    | some B =>
      simp [Value.ownBlock] at he
      exact h5 _ B rfl rfl he
theorem OwnM.setLv {w : World} {base g lc : Nat} {m : ImgV} {p : Option Addr} {pc : Nat} {f : Option Addr} {fc : Nat} {e : Option Addr} {ec : Nat} (h : OwnM w base m ⟨p, pc, f, fc, some ⟨g, 0, none⟩, lc, e, ec⟩) (i : Nat) (x : Bool) : OwnM (w.setCell ⟨g, i, none⟩ (.bool x)) base { m with lv := m.lv.set i x } ⟨p, pc, f, fc, some ⟨g, 0, none⟩, lc, e, ec⟩ := by
  obtain ⟨h1, h2, h3, h4, h5⟩ := h
  refine ⟨row_oth (by decide) h3 h1, row_set h2 ?_, ?_, row_oth (by decide) h3 h4, h5⟩
  · intro he
    cases f with
    | none => simp [Value.ownBlock] at he
    | some B =>
      simp [Value.ownBlock] at he
      exact h5 B _ rfl rfl he.symm
  · have := row_upd h3 i (.bool x)
    simpa [boolCells, List.map_set] using this
theorem entCells_set (l : List E5) (i j : Nat) (e e' : E5) (u : Value) (hj : j < 5) (hi : l[i]? = some e) (h : e'.cell = e.cell.set j u) : entCells (l.set i e') = (entCells l).set (i * 5 + j) u := by
  induction l generalizing i with
  | nil => simp at hi
  | cons q l ih =>
    cases i with
    | zero =>
      simp at hi; subst hi
      show e'.cell ++ entCells l = (q.cell ++ entCells l).set (0 * 5 + j) u
      rw [List.set_append_left _ _ (by rw [E5.cell_len]; omega), h, Nat.zero_mul, Nat.zero_add]
    | succ i =>
      show q.cell ++ entCells (l.set i e') = (q.cell ++ entCells l).set ((i + 1) * 5 + j) u
      rw [List.set_append_right _ _ (by rw [E5.cell_len]; omega), E5.cell_len, show (i + 1) * 5 + j - 5 = i * 5 + j by omega, ih i (by simpa using hi)]
theorem OwnM.setEn {w : World} {base g ec : Nat} {m : ImgV} {p : Option Addr} {pc : Nat} {f : Option Addr} {fc : Nat} {l : Option Addr} {lc : Nat} (h : OwnM w base m ⟨p, pc, f, fc, l, lc, some ⟨g, 0, none⟩, ec⟩) (i j : Nat) (e e' : E5) (u : Value) (hj : j < 5) (hi : m.en[i]? = some e) (hu : e'.cell = e.cell.set j u) : OwnM (w.setCell ⟨g, i * 5 + j, none⟩ u) base { m with en := m.en.set i e' } ⟨p, pc, f, fc, l, lc, some ⟨g, 0, none⟩, ec⟩ := by
  obtain ⟨h1, h2, h3, h4, h5⟩ := h
  refine ⟨row_oth (by decide) h4 h1, row_oth (by decide) h4 h2, row_oth (by decide) h4 h3, ?_, h5⟩
  have := row_upd h4 (i * 5 + j) u
  rw [← entCells_set m.en i j e e' u hj hi hu] at this
  simpa using this
end Go.Proofs.Ytgoojlfpngmdlaa
