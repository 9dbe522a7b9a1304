/- What 'x, e := lantern.Light(..)' leaves; rows of sets that are made; the sanity check's numbers. Conditions: none. · Stores into the rows of an image of one's own. Conditions: those of the theorems. -/
import Derived.Test.YtpgcpalemnnbaaaZLight
import Derived.Test.YtpgcpalemnnbaaaZInit
import Derived.Test.YtpgcpalemnnbaaaZValid18
namespace Go.Proofs.Ytpgcpalemnnbaaa
open Go.RowKit
theorem drewB2 (w : World) : Below w.heap.size w w.drew := ⟨rfl, rfl, rfl, Nat.le_refl _, fun _ _ => rfl⟩
theorem below_al2 {B : Nat} {w W : World} (h : Below B w W) (hB : B ≤ w.heap.size) (o : Obj) : Below B w (W.alloc o) := h.trans ((below1' W o).mono (Nat.le_trans hB h.size))
theorem base_frozen2 {W w1 : World} (hb : Below W.heap.size W w1) : ∀ b o, b < W.heap.size → w1.frozen? ⟨b, o, none⟩ = W.frozen? ⟨b, o, none⟩ := fun b o h => hb.frozen (p := ⟨b, o, none⟩) h
theorem drewA2 (w : World) (o : Obj) : Below w.heap.size w (w.alloc o).drew := ⟨rfl, rfl, rfl, (below1' w o).size, (below1' w o).block⟩
theorem setB2 {B g i : Nat} {w W : World} {u : Value} (h : Below B w W) (hg : B ≤ g) : Below B w (W.setCell ⟨g, i, none⟩ u) := h.setCell (p := ⟨g, i, none⟩) hg u
theorem drewAA2 (w : World) (o o' : Obj) : Below w.heap.size w ((w.alloc o).alloc o').drew := ((below1' w o).trans ((below1' _ o').mono (by simp))).drew
def zerosC (n : Nat) : Array Value := madeCells #[.int .u32 0, .int .u32 0] (n * 2)
theorem run_mkC (n : Nat) (hn : n ≤ 5000) (W : World) :
    (Instr.makeSlice 30 (.int .i64 (n : Int)) (.int .i64 (n : Int))).run Try.prog W = .ok (.slice (some ⟨W.heap.size, 0, none⟩) n n) (W.alloc (.cells (zerosC n) 33)) := by
  obtain ⟨i, hi, hz0, hz1, hz2⟩ := info_parts infoCS
  have h := run_make (P := Try.prog) W 30 33 i (.agg #[.int .u32 0, .int .u32 0]) Try.underlying30 hi hz0 .i64 .i64 n n (by omega) (Int.le_refl _) (by rw [hz2]; omega) (by omega)
  rw [h]
  simp [zerosC, hz1, Value.cells]
def csZ (n : Nat) : List CS := List.replicate n (0#32, 0#32)
theorem zerosC_list (n : Nat) : (zerosC n).toList = csCells (csZ n) := by
  apply List.ext_getElem?
  intro j
  by_cases hj : j < n * 2
  · have h1 : (csZ n)[j / 2]? = some (0#32, 0#32) := by rw [csZ, List.getElem?_replicate, if_pos (by omega)]
    obtain ⟨h2, h3⟩ := csCells_at _ _ _ h1
    have h6 : j % 2 = 0 ∨ j % 2 = 1 := by omega
    have h5 : (zerosC n).toList[j]? = some ((#[Value.int .u32 0, .int .u32 0] : Array Value)[j % 2]!) := by
      unfold zerosC madeCells
      simp [hj]
    rw [h5]
    rcases h6 with h | h
    · rw [show j / 2 * 2 = j by omega] at h2; rw [h2, h]; rfl
    · rw [show j / 2 * 2 + 1 = j by omega] at h3; rw [h3, h]; rfl
  · rw [List.getElem?_eq_none (by simp [zerosC, madeCells]; omega), List.getElem?_eq_none (by rw [csCells_len]; simp [csZ]; omega)]
theorem zerosC_size (n : Nat) : (zerosC n).size = n * 2 := size_madeCells _ _
theorem ownsC_made (W : World) (n base : Nat) (hb : base ≤ W.heap.size) (hn : n ≤ 5000) : (W.alloc (.cells (zerosC n) 33)).ownsRow base 33 2 (.slice (some ⟨W.heap.size, 0, none⟩) n n) n (csCells (csZ n)) := by
  rw [← zerosC_list]
  exact World.ownsRow_lit W (zerosC n) n hb (by unfold maxLen; omega) (zerosC_size n)
theorem rdV_of_owns {w : World} {base cap n : Nat} {q : Option Addr} {V : List ViewV} (h : w.ownsRow base 50 12 (.slice q n cap) n (viewCells V)) : RdV w q V := by
  have hx := rdX_of_owns h
  intro i c hc
  obtain ⟨A, hq, hA, _⟩ := hx _ _ (viewCells_at V i c hc 0 _ rfl)
  refine ⟨A, hq, hA, fun j u hu => ?_⟩
  obtain ⟨A', hq', _, h'⟩ := hx _ _ (viewCells_at V i c hc j u hu)
  obtain rfl : A = A' := by rw [hq] at hq'; simpa using hq'
  exact h'
theorem ownsC_0 (w : World) (n : Nat) (hn : n ≤ 5000) : ((w.alloc (.cells (zerosC n) 33)).drew).ownsRow w.heap.size 33 2 (.slice (some ⟨w.heap.size, 0, none⟩) n n) n (csCells (csZ n)) := (ownsC_made w n _ (Nat.le_refl _) hn).drew
theorem ownsC_1 (w : World) (n : Nat) (o : Obj) (hn : n ≤ 5000) : (((w.alloc (.cells (zerosC n) 33)).alloc o).drew).ownsRow w.heap.size 33 2 (.slice (some ⟨w.heap.size, 0, none⟩) n n) n (csCells (csZ n)) := ((ownsC_made w n _ (Nat.le_refl _) hn).alloc o).drew
theorem ownsC_2 (w : World) (n : Nat) (o : Obj) (hn : n ≤ 5000) : (((w.alloc o).alloc (.cells (zerosC n) 33)).drew).ownsRow w.heap.size 33 2 (.slice (some ⟨w.heap.size + 1, 0, none⟩) n n) n (csCells (csZ n)) := by
  have h := (ownsC_made (w.alloc o) n w.heap.size (by simp) hn).drew
  rw [World.size_alloc] at h
  exact h
/-- The lanterns and the error in their places. -/
def lanP (w : World) (F : LanV) (e : Int) (v4 v5 : Value) (wx : World) : Prop := ∃ g4 q1 c1 q2 c2, v4 = .pointer (some ⟨g4, 0, none⟩) ∧ v5 = .int .i64 e ∧ w.heap.size ≤ g4 ∧ Blk wx g4 (lanC F q1 c1 q2 c2) ∧ wx.ownsRow w.heap.size 33 2 (.slice q1 F.lit.length c1) F.lit.length (csCells F.lit) ∧ wx.ownsRow w.heap.size 4 1 (.slice q2 F.gong.length c2) F.gong.length (boolCells F.gong) ∧ Below w.heap.size w wx
/-- A place of a row, behind whatever a drawing region has done. -/
theorem row_reg {w : World} {base g n cap size : Nat} {e : TypeId} {xs : List Value} (h : w.ownsRow base e size (.slice (some ⟨g, 0, none⟩) n cap) n xs) (j : Nat) (hj : j < n * size) (v : Value) (hv : xs[j]? = some v) : ∀ W, Grow.Cl w.drew W → W.cell? ⟨g, j, none⟩ = some v :=
  fun _ hW => cell_later (Grow.Cl.base hW) (by rw [h.cellAt j hj]; exact hv)
def zL : List Value := [.slice none 0 0, .slice none 0 0, .int .u32 0, .int .u32 0]
theorem blkL_0 {w w6 : World} {o : Obj} (hb : Below ((w.alloc (.cells #[.slice none 0 0, .slice none 0 0, .int .u32 0, .int .u32 0] 40)).alloc o).drew.heap.size ((w.alloc (.cells #[.slice none 0 0, .slice none 0 0, .int .u32 0, .int .u32 0] 40)).alloc o).drew w6) : Blk w6 w.heap.size zL :=
  (((Blk.new w zL 40).next (below1' _ o)).next (drewB2 _)).next hb
theorem blkL_1 {w w6 : World} {o : Obj} (hb : Below ((w.alloc o).alloc (.cells #[.slice none 0 0, .slice none 0 0, .int .u32 0, .int .u32 0] 40)).drew.heap.size ((w.alloc o).alloc (.cells #[.slice none 0 0, .slice none 0 0, .int .u32 0, .int .u32 0] 40)).drew w6) : Blk w6 (w.heap.size + 1) zL := by
  have h := ((Blk.new (w.alloc o) zL 40).next (drewB2 _)).next hb
  rw [World.size_alloc] at h
  exact h
/-- The place is made behind the call. -/
theorem lanP_A {w w6 : World} {F : LanV} {e : Int} {q1 q2 : Option Addr} {c1 c2 B : Nat} (hw : Below w.heap.size w w6) (hB : w.heap.size ≤ B) (h1 : w6.ownsRow B 33 2 (.slice q1 F.lit.length c1) F.lit.length (csCells F.lit)) (h2 : w6.ownsRow B 4 1 (.slice q2 F.gong.length c2) F.gong.length (boolCells F.gong)) :
    lanP w F e (.pointer (some ⟨w6.heap.size, 0, none⟩)) (.int .i64 e) (w6.alloc (.cells #[.slice q1 F.lit.length c1, .slice q2 F.gong.length c2, .int .u32 (F.clr.1.toNat : Int), .int .u32 (F.clr.2.toNat : Int)] 40)) := by
  have hb := below1' w6 (.cells #[.slice q1 F.lit.length c1, .slice q2 F.gong.length c2, .int .u32 (F.clr.1.toNat : Int), .int .u32 (F.clr.2.toNat : Int)] 40)
  exact ⟨_, q1, c1, q2, c2, rfl, rfl, hw.size, Blk.new w6 _ _, row_base (rowLater h1 hb) hB, row_base (rowLater h2 hb) hB, hw.trans (hb.mono hw.size)⟩
theorem lanP_drew {w wx : World} {F : LanV} {e : Int} {v4 v5 : Value} (h : lanP w F e v4 v5 wx) : lanP w F e v4 v5 wx.drew := by
  obtain ⟨g4, q1, c1, q2, c2, h1, h2, h3, h4, h5, h6, h7⟩ := h
  exact ⟨g4, q1, c1, q2, c2, h1, h2, h3, h4.next (drewB2 _), rowLater h5 (drewB2 _), rowLater h6 (drewB2 _), h7.drew⟩
/-- The place is made ahead of the call. -/
theorem lanP_B {w w6 : World} {F : LanV} {e : Int} {q1 q2 : Option Addr} {c1 c2 B g4 : Nat} {xs : List Value} (hl : xs.length = 4) (hw : Below w.heap.size w w6) (hg : w.heap.size ≤ g4) (hgB : g4 < B) (hX : Blk w6 g4 xs) (h1 : w6.ownsRow B 33 2 (.slice q1 F.lit.length c1) F.lit.length (csCells F.lit)) (h2 : w6.ownsRow B 4 1 (.slice q2 F.gong.length c2) F.gong.length (boolCells F.gong)) :
    lanP w F e (.pointer (some ⟨g4, 0, none⟩)) (.int .i64 e) ((((w6.setCell ⟨g4, 0, none⟩ (.slice q1 F.lit.length c1)).setCell ⟨g4, 1, none⟩ (.slice q2 F.gong.length c2)).setCell ⟨g4, 2, none⟩ (.int .u32 (F.clr.1.toNat : Int))).setCell ⟨g4, 3, none⟩ (.int .u32 (F.clr.2.toNat : Int))) := by
  match xs, hl with
  | [x0, x1, x2, x3], _ =>
    refine ⟨g4, q1, c1, q2, c2, rfl, rfl, hg, (((hX.set 0 _).set 1 _).set 2 _).set 3 _, ?_, ?_, (((hw.setCell (p := ⟨g4, 0, none⟩) hg _).setCell (p := ⟨g4, 1, none⟩) hg _).setCell (p := ⟨g4, 2, none⟩) hg _).setCell (p := ⟨g4, 3, none⟩) hg _⟩
    · exact row_base (row_set (row_set (row_set (row_set h1 (row_ne h1 hgB)) (row_ne h1 hgB)) (row_ne h1 hgB)) (row_ne h1 hgB)) (by omega)
    · exact row_base (row_set (row_set (row_set (row_set h2 (row_ne h2 hgB)) (row_ne h2 hgB)) (row_ne h2 hgB)) (row_ne h2 hgB)) (by omega)
end Go.Proofs.Ytpgcpalemnnbaaa
namespace Go.Proofs.Ytpgcpalemnnbaaa
open Go.RowKit
theorem row_oth {w : World} {b1 b2 s1 s2 n1 n2 : Nat} {e1 e2 : TypeId} {v : Value} {g n cap i : Nat} {u : Value} {x1 x2 : List Value} (hne : e1 ≠ e2) (h1 : w.ownsRow b1 e1 s1 (.slice (some ⟨g, 0, none⟩) n cap) n1 x1) (h2 : w.ownsRow b2 e2 s2 v n2 x2) : (w.setCell ⟨g, i, none⟩ u).ownsRow b2 e2 s2 v n2 x2 := by
  refine row_set h2 ?_
  rcases rows_apart hne h1 h2 with h | h
  · simp [Value.ownBlock] at h
  · exact h
theorem OwnM.setPh {w : World} {base g pc : Nat} {m : ImgV} {f : Option Addr} {fc : Nat} {l : Option Addr} {lc : Nat} {e : Option Addr} {ec : Nat} (h : OwnM w base m ⟨some ⟨g, 0, none⟩, pc, f, fc, l, lc, e, ec⟩) (i : Nat) (x : Int) : OwnM (w.setCell ⟨g, i, none⟩ (.int .i64 x)) base { m with ph := m.ph.set i x } ⟨some ⟨g, 0, none⟩, pc, f, fc, l, lc, e, ec⟩ := by
  obtain ⟨h1, h2, h3, h4, h5⟩ := h
  refine ⟨?_, row_oth (by decide) h1 h2, row_oth (by decide) h1 h3, row_oth (by decide) h1 h4, h5⟩
  have := row_upd h1 i (.int .i64 x)
  simpa [intCells, List.map_set] using this
theorem OwnM.setFg {w : World} {base g fc : Nat} {m : ImgV} {p : Option Addr} {pc : Nat} {l : Option Addr} {lc : Nat} {e : Option Addr} {ec : Nat} (h : OwnM w base m ⟨p, pc, some ⟨g, 0, none⟩, fc, l, lc, e, ec⟩) (i : Nat) (x : Bool) : OwnM (w.setCell ⟨g, i, none⟩ (.bool x)) base { m with fg := m.fg.set i x } ⟨p, pc, some ⟨g, 0, none⟩, fc, l, lc, e, ec⟩ := by
  obtain ⟨h1, h2, h3, h4, h5⟩ := h
  refine ⟨row_oth (by decide) h2 h1, ?_, row_set h3 ?_, row_oth (by decide) h2 h4, h5⟩
  · have := row_upd h2 i (.bool x)
    simpa [boolCells, List.map_set] using this
  · intro he
    cases l with
    | none => simp [Value.ownBlock] at he
    | some B =>
      simp [Value.ownBlock] at he
      exact h5 _ B rfl rfl he
theorem OwnM.setLv {w : World} {base g lc : Nat} {m : ImgV} {p : Option Addr} {pc : Nat} {f : Option Addr} {fc : Nat} {e : Option Addr} {ec : Nat} (h : OwnM w base m ⟨p, pc, f, fc, some ⟨g, 0, none⟩, lc, e, ec⟩) (i : Nat) (x : Bool) : OwnM (w.setCell ⟨g, i, none⟩ (.bool x)) base { m with lv := m.lv.set i x } ⟨p, pc, f, fc, some ⟨g, 0, none⟩, lc, e, ec⟩ := by
  obtain ⟨h1, h2, h3, h4, h5⟩ := h
  refine ⟨row_oth (by decide) h3 h1, row_set h2 ?_, ?_, row_oth (by decide) h3 h4, h5⟩
  · intro he
    cases f with
    | none => simp [Value.ownBlock] at he
    | some B =>
      simp [Value.ownBlock] at he
      exact h5 B _ rfl rfl he.symm
  · have := row_upd h3 i (.bool x)
    simpa [boolCells, List.map_set] using this
theorem entCells_set (l : List E5) (i j : Nat) (e e' : E5) (u : Value) (hj : j < 5) (hi : l[i]? = some e) (h : e'.cell = e.cell.set j u) : entCells (l.set i e') = (entCells l).set (i * 5 + j) u := by
  induction l generalizing i with
  | nil => simp at hi
  | cons q l ih =>
    cases i with
    | zero =>
      simp at hi; subst hi
      show e'.cell ++ entCells l = (q.cell ++ entCells l).set (0 * 5 + j) u
      rw [List.set_append_left _ _ (by rw [E5.cell_len]; omega), h, Nat.zero_mul, Nat.zero_add]
    | succ i =>
      show q.cell ++ entCells (l.set i e') = (q.cell ++ entCells l).set ((i + 1) * 5 + j) u
      rw [List.set_append_right _ _ (by rw [E5.cell_len]; omega), E5.cell_len, show (i + 1) * 5 + j - 5 = i * 5 + j by omega, ih i (by simpa using hi)]
theorem OwnM.setEn {w : World} {base g ec : Nat} {m : ImgV} {p : Option Addr} {pc : Nat} {f : Option Addr} {fc : Nat} {l : Option Addr} {lc : Nat} (h : OwnM w base m ⟨p, pc, f, fc, l, lc, some ⟨g, 0, none⟩, ec⟩) (i j : Nat) (e e' : E5) (u : Value) (hj : j < 5) (hi : m.en[i]? = some e) (hu : e'.cell = e.cell.set j u) : OwnM (w.setCell ⟨g, i * 5 + j, none⟩ u) base { m with en := m.en.set i e' } ⟨p, pc, f, fc, l, lc, some ⟨g, 0, none⟩, ec⟩ := by
  obtain ⟨h1, h2, h3, h4, h5⟩ := h
  refine ⟨row_oth (by decide) h4 h1, row_oth (by decide) h4 h2, row_oth (by decide) h4 h3, ?_, h5⟩
  have := row_upd h4 (i * 5 + j) u
  rw [← entCells_set m.en i j e e' u hj hi hu] at this
  simpa using this
end Go.Proofs.Ytpgcpalemnnbaaa
