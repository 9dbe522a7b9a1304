/- The image of the journal as data; when it is one. Conditions: none. -/
import Derived.Test.YtgoojlfpngmdlaaZCallsOf
import Derived.Test.YtgoojlfpngmdlaaZLightV
import Derived.Test.YtgoojlfpngmdlaaZObs
namespace Go.Proofs.Ytgoojlfpngmdlaa
open Go.RowKit
/-- An image: phases, flags, leaving, entries. -/
structure ImgV where
  ph : List Int
  fg : List Bool
  lv : List Bool
  en : List E5
/-- Where its rows lie. -/
structure ImgA where
  p : Option Addr
  pc : Nat
  f : Option Addr
  fc : Nat
  l : Option Addr
  lc : Nat
  e : Option Addr
  ec : Nat
def imgA0 : ImgA := ⟨none, 0, none, 0, none, 0, none, 0⟩
def img0 : ImgV := ⟨[], [], [], []⟩
abbrev cvM (m : ImgV) (a : ImgA) : Value := .agg #[.slice a.p m.ph.length a.pc, .slice a.f m.fg.length a.fc, .slice a.l m.lv.length a.lc, .slice a.e m.en.length a.ec]
abbrev cvE (e : E5) : Value := .agg #[.int .i64 e.1, .int .i64 e.2.1, .int .i64 e.2.2.1, .int .i64 e.2.2.2.1, .bool e.2.2.2.2]
def intCells (l : List Int) : List Value := l.map (Value.int .i64)
def entCells (l : List E5) : List Value := l.flatMap E5.cell
theorem entCells_snoc (l : List E5) (e : E5) : entCells (l ++ [e]) = entCells l ++ e.cell := by simp [entCells]
theorem E5.cell_len (e : E5) : e.cell.length = 5 := rfl
theorem entCells_len (l : List E5) : (entCells l).length = l.length * 5 := by
  induction l with
  | nil => rfl
  | cons c l ih => simp only [entCells, List.flatMap_cons, List.length_append] at *; rw [ih, E5.cell_len]; simp; omega
theorem entCells_at (l : List E5) (i : Nat) (e : E5) (h : l[i]? = some e) (j : Nat) (hj : j < 5) : (entCells l)[i * 5 + j]? = e.cell[j]? := by
  induction l generalizing i with
  | nil => simp at h
  | cons q l ih =>
    cases i with
    | zero =>
      simp at h; subst h
      show (q.cell ++ entCells l)[0 * 5 + j]? = _
      rw [List.getElem?_append_left (by rw [E5.cell_len]; omega), Nat.zero_mul, Nat.zero_add]
    | succ i =>
      show (q.cell ++ entCells l)[(i + 1) * 5 + j]? = _
      rw [List.getElem?_append_right (by rw [E5.cell_len]; omega), E5.cell_len, show (i + 1) * 5 + j - 5 = i * 5 + j by omega]
      exact ih i (by simpa using h)
/-- The slices of the image hold it. -/
def RdM (w : World) (m : ImgV) (a : ImgA) : Prop := RdX w a.p (intCells m.ph) ∧ RdX w a.f (boolCells m.fg) ∧ RdX w a.l (boolCells m.lv) ∧ RdX w a.e (entCells m.en)
theorem RdM.next {w w' : World} {m : ImgV} {a : ImgA} (h : RdM w m a) (hb : Below w.heap.size w w') : RdM w' m a := ⟨h.1.next hb, h.2.1.next hb, h.2.2.1.next hb, h.2.2.2.next hb⟩
theorem RdX.it {w : World} {q : Option Addr} {l : List Int} (h : RdX w q (intCells l)) {i : Nat} {c : Int} (hc : l[i]? = some c) : ∃ A, q = some A ∧ A.block < w.heap.size ∧ w.cell? (A.add i) = some (.int .i64 c) := by
  exact h i _ (by simp [intCells, hc])
/-- A place of a row of entries. -/
theorem RdX.en {w : World} {q : Option Addr} {l : List E5} (h : RdX w q (entCells l)) {i : Nat} {e : E5} (he : l[i]? = some e) : ∃ A, q = some A ∧ A.block < w.heap.size ∧ ∀ j u, e.cell[j]? = some u → w.cell? (A.add (i * 5 + j)) = some u := by
  obtain ⟨A, hq, hA, _⟩ := h (i * 5 + 0) (.int .i64 e.1) (by rw [entCells_at l i e he 0 (by omega)]; rfl)
  refine ⟨A, hq, hA, fun j u hu => ?_⟩
  have hj : j < 5 := (List.getElem?_eq_some_iff.1 hu).1
  obtain ⟨A', hq', _, hc⟩ := h (i * 5 + j) u (by rw [entCells_at l i e he j hj]; exact hu)
  obtain rfl : A = A' := by rw [hq] at hq'; simpa using hq'
  exact hc
theorem RdX.en5 {w : World} {q : Option Addr} {l : List E5} (h : RdX w q (entCells l)) {i : Nat} {e : E5} (he : l[i]? = some e) : ∃ A, q = some A ∧ A.block < w.heap.size ∧
    w.cell? (A.add (i * 5)) = some (.int .i64 e.1) ∧ w.cell? ⟨(A.add (i * 5)).block, (A.add (i * 5)).off + 1, none⟩ = some (.int .i64 e.2.1) ∧ w.cell? ⟨(A.add (i * 5)).block, (A.add (i * 5)).off + 2, none⟩ = some (.int .i64 e.2.2.1) ∧ w.cell? ⟨(A.add (i * 5)).block, (A.add (i * 5)).off + 3, none⟩ = some (.int .i64 e.2.2.2.1) ∧ w.cell? ⟨(A.add (i * 5)).block, (A.add (i * 5)).off + 4, none⟩ = some (.bool e.2.2.2.2) := by
  obtain ⟨A, hq, hA, hc⟩ := h.en he
  exact ⟨A, hq, hA, hc 0 _ rfl, by rw [← addr_one]; exact hc 1 _ rfl, by rw [← addr_one]; exact hc 2 _ rfl, by rw [← addr_one]; exact hc 3 _ rfl, by rw [← addr_one]; exact hc 4 _ rfl⟩
theorem rd_of_en {w : World} {q : Option Addr} {cap : Nat} {l : List E5} (h : RdX w q (entCells l)) : Rd w (.slice q l.length cap) l := ⟨q, cap, rfl, fun _ _ he => h.en he⟩
/-- The order of two entries. -/
def cmpE (x y : E5) : Int := orL [cmpI x.1 y.1, cmpI x.2.1 y.2.1]
def lessE (x y : E5) : Bool := decide (x.1 < y.1) || (decide (x.1 = y.1) && decide (x.2.1 < y.2.1))
theorem cmpE_less (x y : E5) : decide (0 ≤ cmpE x y) = !lessE x y := by
  obtain ⟨a, b, _⟩ := x
  obtain ⟨c, d, _⟩ := y
  unfold cmpE lessE orL cmpI
  by_cases p1 : a < c
  · simp [p1]
  · by_cases p2 : c < a
    · have : ¬ a = c := by omega
      simp [p1, p2, this]
    · obtain rfl : a = c := by omega
      by_cases p3 : b < d
      · simp [p3]
      · by_cases p4 : d < b
        · simp [p3, p4]
        · simp [p3, p4]
def entryB (b : BldV) (e : E5) : Bool := callB b e.1 e.2.1 && decide (-2 ≤ e.2.2.1) && decide (e.2.2.1 < (b.cars.length : Int)) && decide (0 ≤ e.2.2.2.1) && decide (e.2.2.2.1 ≤ 255)
def entStep (b : BldV) (l : List E5) (i : Nat) : Bool := match l[i]? with
  | none => true
  | some e => entryB b e && (match i with | 0 => true | j + 1 => match l[j]? with | none => true | some d => lessE d e)
def entsB (b : BldV) (l : List E5) (k : Nat) : Bool := (List.range k).all (entStep b l)
theorem entsB_succ (b : BldV) (l : List E5) (k : Nat) : entsB b l (k + 1) = (entsB b l k && entStep b l k) := by
  unfold entsB
  rw [List.range_succ, List.all_append]; simp
theorem entsB_bad (b : BldV) (l : List E5) (k n : Nat) (hk : k < n) (h : entStep b l k = false) : entsB b l n = false := by
  unfold entsB
  rw [List.all_eq_false]
  exact ⟨k, List.mem_range.2 hk, by simp [h]⟩
def headM (b : BldV) (m : ImgV) : Bool := decide (validN b = 0) && decide (m.ph.length = b.cars.length) && decide (m.fg.length = b.cars.length) && decide (m.lv.length = b.cars.length)
def phB (l : List Int) : Bool := l.all (inR 0 4)
def imgB (b : BldV) (m : ImgV) : Bool := headM b m && phB m.ph && entsB b m.en m.en.length
end Go.Proofs.Ytgoojlfpngmdlaa
