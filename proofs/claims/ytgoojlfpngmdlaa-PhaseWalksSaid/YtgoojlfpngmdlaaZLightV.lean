/- A view of a car; the walks over lantern.called and its reference. Conditions: cars that can be read. · The lanterns and gongs: the plain law, rows that can be read. Conditions: none. -/
import Derived.Test.YtgoojlfpngmdlaaZHallB
import Derived.Test.YtgoojlfpngmdlaaZBld10
import Derived.Test.YtgoojlfpngmdlaaZSample
import Derived.Test.YtgoojlfpngmdlaaZBld18
import Derived.Laws.OwnMore
namespace Go.Proofs.Ytgoojlfpngmdlaa
open Go.RowKit
structure ViewV where
  rd : Bool
  sv : Bool
  lg : Bool
  lo : Bool
  fl : Int
  dir : Int
  ld : Int
  sh : CS
  car : Int
  hu : Int
  hd : Int
abbrev ViewV.cells (v : ViewV) : List Value := [.bool v.rd, .bool v.sv, .bool v.lg, .bool v.lo, .int .i64 v.fl, .int .i64 v.dir, .int .i64 v.ld, .int .u32 (v.sh.1.toNat : Int), .int .u32 (v.sh.2.toNat : Int), .int .u32 v.car, .int .u32 v.hu, .int .u32 v.hd]
abbrev cvV (v : ViewV) : Value := .agg #[.bool v.rd, .bool v.sv, .bool v.lg, .bool v.lo, .int .i64 v.fl, .int .i64 v.dir, .int .i64 v.ld, .int .u32 (v.sh.1.toNat : Int), .int .u32 (v.sh.2.toNat : Int), .int .u32 v.car, .int .u32 v.hu, .int .u32 v.hd]
def viewCells (l : List ViewV) : List Value := l.flatMap ViewV.cells
theorem viewCells_snoc (l : List ViewV) (m : ViewV) : viewCells (l ++ [m]) = viewCells l ++ m.cells := by simp [viewCells]
theorem viewCells_len (l : List ViewV) : (viewCells l).length = l.length * 12 := by
  induction l with
  | nil => rfl
  | cons c l ih => simp only [viewCells, List.flatMap_cons, List.length_append] at *; rw [ih]; simp [ViewV.cells]; omega
theorem viewCells_at (l : List ViewV) (i : Nat) (c : ViewV) (h : l[i]? = some c) (j : Nat) (u : Value) (hu : c.cells[j]? = some u) : (viewCells l)[i * 12 + j]? = some u := by
  induction l generalizing i with
  | nil => simp at h
  | cons q l ih =>
    have hj : j < 12 := (List.getElem?_eq_some_iff.1 hu).1
    show (q.cells ++ viewCells l)[i * 12 + j]? = some u
    cases i with
    | zero =>
      simp at h; subst h
      rw [List.getElem?_append_left (by simp [ViewV.cells]; omega)]
      simpa using hu
    | succ i =>
      rw [List.getElem?_append_right (by simp [ViewV.cells]; omega)]
      have : (i + 1) * 12 + j - q.cells.length = i * 12 + j := by simp [ViewV.cells]; omega
      rw [this]
      exact ih i (by simpa using h)
theorem viewCells_set (l : List ViewV) (i j : Nat) (c c' : ViewV) (u : Value) (hj : j < 12) (hi : l[i]? = some c) (h : c'.cells = c.cells.set j u) : viewCells (l.set i c') = (viewCells l).set (i * 12 + j) u := by
  induction l generalizing i with
  | nil => simp at hi
  | cons q l ih =>
    cases i with
    | zero =>
      simp at hi; subst hi
      show c'.cells ++ viewCells l = (q.cells ++ viewCells l).set (0 * 12 + j) u
      rw [List.set_append_left _ _ (by simp [ViewV.cells]; omega), h, Nat.zero_mul, Nat.zero_add]
    | succ i =>
      show q.cells ++ viewCells (l.set i c') = (q.cells ++ viewCells l).set ((i + 1) * 12 + j) u
      rw [List.set_append_right _ _ (by simp [ViewV.cells]; omega), ih i (by simpa using hi)]
      congr 2
      simp [ViewV.cells]; omega
theorem view_one (v : ViewV) : ∀ u ∈ v.cells, u.oneCell' = true := by
  intro u hu
  simp only [ViewV.cells, List.mem_cons, List.not_mem_nil, or_false] at hu
  rcases hu with rfl | rfl | rfl | rfl | rfl | rfl | rfl | rfl | rfl | rfl | rfl | rfl <;> rfl
/-- The slice from q on holds the views. -/
def RdV (w : World) (q : Option Addr) (l : List ViewV) : Prop := ∀ i c, l[i]? = some c → ∃ A, q = some A ∧ A.block < w.heap.size ∧ ∀ j u, c.cells[j]? = some u → w.cell? (A.add (i * 12 + j)) = some u
theorem RdV.next {w w' : World} {q : Option Addr} {l : List ViewV} (h : RdV w q l) (hb : Below w.heap.size w w') : RdV w' q l := by
  intro i c hc
  obtain ⟨A, hq, hA, hcell⟩ := h i c hc
  refine ⟨A, hq, Nat.lt_of_lt_of_le hA hb.size, fun j u hu => ?_⟩
  rw [hb.cell (by rw [addr_block]; exact hA)]
  exact hcell j u hu
/-- The hall calls at which a car calls. -/
def calledC (b : BldV) (v : ViewV) : CS := if v.sv then both v.sh (hallC b) else (0#32, 0#32)
end Go.Proofs.Ytgoojlfpngmdlaa
namespace Go.Proofs.Ytgoojlfpngmdlaa
open Go.RowKit
/-- The slice from q on holds the cells. -/
def RdX (w : World) (q : Option Addr) (xs : List Value) : Prop := ∀ (i : Nat) u, xs[i]? = some u → ∃ A, q = some A ∧ A.block < w.heap.size ∧ w.cell? (A.add i) = some u
theorem RdX.next {w w' : World} {q : Option Addr} {xs : List Value} (h : RdX w q xs) (hb : Below w.heap.size w w') : RdX w' q xs := by
  intro i u hu
  obtain ⟨A, hq, hA, hc⟩ := h i u hu
  refine ⟨A, hq, Nat.lt_of_lt_of_le hA hb.size, ?_⟩
  rw [hb.cell (by rw [addr_block]; exact hA)]
  exact hc
theorem rdX_of_owns {w : World} {base cap n size : Nat} {e : TypeId} {q : Option Addr} {xs : List Value} (h : w.ownsRow base e size (.slice q n cap) n xs) : RdX w q xs := by
  intro i u hu
  rcases h.2 with ⟨hv, hx⟩ | ⟨g', cap', cur, hv, _, hh, _⟩
  · have hl := h.1
    subst hx
    have := (List.getElem?_eq_some_iff.1 hu).1
    omega
  · have hcc := h.cells (g := g') (by rw [hv]; rfl) i u hu
    simp at hv
    obtain ⟨rfl, rfl⟩ := hv
    exact ⟨⟨g', 0, none⟩, rfl, (Array.getElem?_eq_some_iff.1 hh).1, hcc⟩
theorem row_form {w : World} {base : Nat} {e : TypeId} {size : Nat} {v : Value} {n : Nat} {xs : List Value} (h : w.ownsRow base e size v n xs) : ∃ q cap, v = .slice q n cap := by
  rcases h.2 with ⟨hv, hx⟩ | ⟨g, cap, cur, hv, _⟩
  · subst hx; exact ⟨_, _, hv⟩
  · exact ⟨_, _, hv⟩
theorem row_nelt {w : World} {base b : Nat} {e : TypeId} {size : Nat} {v : Value} {n : Nat} {xs : List Value} (h : w.ownsRow base e size v n xs) (hb : w.heap.size ≤ b) : some b ≠ v.ownBlock := fun e => Nat.lt_irrefl _ (Nat.lt_of_lt_of_le (h.lt _ e.symm).2 hb)
theorem block_not_rowL {W : World} {b : Nat} {t e : TypeId} {us : Array Value} {r : Nat × Nat} (h : W.heap[b]? = some (.cells us t r)) (hte : t ≠ e) {base size k : Nat} {v : Value} {xs : List Value} (hr : W.ownsRow base e size v k xs) : some b ≠ v.ownBlock := by
  rcases hr.2 with ⟨rfl, _⟩ | ⟨g, cap, cur, rfl, _, hgb, _⟩
  · simp [Value.ownBlock]
  · intro e'
    obtain rfl : b = g := by simpa [Value.ownBlock] using e'
    have := h.symm.trans hgb
    simp at this
    exact hte this.2.1
theorem rows_apart {w : World} {b1 b2 s1 s2 n1 n2 : Nat} {e1 e2 : TypeId} {v1 v2 : Value} {x1 x2 : List Value} (hne : e1 ≠ e2) (h1 : w.ownsRow b1 e1 s1 v1 n1 x1) (h2 : w.ownsRow b2 e2 s2 v2 n2 x2) : v1.ownBlock = none ∨ v1.ownBlock ≠ v2.ownBlock := by
  rcases h1.2 with ⟨rfl, _⟩ | ⟨g, cap, cur, rfl, _, hgb, _⟩
  · exact .inl rfl
  · exact .inr (block_not_rowL hgb hne h2)
def csCells (l : List CS) : List Value := l.flatMap fun c => [.int .u32 (c.1.toNat : Int), .int .u32 (c.2.toNat : Int)]
theorem csCells_snoc (l : List CS) (c : CS) : csCells (l ++ [c]) = csCells l ++ [.int .u32 (c.1.toNat : Int), .int .u32 (c.2.toNat : Int)] := by simp [csCells]
theorem csCells_len (l : List CS) : (csCells l).length = l.length * 2 := by
  induction l with
  | nil => rfl
  | cons c l ih => simp only [csCells, List.flatMap_cons, List.length_append] at *; rw [ih]; simp; omega
theorem csCells_at (l : List CS) (i : Nat) (c : CS) (h : l[i]? = some c) : (csCells l)[i * 2]? = some (.int .u32 (c.1.toNat : Int)) ∧ (csCells l)[i * 2 + 1]? = some (.int .u32 (c.2.toNat : Int)) := by
  induction l generalizing i with
  | nil => simp at h
  | cons q l ih =>
    cases i with
    | zero => simp at h; subst h; exact ⟨rfl, rfl⟩
    | succ i =>
      have := ih i (by simpa using h)
      have e1 : (i + 1) * 2 = i * 2 + 1 + 1 := by omega
      rw [e1]
      exact ⟨by simpa [csCells] using this.1, by simpa [csCells] using this.2⟩
/-- A place of a row of sets of calls. -/
theorem RdX.cs {w : World} {q : Option Addr} {l : List CS} (h : RdX w q (csCells l)) {i : Nat} {c : CS} (hc : l[i]? = some c) : ∃ A, q = some A ∧ A.block < w.heap.size ∧ w.cell? (A.add (i * 2)) = some (.int .u32 (c.1.toNat : Int)) ∧ w.cell? ⟨(A.add (i * 2)).block, (A.add (i * 2)).off + 1, none⟩ = some (.int .u32 (c.2.toNat : Int)) := by
  obtain ⟨A, hq, hA, h0⟩ := h _ _ (csCells_at l i c hc).1
  obtain ⟨A', hq', _, h1⟩ := h _ _ (csCells_at l i c hc).2
  obtain rfl : A = A' := by rw [hq] at hq'; simpa using hq'
  exact ⟨A, hq, hA, h0, by rw [← addr_one]; exact h1⟩
def boolCells (l : List Bool) : List Value := l.map Value.bool
theorem boolCells_snoc (l : List Bool) (c : Bool) : boolCells (l ++ [c]) = boolCells l ++ [.bool c] := by simp [boolCells]
theorem RdX.bl {w : World} {q : Option Addr} {l : List Bool} (h : RdX w q (boolCells l)) {i : Nat} {c : Bool} (hc : l[i]? = some c) : ∃ A, q = some A ∧ A.block < w.heap.size ∧ w.cell? (A.add i) = some (.bool c) := by
  exact h i _ (by simp [boolCells, hc])
structure LanV where
  lit : List CS
  gong : List Bool
  clr : CS
abbrev lanC (s : LanV) (q1 : Option Addr) (c1 : Nat) (q2 : Option Addr) (c2 : Nat) : List Value := [.slice q1 s.lit.length c1, .slice q2 s.gong.length c2, .int .u32 (s.clr.1.toNat : Int), .int .u32 (s.clr.2.toNat : Int)]
abbrev cvL (s : LanV) (q1 : Option Addr) (c1 : Nat) (q2 : Option Addr) (c2 : Nat) : Value := .agg #[.slice q1 s.lit.length c1, .slice q2 s.gong.length c2, .int .u32 (s.clr.1.toNat : Int), .int .u32 (s.clr.2.toNat : Int)]
def lan0 : LanV := ⟨[], [], (0#32, 0#32)⟩
/-- Whether the difference of two sets has a call, as the walk tells it. -/
def newB (c p : CS) : Bool := !(((minus c p).1.toNat : Int) == 0) || !(((minus c p).2.toNat : Int) == 0)
def stepL (b : BldV) (s : LanV) (v : ViewV) (p : CS) : LanV := ⟨s.lit ++ [minus (calledC b v) s.clr], s.gong ++ [newB (minus (calledC b v) s.clr) p], union s.clr (minus (calledC b v) s.clr)⟩
def lightK (b : BldV) (V : List ViewV) (B : List CS) : Nat → LanV
  | 0 => lan0
  | i + 1 => match V[i]?, B[i]? with
    | some v, some p => stepL b (lightK b V B i) v p
    | _, _ => lightK b V B i
theorem lightK_succ (b : BldV) (V : List ViewV) (B : List CS) (i : Nat) (v : ViewV) (p : CS) (hv : V[i]? = some v) (hp : B[i]? = some p) : lightK b V B (i + 1) = stepL b (lightK b V B i) v p := by
  simp only [lightK, hv, hp]
theorem lightK_len (b : BldV) (V : List ViewV) (B : List CS) (i : Nat) (hV : i ≤ V.length) (hB : i ≤ B.length) : (lightK b V B i).lit.length = i ∧ (lightK b V B i).gong.length = i := by
  induction i with
  | zero => exact ⟨rfl, rfl⟩
  | succ i ih =>
    obtain ⟨v, hv⟩ : ∃ v, V[i]? = some v := ⟨_, List.getElem?_eq_getElem (by omega)⟩
    obtain ⟨p, hp⟩ : ∃ p, B[i]? = some p := ⟨_, List.getElem?_eq_getElem (by omega)⟩
    rw [lightK_succ b V B i v p hv hp]
    have := ih (by omega) (by omega)
    simp [stepL, this]
def lightOk (b : BldV) (V : List ViewV) (B : List CS) : Prop := validN b = 0 ∧ V.length = b.cars.length ∧ B.length = b.cars.length
instance (b : BldV) (V : List ViewV) (B : List CS) : Decidable (lightOk b V B) := by unfold lightOk; infer_instance
def lightF (b : BldV) (V : List ViewV) (B : List CS) : LanV := if lightOk b V B then lightK b V B V.length else lan0
def lightE (b : BldV) (V : List ViewV) (B : List CS) : Int := if lightOk b V B then 0 else 1
theorem infoBo : (Try.prog.info? 4).map (fun i => (i.zero, i.size, i.bytes)) = some (some (.bool false), 1, 1) := by kernel_rfl
theorem cs_one (c : CS) : ∀ u ∈ ([.int .u32 (c.1.toNat : Int), .int .u32 (c.2.toNat : Int)] : List Value), u.oneCell' = true := by
  intro u hu
  simp only [List.mem_cons, List.not_mem_nil, or_false] at hu
  rcases hu with rfl | rfl <;> rfl
theorem bool_one (c : Bool) : ∀ u ∈ ([.bool c] : List Value), u.oneCell' = true := by
  intro u hu
  simp only [List.mem_cons, List.not_mem_nil, or_false] at hu
  rcases hu with rfl
  rfl
end Go.Proofs.Ytgoojlfpngmdlaa
