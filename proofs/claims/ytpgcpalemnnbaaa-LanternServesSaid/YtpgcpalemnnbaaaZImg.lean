/- The lanterns and gongs: the plain law, rows that can be read. Conditions: none. · The image of the journal as data; when it is one. Conditions: none. -/
import Derived.Test.YtpgcpalemnnbaaaZView
import Derived.Test.YtpgcpalemnnbaaaZSample
import Derived.Test.YtpgcpalemnnbaaaZValid18
import Derived.Laws.OwnMore
import Derived.Test.YtpgcpalemnnbaaaZCallsOf
import Derived.Test.YtpgcpalemnnbaaaZObs
namespace Go.Proofs.Ytpgcpalemnnbaaa
open Go.RowKit
/-- The slice from q on holds the cells. -/
def RdX (w : World) (q : Option Addr) (xs : List Value) : Prop := ∀ (i : Nat) u, xs[i]? = some u → ∃ A, q = some A ∧ A.block < w.heap.size ∧ w.cell? (A.add i) = some u
theorem RdX.next {w w' : World} {q : Option Addr} {xs : List Value} (h : RdX w q xs) (hb : Below w.heap.size w w') : RdX w' q xs := by
  intro i u hu
  obtain ⟨A, hq, hA, hc⟩ := h i u hu
  refine ⟨A, hq, Nat.lt_of_lt_of_le hA hb.size, ?_⟩
  rw [hb.cell (by rw [addr_block]; exact hA)]
  exact hc
theorem rdX_of_owns {w : World} {base cap n size : Nat} {e : TypeId} {q : Option Addr} {xs : List Value} (h : w.ownsRow base e size (.slice q n cap) n xs) : RdX w q xs := by
  intro i u hu
  rcases h.2 with ⟨hv, hx⟩ | ⟨g', cap', cur, hv, _, hh, _⟩
  · have hl := h.1
    subst hx
    have := (List.getElem?_eq_some_iff.1 hu).1
    omega
  · have hcc := h.cells (g := g') (by rw [hv]; rfl) i u hu
    simp at hv
    obtain ⟨rfl, rfl⟩ := hv
    exact ⟨⟨g', 0, none⟩, rfl, (Array.getElem?_eq_some_iff.1 hh).1, hcc⟩
theorem row_form {w : World} {base : Nat} {e : TypeId} {size : Nat} {v : Value} {n : Nat} {xs : List Value} (h : w.ownsRow base e size v n xs) : ∃ q cap, v = .slice q n cap := by
  rcases h.2 with ⟨hv, hx⟩ | ⟨g, cap, cur, hv, _⟩
  · subst hx; exact ⟨_, _, hv⟩
  · exact ⟨_, _, hv⟩
theorem row_nelt {w : World} {base b : Nat} {e : TypeId} {size : Nat} {v : Value} {n : Nat} {xs : List Value} (h : w.ownsRow base e size v n xs) (hb : w.heap.size ≤ b) : some b ≠ v.ownBlock := fun e => Nat.lt_irrefl _ (Nat.lt_of_lt_of_le (h.lt _ e.symm).2 hb)
theorem block_not_rowL {W : World} {b : Nat} {t e : TypeId} {us : Array Value} {r : Nat × Nat} (h : W.heap[b]? = some (.cells us t r)) (hte : t ≠ e) {base size k : Nat} {v : Value} {xs : List Value} (hr : W.ownsRow base e size v k xs) : some b ≠ v.ownBlock := by
  rcases hr.2 with ⟨rfl, _⟩ | ⟨g, cap, cur, rfl, _, hgb, _⟩
  · simp [Value.ownBlock]
  · intro e'
    obtain rfl : b = g := by simpa [Value.ownBlock] using e'
    have := h.symm.trans hgb
    simp at this
    exact hte this.2.1
theorem rows_apart {w : World} {b1 b2 s1 s2 n1 n2 : Nat} {e1 e2 : TypeId} {v1 v2 : Value} {x1 x2 : List Value} (hne : e1 ≠ e2) (h1 : w.ownsRow b1 e1 s1 v1 n1 x1) (h2 : w.ownsRow b2 e2 s2 v2 n2 x2) : v1.ownBlock = none ∨ v1.ownBlock ≠ v2.ownBlock := by
  rcases h1.2 with ⟨rfl, _⟩ | ⟨g, cap, cur, rfl, _, hgb, _⟩
  · exact .inl rfl
  · exact .inr (block_not_rowL hgb hne h2)
def csCells (l : List CS) : List Value := l.flatMap fun c => [.int .u32 (c.1.toNat : Int), .int .u32 (c.2.toNat : Int)]
theorem csCells_snoc (l : List CS) (c : CS) : csCells (l ++ [c]) = csCells l ++ [.int .u32 (c.1.toNat : Int), .int .u32 (c.2.toNat : Int)] := by simp [csCells]
theorem csCells_len (l : List CS) : (csCells l).length = l.length * 2 := by
  induction l with
  | nil => rfl
  | cons c l ih => simp only [csCells, List.flatMap_cons, List.length_append] at *; rw [ih]; simp; omega
theorem csCells_at (l : List CS) (i : Nat) (c : CS) (h : l[i]? = some c) : (csCells l)[i * 2]? = some (.int .u32 (c.1.toNat : Int)) ∧ (csCells l)[i * 2 + 1]? = some (.int .u32 (c.2.toNat : Int)) := by
  induction l generalizing i with
  | nil => simp at h
  | cons q l ih =>
    cases i with
    | zero => simp at h; subst h; exact ⟨rfl, rfl⟩
    | succ i =>
      have := ih i (by simpa using h)
      have e1 : (i + 1) * 2 = i * 2 + 1 + 1 := by omega
      rw [e1]
      exact ⟨by simpa [csCells] using this.1, by simpa [csCells] using this.2⟩
/-- A place of a row of sets of calls. -/
theorem RdX.cs {w : World} {q : Option Addr} {l : List CS} (h : RdX w q (csCells l)) {i : Nat} {c : CS} (hc : l[i]? = some c) : ∃ A, q = some A ∧ A.block < w.heap.size ∧ w.cell? (A.add (i * 2)) = some (.int .u32 (c.1.toNat : Int)) ∧ w.cell? ⟨(A.add (i * 2)).block, (A.add (i * 2)).off + 1, none⟩ = some (.int .u32 (c.2.toNat : Int)) := by
  obtain ⟨A, hq, hA, h0⟩ := h _ _ (csCells_at l i c hc).1
  obtain ⟨A', hq', _, h1⟩ := h _ _ (csCells_at l i c hc).2
  obtain rfl : A = A' := by rw [hq] at hq'; simpa using hq'
  exact ⟨A, hq, hA, h0, by rw [← addr_one]; exact h1⟩
def boolCells (l : List Bool) : List Value := l.map Value.bool
theorem boolCells_snoc (l : List Bool) (c : Bool) : boolCells (l ++ [c]) = boolCells l ++ [.bool c] := by simp [boolCells]
theorem RdX.bl {w : World} {q : Option Addr} {l : List Bool} (h : RdX w q (boolCells l)) {i : Nat} {c : Bool} (hc : l[i]? = some c) : ∃ A, q = some A ∧ A.block < w.heap.size ∧ w.cell? (A.add i) = some (.bool c) := by
  exact h i _ (by simp [boolCells, hc])
structure LanV where
  lit : List CS
  gong : List Bool
  clr : CS
abbrev lanC (s : LanV) (q1 : Option Addr) (c1 : Nat) (q2 : Option Addr) (c2 : Nat) : List Value := [.slice q1 s.lit.length c1, .slice q2 s.gong.length c2, .int .u32 (s.clr.1.toNat : Int), .int .u32 (s.clr.2.toNat : Int)]
abbrev cvL (s : LanV) (q1 : Option Addr) (c1 : Nat) (q2 : Option Addr) (c2 : Nat) : Value := .agg #[.slice q1 s.lit.length c1, .slice q2 s.gong.length c2, .int .u32 (s.clr.1.toNat : Int), .int .u32 (s.clr.2.toNat : Int)]
def lan0 : LanV := ⟨[], [], (0#32, 0#32)⟩
/-- Whether the difference of two sets has a call, as the walk tells it. -/
def newB (c p : CS) : Bool := !(((minus c p).1.toNat : Int) == 0) || !(((minus c p).2.toNat : Int) == 0)
def stepL (b : BldV) (s : LanV) (v : ViewV) (p : CS) : LanV := ⟨s.lit ++ [minus (calledC b v) s.clr], s.gong ++ [newB (minus (calledC b v) s.clr) p], union s.clr (minus (calledC b v) s.clr)⟩
def lightK (b : BldV) (V : List ViewV) (B : List CS) : Nat → LanV
  | 0 => lan0
  | i + 1 => match V[i]?, B[i]? with
    | some v, some p => stepL b (lightK b V B i) v p
    | _, _ => lightK b V B i
theorem lightK_succ (b : BldV) (V : List ViewV) (B : List CS) (i : Nat) (v : ViewV) (p : CS) (hv : V[i]? = some v) (hp : B[i]? = some p) : lightK b V B (i + 1) = stepL b (lightK b V B i) v p := by
  simp only [lightK, hv, hp]
theorem lightK_len (b : BldV) (V : List ViewV) (B : List CS) (i : Nat) (hV : i ≤ V.length) (hB : i ≤ B.length) : (lightK b V B i).lit.length = i ∧ (lightK b V B i).gong.length = i := by
  induction i with
  | zero => exact ⟨rfl, rfl⟩
  | succ i ih =>
    obtain ⟨v, hv⟩ : ∃ v, V[i]? = some v := ⟨_, List.getElem?_eq_getElem (by omega)⟩
    obtain ⟨p, hp⟩ : ∃ p, B[i]? = some p := ⟨_, List.getElem?_eq_getElem (by omega)⟩
    rw [lightK_succ b V B i v p hv hp]
    have := ih (by omega) (by omega)
    simp [stepL, this]
def lightOk (b : BldV) (V : List ViewV) (B : List CS) : Prop := validN b = 0 ∧ V.length = b.cars.length ∧ B.length = b.cars.length
instance (b : BldV) (V : List ViewV) (B : List CS) : Decidable (lightOk b V B) := by unfold lightOk; infer_instance
def lightF (b : BldV) (V : List ViewV) (B : List CS) : LanV := if lightOk b V B then lightK b V B V.length else lan0
def lightE (b : BldV) (V : List ViewV) (B : List CS) : Int := if lightOk b V B then 0 else 1
theorem infoCS : (Try.prog.info? 33).map (fun i => (i.zero, i.size, i.bytes)) = some (some (.agg #[.int .u32 0, .int .u32 0]), 2, 8) := by kernel_rfl
theorem infoBo : (Try.prog.info? 4).map (fun i => (i.zero, i.size, i.bytes)) = some (some (.bool false), 1, 1) := by kernel_rfl
theorem cs_one (c : CS) : ∀ u ∈ ([.int .u32 (c.1.toNat : Int), .int .u32 (c.2.toNat : Int)] : List Value), u.oneCell' = true := by
  intro u hu
  simp only [List.mem_cons, List.not_mem_nil, or_false] at hu
  rcases hu with rfl | rfl <;> rfl
theorem bool_one (c : Bool) : ∀ u ∈ ([.bool c] : List Value), u.oneCell' = true := by
  intro u hu
  simp only [List.mem_cons, List.not_mem_nil, or_false] at hu
  rcases hu with rfl
  rfl
end Go.Proofs.Ytpgcpalemnnbaaa
namespace Go.Proofs.Ytpgcpalemnnbaaa
open Go.RowKit
/-- An image: phases, flags, leaving, entries. -/
structure ImgV where
  ph : List Int
  fg : List Bool
  lv : List Bool
  en : List E5
/-- Where its rows lie. -/
structure ImgA where
  p : Option Addr
  pc : Nat
  f : Option Addr
  fc : Nat
  l : Option Addr
  lc : Nat
  e : Option Addr
  ec : Nat
def imgA0 : ImgA := ⟨none, 0, none, 0, none, 0, none, 0⟩
def img0 : ImgV := ⟨[], [], [], []⟩
abbrev cvM (m : ImgV) (a : ImgA) : Value := .agg #[.slice a.p m.ph.length a.pc, .slice a.f m.fg.length a.fc, .slice a.l m.lv.length a.lc, .slice a.e m.en.length a.ec]
abbrev cvE (e : E5) : Value := .agg #[.int .i64 e.1, .int .i64 e.2.1, .int .i64 e.2.2.1, .int .i64 e.2.2.2.1, .bool e.2.2.2.2]
def intCells (l : List Int) : List Value := l.map (Value.int .i64)
def entCells (l : List E5) : List Value := l.flatMap E5.cell
theorem entCells_snoc (l : List E5) (e : E5) : entCells (l ++ [e]) = entCells l ++ e.cell := by simp [entCells]
theorem E5.cell_len (e : E5) : e.cell.length = 5 := rfl
theorem entCells_len (l : List E5) : (entCells l).length = l.length * 5 := by
  induction l with
  | nil => rfl
  | cons c l ih => simp only [entCells, List.flatMap_cons, List.length_append] at *; rw [ih, E5.cell_len]; simp; omega
theorem entCells_at (l : List E5) (i : Nat) (e : E5) (h : l[i]? = some e) (j : Nat) (hj : j < 5) : (entCells l)[i * 5 + j]? = e.cell[j]? := by
  induction l generalizing i with
  | nil => simp at h
  | cons q l ih =>
    cases i with
    | zero =>
      simp at h; subst h
      show (q.cell ++ entCells l)[0 * 5 + j]? = _
      rw [List.getElem?_append_left (by rw [E5.cell_len]; omega), Nat.zero_mul, Nat.zero_add]
    | succ i =>
      show (q.cell ++ entCells l)[(i + 1) * 5 + j]? = _
      rw [List.getElem?_append_right (by rw [E5.cell_len]; omega), E5.cell_len, show (i + 1) * 5 + j - 5 = i * 5 + j by omega]
      exact ih i (by simpa using h)
/-- The slices of the image hold it. -/
def RdM (w : World) (m : ImgV) (a : ImgA) : Prop := RdX w a.p (intCells m.ph) ∧ RdX w a.f (boolCells m.fg) ∧ RdX w a.l (boolCells m.lv) ∧ RdX w a.e (entCells m.en)
theorem RdM.next {w w' : World} {m : ImgV} {a : ImgA} (h : RdM w m a) (hb : Below w.heap.size w w') : RdM w' m a := ⟨h.1.next hb, h.2.1.next hb, h.2.2.1.next hb, h.2.2.2.next hb⟩
theorem RdX.it {w : World} {q : Option Addr} {l : List Int} (h : RdX w q (intCells l)) {i : Nat} {c : Int} (hc : l[i]? = some c) : ∃ A, q = some A ∧ A.block < w.heap.size ∧ w.cell? (A.add i) = some (.int .i64 c) := by
  exact h i _ (by simp [intCells, hc])
/-- A place of a row of entries. -/
theorem RdX.en {w : World} {q : Option Addr} {l : List E5} (h : RdX w q (entCells l)) {i : Nat} {e : E5} (he : l[i]? = some e) : ∃ A, q = some A ∧ A.block < w.heap.size ∧ ∀ j u, e.cell[j]? = some u → w.cell? (A.add (i * 5 + j)) = some u := by
  obtain ⟨A, hq, hA, _⟩ := h (i * 5 + 0) (.int .i64 e.1) (by rw [entCells_at l i e he 0 (by omega)]; rfl)
  refine ⟨A, hq, hA, fun j u hu => ?_⟩
  have hj : j < 5 := (List.getElem?_eq_some_iff.1 hu).1
  obtain ⟨A', hq', _, hc⟩ := h (i * 5 + j) u (by rw [entCells_at l i e he j hj]; exact hu)
  obtain rfl : A = A' := by rw [hq] at hq'; simpa using hq'
  exact hc
theorem RdX.en5 {w : World} {q : Option Addr} {l : List E5} (h : RdX w q (entCells l)) {i : Nat} {e : E5} (he : l[i]? = some e) : ∃ A, q = some A ∧ A.block < w.heap.size ∧
    w.cell? (A.add (i * 5)) = some (.int .i64 e.1) ∧ w.cell? ⟨(A.add (i * 5)).block, (A.add (i * 5)).off + 1, none⟩ = some (.int .i64 e.2.1) ∧ w.cell? ⟨(A.add (i * 5)).block, (A.add (i * 5)).off + 2, none⟩ = some (.int .i64 e.2.2.1) ∧ w.cell? ⟨(A.add (i * 5)).block, (A.add (i * 5)).off + 3, none⟩ = some (.int .i64 e.2.2.2.1) ∧ w.cell? ⟨(A.add (i * 5)).block, (A.add (i * 5)).off + 4, none⟩ = some (.bool e.2.2.2.2) := by
  obtain ⟨A, hq, hA, hc⟩ := h.en he
  exact ⟨A, hq, hA, hc 0 _ rfl, by rw [← addr_one]; exact hc 1 _ rfl, by rw [← addr_one]; exact hc 2 _ rfl, by rw [← addr_one]; exact hc 3 _ rfl, by rw [← addr_one]; exact hc 4 _ rfl⟩
theorem rd_of_en {w : World} {q : Option Addr} {cap : Nat} {l : List E5} (h : RdX w q (entCells l)) : Rd w (.slice q l.length cap) l := ⟨q, cap, rfl, fun _ _ he => h.en he⟩
/-- The order of two entries. -/
def cmpE (x y : E5) : Int := orL [cmpI x.1 y.1, cmpI x.2.1 y.2.1]
def lessE (x y : E5) : Bool := decide (x.1 < y.1) || (decide (x.1 = y.1) && decide (x.2.1 < y.2.1))
theorem cmpE_less (x y : E5) : decide (0 ≤ cmpE x y) = !lessE x y := by
  obtain ⟨a, b, _⟩ := x
  obtain ⟨c, d, _⟩ := y
  unfold cmpE lessE orL cmpI
  by_cases p1 : a < c
  · simp [p1]
  · by_cases p2 : c < a
    · have : ¬ a = c := by omega
      simp [p1, p2, this]
    · obtain rfl : a = c := by omega
      by_cases p3 : b < d
      · simp [p3]
      · by_cases p4 : d < b
        · simp [p3, p4]
        · simp [p3, p4]
def entryB (b : BldV) (e : E5) : Bool := callB b e.1 e.2.1 && decide (-2 ≤ e.2.2.1) && decide (e.2.2.1 < (b.cars.length : Int)) && decide (0 ≤ e.2.2.2.1) && decide (e.2.2.2.1 ≤ 255)
def entStep (b : BldV) (l : List E5) (i : Nat) : Bool := match l[i]? with
  | none => true
  | some e => entryB b e && (match i with | 0 => true | j + 1 => match l[j]? with | none => true | some d => lessE d e)
def entsB (b : BldV) (l : List E5) (k : Nat) : Bool := (List.range k).all (entStep b l)
theorem entsB_succ (b : BldV) (l : List E5) (k : Nat) : entsB b l (k + 1) = (entsB b l k && entStep b l k) := by
  unfold entsB
  rw [List.range_succ, List.all_append]; simp
theorem entsB_bad (b : BldV) (l : List E5) (k n : Nat) (hk : k < n) (h : entStep b l k = false) : entsB b l n = false := by
  unfold entsB
  rw [List.all_eq_false]
  exact ⟨k, List.mem_range.2 hk, by simp [h]⟩
def headM (b : BldV) (m : ImgV) : Bool := decide (validN b = 0) && decide (m.ph.length = b.cars.length) && decide (m.fg.length = b.cars.length) && decide (m.lv.length = b.cars.length)
def phB (l : List Int) : Bool := l.all (inR 0 4)
def imgB (b : BldV) (m : ImgV) : Bool := headM b m && phB m.ph && entsB b m.en m.en.length
end Go.Proofs.Ytpgcpalemnnbaaa
