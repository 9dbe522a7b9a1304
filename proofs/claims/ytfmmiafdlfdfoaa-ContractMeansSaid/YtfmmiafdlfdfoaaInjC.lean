/- The walk over belief.Inject. Conditions: cars and duties that can be read, at most 900 duties. -/
import Derived.Test.YtfmmiafdlfdfoaaInjLaw
import Derived.Test.YtfmmiafdlfdfoaaHallC
import Derived.Test.YtfmmiafdlfdfoaaCallsEach
import Derived.Laws.OwnMore
namespace Go.Proofs.Ytfmmiafdlfdfoaa
open Go.RowKit
/-- What the code's Inject hands back. -/
def injectN (b : BldV) (s : BelV) (c : CS) : List Duty := insF s.du (listC (both c (hallC b)))
def injectW (b : BldV) (car : Int) (s : BelV) (c : CS) : BelV := if stateB b car s then ⟨s.fl, s.dir, s.door, injectN b s c, s.still, s.late && decide ((injectN b s c).length = 0)⟩ else zeroB
def zerosD (n : Nat) : Array Value := madeCells #[.int .i64 0, .int .i64 0, .int .i64 0] (n * 3)
theorem run_mkD (n : Nat) (hn : n ≤ 5000) (W : World) :
    (Instr.makeSlice 36 (.int .i64 (n : Int)) (.int .i64 (n : Int))).run Try.prog W = .ok (.slice (some ⟨W.heap.size, 0, none⟩) n n) (W.alloc (.cells (zerosD n) 71)) := by
  obtain ⟨i, hi, hz0, hz1, hz2⟩ := info_parts infoD
  have h := run_make (P := Try.prog) W 36 71 i (.agg #[.int .i64 0, .int .i64 0, .int .i64 0]) Try.underlying36 hi hz0 .i64 .i64 n n (by omega) (Int.le_refl _) (by rw [hz2]; omega) (by omega)
  rw [h]
  simp [zerosD, hz1, Value.cells]
theorem zerosD_size (n : Nat) : (zerosD n).size = n * 3 := size_madeCells _ _
/-- copy of all duties into a new row. -/
theorem copy_duties (w : World) (g5 n cap' : Nat) (q' : Option Addr) (L : List Duty) (hl : L.length = n) (hn : n ≤ 5000) (base : Nat) (hb : base ≤ g5) (hg : w.heap[g5]? = some (.cells (zerosD n) 71 (0, 0))) (hr : RdD w q' L) : ∃ (r : Value) (w' : World),
    (Builtin.copy_ #[36, 36] 3 #[.slice (some ⟨g5, 0, none⟩) n n, .slice q' n cap']).run Try.prog w = .ok r w' ∧ w'.ownsRow base 71 3 (.slice (some ⟨g5, 0, none⟩) n n) n (dutyCells L) ∧ w.grownBy w' (some g5) := by
  have hX : (dutyCells L).length = n * 3 := by rw [dutyCells_len, hl]
  cases q' with
  | none =>
    have h0 : L = [] := by
      cases L with
      | nil => rfl
      | cons d L =>
        obtain ⟨A, hA, _⟩ := hr 0 d rfl
        cases hA
    subst h0
    obtain rfl : n = 0 := hl.symm
    refine ⟨goInt 0, w, ?_, ⟨by simp [dutyCells], .inr ⟨g5, 0, zerosD 0, rfl, hb, hg, Nat.le_refl _, by omega, zerosD_size 0, by simp [dutyCells]⟩⟩, ⟨rfl, rfl, rfl, Nat.le_refl _, fun _ _ _ => rfl⟩⟩
    obtain ⟨i, hi, _⟩ := info_parts infoD
    simp [Builtin.copy_, run_underlying Try.underlying36, Builtin.lenOf, Builtin.firstCells, sizeOf, typeInfo, hi, storeCells]
  | some a =>
    have h := run_copy_rowK (P := Try.prog) w 36 36 3 71 g5 0 n n a n cap' 3 (zerosD n) 71 (dutyCells L) Try.underlying36 (by kernel_rfl) hg ?_ (fun j v hj => ?_) ?_ (dutyCells_one L)
    · refine ⟨_, _, h, ⟨hX, .inr ⟨g5, n, _, rfl, hb, setRow_heap _ _ _ _ _ _ hg, Nat.le_refl _, by unfold maxLen; omega, ?_, ?_⟩⟩, ⟨rfl, rfl, rfl, by simp [World.setRow], fun k _ hk => setRow_other _ _ _ _ (fun e => hk (by rw [e]))⟩⟩
      · have := zerosD_size n
        simp [hX]; omega
      · have := zerosD_size n
        simp only [List.take_zero, List.nil_append, Nat.zero_add]
        rw [List.take_append_of_le_length (by omega), ← hX, List.take_length]
    · show min n n * 3 = _
      rw [Nat.min_self, hX]
    · obtain ⟨i, d, r, h1, h2, rfl⟩ := duty_split L j v hj
      obtain ⟨A, hA, _, hc⟩ := hr i d h1
      obtain rfl : a = A := by simpa using hA
      exact hc r v h2
    · rw [hX, zerosD_size]; omega
/-- The list of entries, told: it is a row of its own. -/
def entsR (lo : Nat) (all : List (Int × Int)) (v : Value) (w : World) : Prop := ∃ q cap, v = .slice q all.length cap ∧ w.ownsRow lo 53 5 (.slice q all.length cap) all.length (cells all)
theorem entsR_stable (lo : Nat) (all : List (Int × Int)) (v : Value) : Grow.Stable (entsR lo all v) := by
  rintro w w' ⟨q, cap, hv, hr⟩ hb
  exact ⟨q, cap, hv, rowLater hr hb⟩
theorem entsR_form {lo : Nat} {all : List (Int × Int)} {v : Value} {w : World} (h : entsR lo all v w) : ∃ q cap, v = .slice q all.length cap := by
  obtain ⟨q, cap, hv, _⟩ := h
  exact ⟨q, cap, hv⟩
theorem entsR_out {lo : Nat} {all : List (Int × Int)} {q : Option Addr} {cap : Nat} {w : World} (h : entsR lo all (.slice q all.length cap) w) : w.ownsRow lo 53 5 (.slice q all.length cap) all.length (cells all) := by
  obtain ⟨q', cap', hv, hr⟩ := h
  obtain ⟨rfl, rfl⟩ : q = q' ∧ cap = cap' := by simpa using hv
  exact hr
/-- Rows of two types lie in two blocks. -/
theorem rows_apart {w : World} {b1 b2 s1 s2 n1 n2 : Nat} {e1 e2 : TypeId} {v1 v2 : Value} {x1 x2 : List Value} (hne : e1 ≠ e2) (h1 : w.ownsRow b1 e1 s1 v1 n1 x1) (h2 : w.ownsRow b2 e2 s2 v2 n2 x2) : v1.ownBlock = none ∨ v1.ownBlock ≠ v2.ownBlock := by
  rcases h1.2 with ⟨rfl, _⟩ | ⟨g, cap, cur, rfl, _, hgb, _⟩
  · exact .inl rfl
  · exact .inr (block_not_row hgb hne h2)
end Go.Proofs.Ytfmmiafdlfdfoaa
