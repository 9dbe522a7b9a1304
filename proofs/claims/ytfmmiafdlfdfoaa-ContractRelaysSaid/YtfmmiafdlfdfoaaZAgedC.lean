/- The walk over belief.IsState. Conditions: cars and duties that can be read. · The walk over overlayref19.IsState. Conditions: cars and duties that can be read; slack times that are no more than the greatest number less one. · What is allowed and safe in a phase: the code and its reference. Conditions: none. · The walks over inject.Coils and overlayref20.Coils. Conditions: cars and duties that can be read; slack times that are no more than the greatest number less one. · The walk over overlayref19.aged. Conditions: a belief of the car; cars and duties that can be read. · The walk over belief.aged. Conditions: duties that can be read; ages and the limit in range. -/
import Derived.Test.YtfmmiafdlfdfoaaZState
import Derived.IntWalk
import Derived.Test.YtfmmiafdlfdfoaaZSmall
import Derived.Test.YtfmmiafdlfdfoaaZCalls
import Derived.Test.YtfmmiafdlfdfoaaZValid18
namespace Go.Proofs.Ytfmmiafdlfdfoaa
open Go.RowKit
end Go.Proofs.Ytfmmiafdlfdfoaa
namespace Go.Proofs.Ytfmmiafdlfdfoaa
open Go.RowKit
theorem cmpD_lin (e d : Duty) (h1 : 1 ≤ e.2.1) (h2 : e.2.1 ≤ 2) (h3 : 1 ≤ d.2.1) (h4 : d.2.1 ≤ 2) : decide (4 * d.1 + d.2.1 ≤ 4 * e.1 + e.2.1) = decide (0 ≤ cmpD e d) := by
  obtain ⟨a, b, c⟩ := e
  obtain ⟨x, y, z⟩ := d
  simp only at h1 h2 h3 h4 ⊢
  have : (0 ≤ cmpD (a, b, c) (x, y, z)) = (4 * x + y ≤ 4 * a + b) := by
    unfold cmpD orL cmpI
    apply propext
    by_cases p1 : a < x
    · simp [p1]; omega
    · by_cases p2 : x < a
      · simp [p1, p2]; omega
      · by_cases p3 : b < y
        · simp [p1, p2, p3]; omega
        · by_cases p4 : y < b
          · simp [p1, p2, p3, p4]; omega
          · simp [p1, p2, p3, p4]; omega
  simp only [this]
theorem callB_range (b : BldV) (f d : Int) (h : callB b f d = true) : 0 ≤ f ∧ f ≤ 31 ∧ 1 ≤ d ∧ d ≤ 2 := by
  simp only [callB, isCallB, Bool.and_eq_true, Bool.or_eq_true, decide_eq_true_eq, inR] at h
  have hf := valid_fl b h.1
  omega
end Go.Proofs.Ytfmmiafdlfdfoaa
namespace Go.Proofs.Ytfmmiafdlfdfoaa
open Go.RowKit
attribute [local go_sem ↓] run_eql_cs run_neq_cs
def allowedB (p k : Int) : Bool := decide (k = 0) || decide (p = 3) || decide (p = 4)

/-- Coils: the injected calls, cut out. -/
abbrev cvK (c : CS) (o : Bool) : Value := .agg #[.int .u32 (c.1.toNat : Int), .int .u32 (c.2.toNat : Int), .bool o]
def safeB (p : Int) (c : CS) (o : Bool) : Bool := (c == (0#32, 0#32)) || (!o && wiredB p)
theorem cv_eq (c : CS) : ((c.1.toNat : Int) == 0 && (c.2.toNat : Int) == 0) = (c == (0#32, 0#32)) := by
  have h := cv_ne c
  unfold bne at h
  generalize ((c.1.toNat : Int) == 0) = x at *
  generalize ((c.2.toNat : Int) == 0) = y at *
  generalize (c == (0#32, 0#32)) = z at *
  revert h
  cases x <;> cases y <;> cases z <;> decide
end Go.Proofs.Ytfmmiafdlfdfoaa
namespace Go.Proofs.Ytfmmiafdlfdfoaa
open Go.RowKit
def puOf (b : BldV) (car : Int) : Int := (b.cars[car.toNat]?.map CarV.pu).getD 0
def coilC (pu : Int) (l : List Duty) : CS := l.foldl (fun c d => if d.2.2 < pu then union c (one d.1 d.2.1) else c) (0#32, 0#32)
theorem coilC_snoc (pu : Int) (l : List Duty) (i : Nat) (d : Duty) (h : l[i]? = some d) : coilC pu (l.take (i + 1)) = if d.2.2 < pu then union (coilC pu (l.take i)) (one d.1 d.2.1) else coilC pu (l.take i) := by
  rw [List.take_add_one, h]
  simp [coilC]
def wiredOn (b : BldV) (car p : Int) (s : BelV) : Bool := wiredB p && stateB b car s
def coilV (b : BldV) (car p : Int) (s : BelV) : CS := if wiredOn b car p s then coilC (puOf b car) s.du else (0#32, 0#32)
theorem stateB_car (b : BldV) (car : Int) (s : BelV) (h : stateB b car s = true) : inR 0 ((b.cars.length : Int) - 1) car = true := by
  simp only [stateB, headB, Bool.and_eq_true] at h
  exact h.1.1.1.1.1.1.2
theorem car_pu (b : BldV) (car : Int) (h : inR 0 ((b.cars.length : Int) - 1) car = true) : ∃ c, 0 ≤ car ∧ car < (b.cars.length : Int) ∧ b.cars[car.toNat]? = some c ∧ puOf b car = c.pu := by
  obtain ⟨h0, h1⟩ := (inR_iff _ _ _).1 h
  have hn : car.toNat < b.cars.length := by omega
  exact ⟨b.cars[car.toNat], h0, by omega, List.getElem?_eq_getElem hn, by simp [puOf, hn]⟩
theorem RdC.reg1 {w : World} {q : Option Addr} {l : List CarV} (h : RdC w q l) {i : Nat} {c : CarV} (hi : l[i]? = some c) : ∃ A, q = some A ∧ A.block < w.heap.size ∧ ∀ W, Grow.Cl w.drew W → W.cell? ⟨(A.add (i * 9)).block, (A.add (i * 9)).off + 1, none⟩ = some (.int .i64 c.pu) := by
  obtain ⟨A, hq, hA, hc⟩ := h i c hi
  exact ⟨A, hq, hA, fun W hW => cell_later (Grow.Cl.base hW) (by rw [← addr_one]; exact hc 1 _ rfl)⟩
abbrev kC (c : CS) (o : Bool) : List Value := [.int .u32 (c.1.toNat : Int), .int .u32 (c.2.toNat : Int), .bool o]
end Go.Proofs.Ytfmmiafdlfdfoaa
namespace Go.Proofs.Ytfmmiafdlfdfoaa
open Go.RowKit
def agedD (d : Duty) : Duty := (d.1, d.2.1, d.2.2 + 1)
def agedL (c : CS) (l : List Duty) : List Duty := (l.filter fun d => !has c d.1 d.2.1).map agedD
def agedLate (dl : Int) (l : List Duty) : Bool := l.any fun d => decide (dl < d.2.2 + 1)
def agedV (b : BldV) (car : Int) (s : BelV) (c : CS) : BelV := ⟨s.fl, s.dir, s.door, if agedLate (dlOf b car) s.du then [] else agedL c s.du, s.still, agedLate (dlOf b car) s.du⟩
def dutyCells (l : List Duty) : List Value := l.flatMap Duty.cells
theorem dutyCells_snoc (l : List Duty) (d : Duty) : dutyCells (l ++ [d]) = dutyCells l ++ d.cells := by simp [dutyCells]
theorem dutyCells_at (l : List Duty) (i : Nat) (d : Duty) (h : l[i]? = some d) (j : Nat) (u : Value) (hu : d.cells[j]? = some u) : (dutyCells l)[i * 3 + j]? = some u := by
  induction l generalizing i with
  | nil => simp at h
  | cons e l ih =>
    have hj : j < 3 := (List.getElem?_eq_some_iff.1 hu).1
    cases i with
    | zero =>
      obtain rfl : e = d := by simpa using h
      simp only [dutyCells, List.flatMap_cons, Nat.zero_mul, Nat.zero_add]
      rw [List.getElem?_append_left (by simp; omega)]
      exact hu
    | succ i =>
      have := ih i (by simpa using h)
      simp only [dutyCells, List.flatMap_cons] at this ⊢
      rw [List.getElem?_append_right (by simp; omega)]
      rw [show (i + 1) * 3 + j - (Duty.cells e).length = i * 3 + j by simp; omega]
      exact this
theorem agedL_take (c : CS) (l : List Duty) (i : Nat) (d : Duty) (h : l[i]? = some d) : agedL c (l.take (i + 1)) = if has c d.1 d.2.1 then agedL c (l.take i) else agedL c (l.take i) ++ [agedD d] := by
  rw [List.take_add_one, h]
  cases hh : has c d.1 d.2.1 <;> simp [agedL, hh]
theorem agedLate_take (dl : Int) (l : List Duty) (i : Nat) (d : Duty) (h : l[i]? = some d) : agedLate dl (l.take (i + 1)) = (agedLate dl (l.take i) || decide (dl < d.2.2 + 1)) := by
  rw [List.take_add_one, h]
  simp [agedLate]
theorem agedL_len (c : CS) (l : List Duty) : (agedL c l).length ≤ l.length := by
  unfold agedL; rw [List.length_map]; exact List.length_filter_le _ _
theorem duty_one (d : Duty) : ∀ u ∈ d.cells, u.oneCell' = true := by
  intro u hu
  simp only [Duty.cells, List.mem_cons, List.not_mem_nil, or_false] at hu
  rcases hu with rfl | rfl | rfl <;> rfl
theorem duty_new (w : World) (d : Duty) (t : TypeId) : ∀ j u, d.cells[j]? = some u → (w.alloc (.cells #[.int .i64 d.1, .int .i64 d.2.1, .int .i64 d.2.2] t)).cell? ((⟨w.heap.size, 0, none⟩ : Addr).add j) = some u :=
  blk_news (Blk.new w d.cells t)
theorem row_form {w : World} {base : Nat} {e : TypeId} {size : Nat} {v : Value} {n : Nat} {xs : List Value} (h : w.ownsRow base e size v n xs) : ∃ q cap, v = .slice q n cap := by
  rcases h.2 with ⟨hv, hx⟩ | ⟨g, cap, cur, hv, _⟩
  · subst hx; exact ⟨_, _, hv⟩
  · exact ⟨_, _, hv⟩
theorem rdD_of_owns {w : World} {base cap n : Nat} {q : Option Addr} {l : List Duty} (h : w.ownsRow base 71 3 (.slice q n cap) n (dutyCells l)) (hn : l.length = n) : RdD w q l := by
  intro i c hc
  have hi := (List.getElem?_eq_some_iff.1 hc).1
  rcases h.2 with ⟨hv, hx⟩ | ⟨g', cap', cur, hv, _, hh, _⟩
  · simp at hv; omega
  · simp at hv
    obtain ⟨rfl, rfl⟩ := hv
    refine ⟨⟨g', 0, none⟩, rfl, (Array.getElem?_eq_some_iff.1 hh).1, fun j u hu => ?_⟩
    have hj : j < 3 := (List.getElem?_eq_some_iff.1 hu).1
    rw [Addr.add_lit, Nat.zero_add, h.cellAt _ (by omega)]
    exact dutyCells_at l i c hc j u hu
theorem infoD : (Try.prog.info? 71).map (fun i => (i.zero, i.size, i.bytes)) = some (some (.agg #[.int .i64 0, .int .i64 0, .int .i64 0]), 3, 24) := by kernel_rfl
theorem valid_dl (b : BldV) (h : validN b = 0) (i : Nat) (c : CarV) (hc : b.cars[i]? = some c) : c.dl ≤ 10000 := by
  have hg : goodB b b.cars.length = true := by
    cases e : goodB b b.cars.length
    · exfalso
      unfold validN at h
      rw [e] at h
      revert h
      cases inAll 2 32 [b.fl] <;> cases inAll 1 8 [(b.cars.length : Int)] <;> simp
    · rfl
  unfold goodB at hg
  rw [List.take_length] at hg
  simp only [Bool.and_eq_true, List.all_eq_true] at hg
  have := hg.2 c (List.mem_of_getElem? hc)
  unfold timesB inAll at this
  simp only [List.all_cons, Bool.and_eq_true] at this
  exact ((inR_iff _ _ _).1 this.1.1.1.1).2
/-- A belief of a car: ages are in range. -/
theorem state_ages (b : BldV) (car : Int) (s : BelV) (h : stateB b car s = true) (i : Nat) (d : Duty) (hd : s.du[i]? = some d) : 0 ≤ d.2.2 ∧ d.2.2 ≤ dlOf b car ∧ callB b d.1 d.2.1 = true := by
  have hi := (List.getElem?_eq_some_iff.1 hd).1
  simp only [stateB, Bool.and_eq_true, dutiesB, List.all_eq_true] at h
  have := h.2 i (List.mem_range.2 hi)
  unfold stepB at this
  rw [hd] at this
  simp only [dutyB, Bool.and_eq_true] at this
  have h2 := (inR_iff _ _ _).1 this.1.2
  exact ⟨h2.1, h2.2, this.1.1⟩
theorem state_valid (b : BldV) (car : Int) (s : BelV) (h : stateB b car s = true) : validN b = 0 := by
  simp only [stateB, headB, Bool.and_eq_true, decide_eq_true_eq] at h
  exact h.1.1.1.1.1.1.1
/-- A belief's value: its slice holds the duties; it lies from block lo on. -/
def belR (lo : Nat) (V : BelV) : Array Value → Value → World → Prop := fun _ v w => ∃ q cap, v = cvS V q cap ∧ RdD w q V.du ∧ ∀ A, q = some A → lo ≤ A.block
def belPlan (k lo : Nat) (V : BelV) : Grow.Plan := fun i => if i = k then some (belR lo V) else none
theorem belPlan_stable (k lo : Nat) (V : BelV) : (belPlan k lo V).stable := by
  intro i r h _ v w w' hr hb
  unfold belPlan at h
  split at h
  · cases h
    obtain ⟨q, cap, hv, hT, hlo⟩ := hr
    exact ⟨q, cap, hv, hT.next hb, hlo⟩
  · cases h
theorem belR_lo {lo lo' : Nat} {V : BelV} {xs ys : Array Value} {v : Value} {w : World} (h : belR lo V xs v w) (hl : lo' ≤ lo) : belR lo' V ys v w := by
  obtain ⟨q, cap, hv, hT, hlo⟩ := h
  exact ⟨q, cap, hv, hT, fun A hA => Nat.le_trans hl (hlo A hA)⟩
theorem row_lo {w : World} {base size n cap : Nat} {e : TypeId} {q : Option Addr} {xs : List Value} (h : w.ownsRow base e size (.slice q n cap) n xs) : ∀ A, q = some A → base ≤ A.block := by
  intro A hA
  rcases h.2 with ⟨hv, _⟩ | ⟨g, cap', cur, hv, hg, _⟩
  · simp at hv; rw [hv.1] at hA; cases hA
  · simp at hv; rw [hv.1] at hA; cases hA; exact hg
theorem cell_other {w : World} {g i : Nat} {u : Value} {p : Addr} (h : p.block ≠ g) : (w.setCell ⟨g, i, none⟩ u).cell? p = w.cell? p := by
  have e : (w.setCell ⟨g, i, none⟩ u).heap[p.block]? = w.heap[p.block]? := Below.heap_setCell _ _ _ _ h
  simp only [World.cell?, e]
theorem RdD.set {w : World} {q : Option Addr} {l : List Duty} (h : RdD w q l) {g i : Nat} {u : Value} (hq : ∀ A, q = some A → A.block ≠ g) : RdD (w.setCell ⟨g, i, none⟩ u) q l := by
  intro k d hk
  obtain ⟨A, hA, hlt, hc⟩ := h k d hk
  refine ⟨A, hA, by simpa [World.setCell] using hlt, fun j v hv => ?_⟩
  rw [cell_other (by rw [addr_block]; exact hq A hA)]
  exact hc j v hv
end Go.Proofs.Ytfmmiafdlfdfoaa
namespace Go.Proofs.Ytfmmiafdlfdfoaa
open Go.RowKit
theorem agedLate_bad (dl : Int) (l : List Duty) (i : Nat) (d : Duty) (h : l[i]? = some d) (hd : dl < d.2.2 + 1) : agedLate dl l = true := by
  unfold agedLate
  rw [List.any_eq_true]
  exact ⟨d, List.mem_of_getElem? h, by simpa using hd⟩
theorem row_nelt {w : World} {base b : Nat} {e : TypeId} {size : Nat} {v : Value} {n : Nat} {xs : List Value} (h : w.ownsRow base e size v n xs) (hb : w.heap.size ≤ b) : some b ≠ v.ownBlock := fun e => Nat.lt_irrefl _ (Nat.lt_of_lt_of_le (h.lt _ e.symm).2 hb)
/-- What belief.aged hands back. -/
def agedT (lo : Nat) (L : List Duty) (late : Bool) (v : Value) (w : World) : Prop := ∃ q cap, v = .tuple #[.slice q L.length cap, .bool late] ∧ RdD w q L ∧ ∀ A, q = some A → lo ≤ A.block
def agedOut (dl : Int) (c : CS) (l : List Duty) : List Duty := if agedLate dl l then [] else agedL c l
end Go.Proofs.Ytfmmiafdlfdfoaa
