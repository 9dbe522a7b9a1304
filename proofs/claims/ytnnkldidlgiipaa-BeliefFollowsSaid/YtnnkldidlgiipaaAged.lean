/- The walk over overlayref19.aged. Conditions: a belief of the car; cars and duties that can be read. -/
import Derived.Test.YtnnkldidlgiipaaCoils
namespace Go.Proofs.Ytnnkldidlgiipaa
open Go.RowKit
def agedD (d : Duty) : Duty := (d.1, d.2.1, d.2.2 + 1)
def agedL (c : CS) (l : List Duty) : List Duty := (l.filter fun d => !has c d.1 d.2.1).map agedD
def agedLate (dl : Int) (l : List Duty) : Bool := l.any fun d => decide (dl < d.2.2 + 1)
def agedV (b : BldV) (car : Int) (s : BelV) (c : CS) : BelV := ⟨s.fl, s.dir, s.door, if agedLate (dlOf b car) s.du then [] else agedL c s.du, s.still, agedLate (dlOf b car) s.du⟩
def dutyCells (l : List Duty) : List Value := l.flatMap Duty.cells
theorem dutyCells_snoc (l : List Duty) (d : Duty) : dutyCells (l ++ [d]) = dutyCells l ++ d.cells := by simp [dutyCells]
theorem dutyCells_at (l : List Duty) (i : Nat) (d : Duty) (h : l[i]? = some d) (j : Nat) (u : Value) (hu : d.cells[j]? = some u) : (dutyCells l)[i * 3 + j]? = some u := by
  induction l generalizing i with
  | nil => simp at h
  | cons e l ih =>
    have hj : j < 3 := (List.getElem?_eq_some_iff.1 hu).1
    cases i with
    | zero =>
      obtain rfl : e = d := by simpa using h
      simp only [dutyCells, List.flatMap_cons, Nat.zero_mul, Nat.zero_add]
      rw [List.getElem?_append_left (by simp; omega)]
      exact hu
    | succ i =>
      have := ih i (by simpa using h)
      simp only [dutyCells, List.flatMap_cons] at this ⊢
      rw [List.getElem?_append_right (by simp; omega)]
      rw [show (i + 1) * 3 + j - (Duty.cells e).length = i * 3 + j by simp; omega]
      exact this
theorem agedL_take (c : CS) (l : List Duty) (i : Nat) (d : Duty) (h : l[i]? = some d) : agedL c (l.take (i + 1)) = if has c d.1 d.2.1 then agedL c (l.take i) else agedL c (l.take i) ++ [agedD d] := by
  rw [List.take_add_one, h]
  cases hh : has c d.1 d.2.1 <;> simp [agedL, hh]
theorem agedLate_take (dl : Int) (l : List Duty) (i : Nat) (d : Duty) (h : l[i]? = some d) : agedLate dl (l.take (i + 1)) = (agedLate dl (l.take i) || decide (dl < d.2.2 + 1)) := by
  rw [List.take_add_one, h]
  simp [agedLate]
theorem agedL_len (c : CS) (l : List Duty) : (agedL c l).length ≤ l.length := by
  unfold agedL; rw [List.length_map]; exact List.length_filter_le _ _
theorem duty_one (d : Duty) : ∀ u ∈ d.cells, u.oneCell' = true := by
  intro u hu
  simp only [Duty.cells, List.mem_cons, List.not_mem_nil, or_false] at hu
  rcases hu with rfl | rfl | rfl <;> rfl
theorem duty_new (w : World) (d : Duty) (t : TypeId) : ∀ j u, d.cells[j]? = some u → (w.alloc (.cells #[.int .i64 d.1, .int .i64 d.2.1, .int .i64 d.2.2] t)).cell? ((⟨w.heap.size, 0, none⟩ : Addr).add j) = some u :=
  blk_news (Blk.new w d.cells t)
theorem row_form {w : World} {base : Nat} {e : TypeId} {size : Nat} {v : Value} {n : Nat} {xs : List Value} (h : w.ownsRow base e size v n xs) : ∃ q cap, v = .slice q n cap := by
  rcases h.2 with ⟨hv, hx⟩ | ⟨g, cap, cur, hv, _⟩
  · subst hx; exact ⟨_, _, hv⟩
  · exact ⟨_, _, hv⟩
theorem rdD_of_owns {w : World} {base cap n : Nat} {q : Option Addr} {l : List Duty} (h : w.ownsRow base 71 3 (.slice q n cap) n (dutyCells l)) (hn : l.length = n) : RdD w q l := by
  intro i c hc
  have hi := (List.getElem?_eq_some_iff.1 hc).1
  rcases h.2 with ⟨hv, hx⟩ | ⟨g', cap', cur, hv, _, hh, _⟩
  · simp at hv; omega
  · simp at hv
    obtain ⟨rfl, rfl⟩ := hv
    refine ⟨⟨g', 0, none⟩, rfl, (Array.getElem?_eq_some_iff.1 hh).1, fun j u hu => ?_⟩
    have hj : j < 3 := (List.getElem?_eq_some_iff.1 hu).1
    rw [Addr.add_lit, Nat.zero_add, h.cellAt _ (by omega)]
    exact dutyCells_at l i c hc j u hu
theorem infoD : (Try.prog.info? 71).map (fun i => (i.zero, i.size, i.bytes)) = some (some (.agg #[.int .i64 0, .int .i64 0, .int .i64 0]), 3, 24) := by kernel_rfl
theorem valid_dl (b : BldV) (h : validN b = 0) (i : Nat) (c : CarV) (hc : b.cars[i]? = some c) : c.dl ≤ 10000 := by
  have hg : goodB b b.cars.length = true := by
    cases e : goodB b b.cars.length
    · exfalso
      unfold validN at h
      rw [e] at h
      revert h
      cases inAll 2 32 [b.fl] <;> cases inAll 1 8 [(b.cars.length : Int)] <;> simp
    · rfl
  unfold goodB at hg
  rw [List.take_length] at hg
  simp only [Bool.and_eq_true, List.all_eq_true] at hg
  have := hg.2 c (List.mem_of_getElem? hc)
  unfold timesB inAll at this
  simp only [List.all_cons, Bool.and_eq_true] at this
  exact ((inR_iff _ _ _).1 this.1.1.1.1).2
/-- A belief of a car: ages are in range. -/
theorem state_ages (b : BldV) (car : Int) (s : BelV) (h : stateB b car s = true) (i : Nat) (d : Duty) (hd : s.du[i]? = some d) : 0 ≤ d.2.2 ∧ d.2.2 ≤ dlOf b car ∧ callB b d.1 d.2.1 = true := by
  have hi := (List.getElem?_eq_some_iff.1 hd).1
  simp only [stateB, Bool.and_eq_true, dutiesB, List.all_eq_true] at h
  have := h.2 i (List.mem_range.2 hi)
  unfold stepB at this
  rw [hd] at this
  simp only [dutyB, Bool.and_eq_true] at this
  have h2 := (inR_iff _ _ _).1 this.1.2
  exact ⟨h2.1, h2.2, this.1.1⟩
theorem state_valid (b : BldV) (car : Int) (s : BelV) (h : stateB b car s = true) : validN b = 0 := by
  simp only [stateB, headB, Bool.and_eq_true, decide_eq_true_eq] at h
  exact h.1.1.1.1.1.1.1
/-- A belief's value: its slice holds the duties; it lies from block lo on. -/
def belR (lo : Nat) (V : BelV) : Array Value → Value → World → Prop := fun _ v w => ∃ q cap, v = cvS V q cap ∧ RdD w q V.du ∧ ∀ A, q = some A → lo ≤ A.block
def belPlan (k lo : Nat) (V : BelV) : Grow.Plan := fun i => if i = k then some (belR lo V) else none
theorem belPlan_stable (k lo : Nat) (V : BelV) : (belPlan k lo V).stable := by
  intro i r h _ v w w' hr hb
  unfold belPlan at h
  split at h
  · cases h
    obtain ⟨q, cap, hv, hT, hlo⟩ := hr
    exact ⟨q, cap, hv, hT.next hb, hlo⟩
  · cases h
theorem belR_lo {lo lo' : Nat} {V : BelV} {xs ys : Array Value} {v : Value} {w : World} (h : belR lo V xs v w) (hl : lo' ≤ lo) : belR lo' V ys v w := by
  obtain ⟨q, cap, hv, hT, hlo⟩ := h
  exact ⟨q, cap, hv, hT, fun A hA => Nat.le_trans hl (hlo A hA)⟩
theorem row_lo {w : World} {base size n cap : Nat} {e : TypeId} {q : Option Addr} {xs : List Value} (h : w.ownsRow base e size (.slice q n cap) n xs) : ∀ A, q = some A → base ≤ A.block := by
  intro A hA
  rcases h.2 with ⟨hv, _⟩ | ⟨g, cap', cur, hv, hg, _⟩
  · simp at hv; rw [hv.1] at hA; cases hA
  · simp at hv; rw [hv.1] at hA; cases hA; exact hg
theorem cell_other {w : World} {g i : Nat} {u : Value} {p : Addr} (h : p.block ≠ g) : (w.setCell ⟨g, i, none⟩ u).cell? p = w.cell? p := by
  have e : (w.setCell ⟨g, i, none⟩ u).heap[p.block]? = w.heap[p.block]? := Below.heap_setCell _ _ _ _ h
  simp only [World.cell?, e]
theorem RdD.set {w : World} {q : Option Addr} {l : List Duty} (h : RdD w q l) {g i : Nat} {u : Value} (hq : ∀ A, q = some A → A.block ≠ g) : RdD (w.setCell ⟨g, i, none⟩ u) q l := by
  intro k d hk
  obtain ⟨A, hA, hlt, hc⟩ := h k d hk
  refine ⟨A, hA, by simpa [World.setCell] using hlt, fun j v hv => ?_⟩
  rw [cell_other (by rw [addr_block]; exact hq A hA)]
  exact hc j v hv
set_option maxHeartbeats 4000000 in
set_option maxRecDepth 100000 in
theorem refAged_any (b : BldV) (q : Option Addr) (cap : Nat) (car : Int) (s : BelV) (q' : Option Addr) (cap' : Nat) (c : CS) (w : World) (hlen' : s.du.length ≤ 1000) (hs : stateB b car s = true) (hr : RdC w q b.cars) (hd : RdD w q' s.du) :
    Calls Try.prog 55 #[cvB b q cap, .int .i64 car, cvS s q' cap', cv c] w fun e w' => ∃ v, e = .returned v ∧ Below w.heap.size w w' ∧ belR w.heap.size (agedV b car s c) #[] v w' := by
  obtain ⟨i0, hi, hy0, hy1, hy2⟩ := info_parts infoD
  have Hi := Lib.hid hi; have Hz0 := Lib.hid hy0; have Hz1 := Lib.hid hy1; have Hz2 := Lib.hid hy2
  clear hi hy0 hy1 hy2
  have X0 : Blk (w.alloc (.cells #[.int .i64 b.fl, .int .i64 b.deb, .int .i64 b.room, .int .i64 b.park, .float .f64 b.em, .float .f64 b.fu, .float .f64 b.ov, .slice q b.cars.length cap] 27)) w.heap.size [.int .i64 b.fl, .int .i64 b.deb, .int .i64 b.room, .int .i64 b.park, .float .f64 b.em, .float .f64 b.fu, .float .f64 b.ov, .slice q b.cars.length cap] := by
    have hx := Blk.new w [.int .i64 b.fl, .int .i64 b.deb, .int .i64 b.room, .int .i64 b.park, .float .f64 b.em, .float .f64 b.fu, .float .f64 b.ov, .slice q b.cars.length cap] 27
    exact hx
  replace X0 : Blk ((w.alloc (.cells #[.int .i64 b.fl, .int .i64 b.deb, .int .i64 b.room, .int .i64 b.park, .float .f64 b.em, .float .f64 b.fu, .float .f64 b.ov, .slice q b.cars.length cap] 27)).alloc (.cells #[.int .i64 s.fl, .int .i64 s.dir, .int .i64 s.door, .slice q' s.du.length cap', .int .i64 s.still, .bool s.late] 35)) w.heap.size [.int .i64 b.fl, .int .i64 b.deb, .int .i64 b.room, .int .i64 b.park, .float .f64 b.em, .float .f64 b.fu, .float .f64 b.ov, .slice q b.cars.length cap] := X0.next (below1' _ _)
  replace X0 : Blk (((w.alloc (.cells #[.int .i64 b.fl, .int .i64 b.deb, .int .i64 b.room, .int .i64 b.park, .float .f64 b.em, .float .f64 b.fu, .float .f64 b.ov, .slice q b.cars.length cap] 27)).alloc (.cells #[.int .i64 s.fl, .int .i64 s.dir, .int .i64 s.door, .slice q' s.du.length cap', .int .i64 s.still, .bool s.late] 35)).alloc (.cells #[.int .u32 (c.1.toNat : Int), .int .u32 (c.2.toNat : Int)] 39)) w.heap.size [.int .i64 b.fl, .int .i64 b.deb, .int .i64 b.room, .int .i64 b.park, .float .f64 b.em, .float .f64 b.fu, .float .f64 b.ov, .slice q b.cars.length cap] := X0.next (below1' _ _)
  replace X0 : Blk ((((w.alloc (.cells #[.int .i64 b.fl, .int .i64 b.deb, .int .i64 b.room, .int .i64 b.park, .float .f64 b.em, .float .f64 b.fu, .float .f64 b.ov, .slice q b.cars.length cap] 27)).alloc (.cells #[.int .i64 s.fl, .int .i64 s.dir, .int .i64 s.door, .slice q' s.du.length cap', .int .i64 s.still, .bool s.late] 35)).alloc (.cells #[.int .u32 (c.1.toNat : Int), .int .u32 (c.2.toNat : Int)] 39)).alloc (.cells #[.int .i64 0, .int .i64 0, .int .i64 0, .slice none 0 0, .int .i64 0, .bool false] 35)) w.heap.size [.int .i64 b.fl, .int .i64 b.deb, .int .i64 b.room, .int .i64 b.park, .float .f64 b.em, .float .f64 b.fu, .float .f64 b.ov, .slice q b.cars.length cap] := X0.next (below1' _ _)
  have X1 : Blk ((w.alloc (.cells #[.int .i64 b.fl, .int .i64 b.deb, .int .i64 b.room, .int .i64 b.park, .float .f64 b.em, .float .f64 b.fu, .float .f64 b.ov, .slice q b.cars.length cap] 27)).alloc (.cells #[.int .i64 s.fl, .int .i64 s.dir, .int .i64 s.door, .slice q' s.du.length cap', .int .i64 s.still, .bool s.late] 35)) (w.heap.size + 1) [.int .i64 s.fl, .int .i64 s.dir, .int .i64 s.door, .slice q' s.du.length cap', .int .i64 s.still, .bool s.late] := by
    have hx := Blk.new (w.alloc (.cells #[.int .i64 b.fl, .int .i64 b.deb, .int .i64 b.room, .int .i64 b.park, .float .f64 b.em, .float .f64 b.fu, .float .f64 b.ov, .slice q b.cars.length cap] 27)) [.int .i64 s.fl, .int .i64 s.dir, .int .i64 s.door, .slice q' s.du.length cap', .int .i64 s.still, .bool s.late] 35
    rw [World.size_alloc] at hx
    exact hx
  replace X1 : Blk (((w.alloc (.cells #[.int .i64 b.fl, .int .i64 b.deb, .int .i64 b.room, .int .i64 b.park, .float .f64 b.em, .float .f64 b.fu, .float .f64 b.ov, .slice q b.cars.length cap] 27)).alloc (.cells #[.int .i64 s.fl, .int .i64 s.dir, .int .i64 s.door, .slice q' s.du.length cap', .int .i64 s.still, .bool s.late] 35)).alloc (.cells #[.int .u32 (c.1.toNat : Int), .int .u32 (c.2.toNat : Int)] 39)) (w.heap.size + 1) [.int .i64 s.fl, .int .i64 s.dir, .int .i64 s.door, .slice q' s.du.length cap', .int .i64 s.still, .bool s.late] := X1.next (below1' _ _)
  replace X1 : Blk ((((w.alloc (.cells #[.int .i64 b.fl, .int .i64 b.deb, .int .i64 b.room, .int .i64 b.park, .float .f64 b.em, .float .f64 b.fu, .float .f64 b.ov, .slice q b.cars.length cap] 27)).alloc (.cells #[.int .i64 s.fl, .int .i64 s.dir, .int .i64 s.door, .slice q' s.du.length cap', .int .i64 s.still, .bool s.late] 35)).alloc (.cells #[.int .u32 (c.1.toNat : Int), .int .u32 (c.2.toNat : Int)] 39)).alloc (.cells #[.int .i64 0, .int .i64 0, .int .i64 0, .slice none 0 0, .int .i64 0, .bool false] 35)) (w.heap.size + 1) [.int .i64 s.fl, .int .i64 s.dir, .int .i64 s.door, .slice q' s.du.length cap', .int .i64 s.still, .bool s.late] := X1.next (below1' _ _)
  have X2 : Blk (((w.alloc (.cells #[.int .i64 b.fl, .int .i64 b.deb, .int .i64 b.room, .int .i64 b.park, .float .f64 b.em, .float .f64 b.fu, .float .f64 b.ov, .slice q b.cars.length cap] 27)).alloc (.cells #[.int .i64 s.fl, .int .i64 s.dir, .int .i64 s.door, .slice q' s.du.length cap', .int .i64 s.still, .bool s.late] 35)).alloc (.cells #[.int .u32 (c.1.toNat : Int), .int .u32 (c.2.toNat : Int)] 39)) (w.heap.size + 1 + 1) [.int .u32 (c.1.toNat : Int), .int .u32 (c.2.toNat : Int)] := by
    have hx := Blk.new ((w.alloc (.cells #[.int .i64 b.fl, .int .i64 b.deb, .int .i64 b.room, .int .i64 b.park, .float .f64 b.em, .float .f64 b.fu, .float .f64 b.ov, .slice q b.cars.length cap] 27)).alloc (.cells #[.int .i64 s.fl, .int .i64 s.dir, .int .i64 s.door, .slice q' s.du.length cap', .int .i64 s.still, .bool s.late] 35)) [.int .u32 (c.1.toNat : Int), .int .u32 (c.2.toNat : Int)] 39
    rw [World.size_alloc, World.size_alloc] at hx
    exact hx
  replace X2 : Blk ((((w.alloc (.cells #[.int .i64 b.fl, .int .i64 b.deb, .int .i64 b.room, .int .i64 b.park, .float .f64 b.em, .float .f64 b.fu, .float .f64 b.ov, .slice q b.cars.length cap] 27)).alloc (.cells #[.int .i64 s.fl, .int .i64 s.dir, .int .i64 s.door, .slice q' s.du.length cap', .int .i64 s.still, .bool s.late] 35)).alloc (.cells #[.int .u32 (c.1.toNat : Int), .int .u32 (c.2.toNat : Int)] 39)).alloc (.cells #[.int .i64 0, .int .i64 0, .int .i64 0, .slice none 0 0, .int .i64 0, .bool false] 35)) (w.heap.size + 1 + 1) [.int .u32 (c.1.toNat : Int), .int .u32 (c.2.toNat : Int)] := X2.next (below1' _ _)
  have X3 : Blk ((((w.alloc (.cells #[.int .i64 b.fl, .int .i64 b.deb, .int .i64 b.room, .int .i64 b.park, .float .f64 b.em, .float .f64 b.fu, .float .f64 b.ov, .slice q b.cars.length cap] 27)).alloc (.cells #[.int .i64 s.fl, .int .i64 s.dir, .int .i64 s.door, .slice q' s.du.length cap', .int .i64 s.still, .bool s.late] 35)).alloc (.cells #[.int .u32 (c.1.toNat : Int), .int .u32 (c.2.toNat : Int)] 39)).alloc (.cells #[.int .i64 0, .int .i64 0, .int .i64 0, .slice none 0 0, .int .i64 0, .bool false] 35)) (w.heap.size + 1 + 1 + 1) [.int .i64 0, .int .i64 0, .int .i64 0, .slice none 0 0, .int .i64 0, .bool false] := by
    have hx := Blk.new (((w.alloc (.cells #[.int .i64 b.fl, .int .i64 b.deb, .int .i64 b.room, .int .i64 b.park, .float .f64 b.em, .float .f64 b.fu, .float .f64 b.ov, .slice q b.cars.length cap] 27)).alloc (.cells #[.int .i64 s.fl, .int .i64 s.dir, .int .i64 s.door, .slice q' s.du.length cap', .int .i64 s.still, .bool s.late] 35)).alloc (.cells #[.int .u32 (c.1.toNat : Int), .int .u32 (c.2.toNat : Int)] 39)) [.int .i64 0, .int .i64 0, .int .i64 0, .slice none 0 0, .int .i64 0, .bool false] 35
    rw [World.size_alloc, World.size_alloc, World.size_alloc] at hx
    exact hx
  have XW : Below w.heap.size w (w.alloc (.cells #[.int .i64 b.fl, .int .i64 b.deb, .int .i64 b.room, .int .i64 b.park, .float .f64 b.em, .float .f64 b.fu, .float .f64 b.ov, .slice q b.cars.length cap] 27)) := below1' w _
  replace XW : Below w.heap.size w ((w.alloc (.cells #[.int .i64 b.fl, .int .i64 b.deb, .int .i64 b.room, .int .i64 b.park, .float .f64 b.em, .float .f64 b.fu, .float .f64 b.ov, .slice q b.cars.length cap] 27)).alloc (.cells #[.int .i64 s.fl, .int .i64 s.dir, .int .i64 s.door, .slice q' s.du.length cap', .int .i64 s.still, .bool s.late] 35)) := XW.trans ((below1' _ _).mono XW.size)
  replace XW : Below w.heap.size w (((w.alloc (.cells #[.int .i64 b.fl, .int .i64 b.deb, .int .i64 b.room, .int .i64 b.park, .float .f64 b.em, .float .f64 b.fu, .float .f64 b.ov, .slice q b.cars.length cap] 27)).alloc (.cells #[.int .i64 s.fl, .int .i64 s.dir, .int .i64 s.door, .slice q' s.du.length cap', .int .i64 s.still, .bool s.late] 35)).alloc (.cells #[.int .u32 (c.1.toNat : Int), .int .u32 (c.2.toNat : Int)] 39)) := XW.trans ((below1' _ _).mono XW.size)
  replace XW : Below w.heap.size w ((((w.alloc (.cells #[.int .i64 b.fl, .int .i64 b.deb, .int .i64 b.room, .int .i64 b.park, .float .f64 b.em, .float .f64 b.fu, .float .f64 b.ov, .slice q b.cars.length cap] 27)).alloc (.cells #[.int .i64 s.fl, .int .i64 s.dir, .int .i64 s.door, .slice q' s.du.length cap', .int .i64 s.still, .bool s.late] 35)).alloc (.cells #[.int .u32 (c.1.toNat : Int), .int .u32 (c.2.toNat : Int)] 39)).alloc (.cells #[.int .i64 0, .int .i64 0, .int .i64 0, .slice none 0 0, .int .i64 0, .bool false] 35)) := XW.trans ((below1' _ _).mono XW.size)
  have HWW := Lib.hid XW; have HX0 := Lib.hid X0; have HX1 := Lib.hid X1; have HX2 := Lib.hid X2; have HX3 := Lib.hid X3
  clear XW X0 X1 X2 X3
  have HR := Lib.hid hr; have HD := Lib.hid hd; have HST := Lib.hid hs
  obtain ⟨cc, hcn, hcl, hcg, hdl⟩ := car_at b car (stateB_car _ _ _ hs)
  have hdm := valid_dl b (state_valid _ _ _ hs) _ _ hcg
  have X3 := Lib.hid hcg; have HDL := Lib.hid hdl
  clear hr hd hs hcg hdl
  obtain ⟨n, hn⟩ : ∃ n, n = s.du.length := ⟨_, rfl⟩
  have HN := Lib.hid hn
  rw [← hn] at hlen'
  clear hn
  go_enter Try.func55, Try.ntmps55
  go_upto_region 3 with fail
  generalize ((((w.alloc (.cells #[.int .i64 b.fl, .int .i64 b.deb, .int .i64 b.room, .int .i64 b.park, .float .f64 b.em, .float .f64 b.fu, .float .f64 b.ov, .slice q b.cars.length cap] 27)).alloc (.cells #[.int .i64 s.fl, .int .i64 s.dir, .int .i64 s.door, .slice q' s.du.length cap', .int .i64 s.still, .bool s.late] 35)).alloc (.cells #[.int .u32 (c.1.toNat : Int), .int .u32 (c.2.toNat : Int)] 39)).alloc (.cells #[.int .i64 0, .int .i64 0, .int .i64 0, .slice none 0 0, .int .i64 0, .bool false] 35)) = w0 at *
  generalize hg3 : w.heap.size + 1 + 1 + 1 = g3 at *
  generalize hg2 : w.heap.size + 1 + 1 = g2 at *
  generalize hg1 : w.heap.size + 1 = g1 at *
  have HG1 := Lib.hid hg1; have hq1 : w.heap.size + 1 ≤ g1 := by omega
  have HG2 := Lib.hid hg2; have hq2 : w.heap.size + 2 ≤ g2 := by omega
  have HG3 := Lib.hid hg3; have hq3 : w.heap.size + 3 ≤ g3 := by omega
  clear hg1 hg2 hg3
  have HW := Lib.hid (Below.refl w0.heap.size w0)
  have hz0 := HX0.out.lt; have hz1 := HX1.out.lt; have hz2 := HX2.out.lt; have hz3 := HX3.out.lt
  have hg13 : g3 ≠ g1 := by have := HG2.out; have := HG3.out; omega
  have k7 := HX0.out.cell 7 _ rfl
  have m0 := (HX2.out).cell 0 _ rfl
  have m1 := (HX2.out).cell 1 _ rfl
  have z0 := (HX3.out).cell 0 _ rfl
  have z1 := (HX3.out).cell 1 _ rfl
  have z2 := (HX3.out).cell 2 _ rfl
  have z3 := (HX3.out).cell 3 _ rfl
  have z4 := (HX3.out).cell 4 _ rfl
  have z5 := (HX3.out).cell 5 _ rfl
  go_wp2_with fail
  go_loopw [9, 10, 11] (fun v9 v10 v11 wr => ∃ i : Nat, i ≤ n ∧ v11 = .int .i64 i ∧ v10 = .bool (agedLate cc.dl (s.du.take i)) ∧ wr.ownsRow w0.heap.size 71 3 v9 (agedL c (s.du.take i)).length (dutyCells (agedL c (s.du.take i))) ∧ Below w0.heap.size w0 wr) (fun _ _ v _ => n - (intOf v).toNat)
  case atStart => exact ⟨0, by omega, rfl, rfl, World.ownsRow_nil _ _ _ _, HW.out⟩
  case round =>
    clear HW
    obtain ⟨i, hi', rfl, rfl, hown, hb⟩ := hrel
    have HW := Lib.hid hb
    have HO := Lib.hid hown
    have c0 := base_cell HW.out
    clear hb hown
    have j3 := HX1.out.cell 3 _ rfl
    rw [← HN.out] at j3
    by_cases hlt : i < n
    · have hd : decide ((i : Int) < (n : Int)) = true := by simp; omega
      obtain ⟨d, hdu⟩ : ∃ d, s.du[i]? = some d := ⟨_, List.getElem?_eq_getElem (by rw [← HN.out]; exact hlt)⟩
      obtain ⟨ha0, ha1, _⟩ := state_ages b car s HST.out i d hdu
      rw [HDL.out] at ha1
      obtain ⟨A, hq, hA, d0, d1, d2⟩ := ((HD.out.next HWW.out).next HW.out).at hdu
      have hal : (agedL c (s.du.take i)).length ≤ 1000 := by
        have h1 := agedL_len c (s.du.take i)
        have h2 : (s.du.take i).length ≤ i := List.length_take_le _ _
        omega
      have HT1 := Lib.hid (agedL_take c s.du i d hdu); have HT2 := Lib.hid (agedLate_take cc.dl s.du i d hdu)
      subst hq
      clear hdu
      generalize hl0 : agedLate cc.dl (s.du.take i) = lt at *
      have HL0 := Lib.hid hl0
      generalize hl1 : agedL c (s.du.take i) = la at *
      clear hl0 hl1
      have BD := Blk.new wr (agedD d).cells 71
      change Blk (wr.alloc (.cells #[.int .i64 d.1, .int .i64 d.2.1, .int .i64 (d.2.2 + 1)] 71)) _ _ at BD
      have hbe := below1' wr (.cells #[.int .i64 d.1, .int .i64 d.2.1, .int .i64 (d.2.2 + 1)] 71)
      have HW2 := Lib.hid (HW.out.trans (hbe.mono HW.out.size))
      have HO2 := Lib.hid (rowLater HO.out hbe)
      have HBD := Lib.hid BD
      clear BD hbe
      go_upto_region 8 with fail
      clear c0 d0 d1 d2 hA hd HW HO
      generalize hwd : wr.alloc (.cells #[.int .i64 d.1, .int .i64 d.2.1, .int .i64 (d.2.2 + 1)] 71) = wd at *
      clear hwd
      generalize wr.heap.size = gd at *
      go_cut [10] from 29 to 40 (fun v wx => v = .bool (lt || decide (cc.dl < d.2.2 + 1)) ∧ Below wd.heap.size wd wx)
      case first =>
        clear j3 k7 m0 m1 z0 z1 z2 z3 z4 z5
        have r2 := HBD.out.reg 2 _ rfl
        have t7 := (HX0.out.later HW2.out hz0).reg 7 _ rfl
        obtain ⟨A', hq2, hA2, q0⟩ := ((HR.out.next HWW.out).next HW2.out).reg0 X3.out
        subst hq2
        clear hA2
        cases lt
        · skip
          (refine Grow.wp_region Grow.noPlan Grow.noPlan_stable (by kernel_rfl) (by kernel_rfl) ?_; intro opsq Hopsq)
          repeat (first | (refine Grow.lex_move rfl ?_ rfl ?_; (· first | exact Grow.wanted_none | (rw [Hopsq.out]; rfl)); intro K hK; simp only [Grow.put_lit, Grow.setAt, Grow.eval_lit, Grow.ev]; refine hK _ _ ?_; clear hK K) | (refine Grow.lex_assign rfl ?_ rfl ?_; (· first | exact Grow.wanted_none | (rw [Hopsq.out]; rfl)); intro K hK; simp only [Grow.put_lit, Grow.setAt, Grow.eval_lit, Grow.ev]; refine hK _ _ ?_; clear hK K) | (refine Grow.lex_plain rfl rfl ?_ rfl ?_; (· first | exact Grow.wanted_none | (rw [Hopsq.out]; rfl)); apply Exists.intro; refine ⟨fun wq hCq _ => ?_, ?_⟩; (· (go_wp2_with fail; refine ⟨rfl, Below.refl _ _, ?_⟩; simp only [Grow.getD_lit, Grow.nth]; rfl)); intro K hK; simp only [Grow.put_lit, Grow.setAt]; refine hK _ _ ?_; clear hK K) | (refine Grow.lex_nilCheck rfl rfl ?_ rfl ?_; (· first | exact Grow.wanted_none | (rw [Hopsq.out]; rfl)); intro K hK; simp only [Grow.put_lit, Grow.setAt]; refine hK _ _ ?_; clear hK K) | (refine Grow.lex_skip ?_ ?_; (· (rw [Hopsq.out]; rfl)); intro K hK; simp only [Grow.put_lit, Grow.setAt]; refine hK _ _ ?_; clear hK K))
          (refine Grow.lex_nil ?_; intro w7 hb7 _; replace hb7 := Grow.Cl.base hb7; clear Hopsq opsq)
          go_wp2_with fail
          go_meet
          exact ⟨rfl, hb7⟩
        · skip
          (refine Grow.wp_region Grow.noPlan Grow.noPlan_stable (by kernel_rfl) (by kernel_rfl) ?_; intro opsq Hopsq)
          repeat (first | (refine Grow.lex_move rfl ?_ rfl ?_; (· first | exact Grow.wanted_none | (rw [Hopsq.out]; rfl)); intro K hK; simp only [Grow.put_lit, Grow.setAt, Grow.eval_lit, Grow.ev]; refine hK _ _ ?_; clear hK K) | (refine Grow.lex_assign rfl ?_ rfl ?_; (· first | exact Grow.wanted_none | (rw [Hopsq.out]; rfl)); intro K hK; simp only [Grow.put_lit, Grow.setAt, Grow.eval_lit, Grow.ev]; refine hK _ _ ?_; clear hK K) | (refine Grow.lex_plain rfl rfl ?_ rfl ?_; (· first | exact Grow.wanted_none | (rw [Hopsq.out]; rfl)); apply Exists.intro; refine ⟨fun wq hCq _ => ?_, ?_⟩; (· (go_wp2_with fail; refine ⟨rfl, Below.refl _ _, ?_⟩; simp only [Grow.getD_lit, Grow.nth]; rfl)); intro K hK; simp only [Grow.put_lit, Grow.setAt]; refine hK _ _ ?_; clear hK K) | (refine Grow.lex_nilCheck rfl rfl ?_ rfl ?_; (· first | exact Grow.wanted_none | (rw [Hopsq.out]; rfl)); intro K hK; simp only [Grow.put_lit, Grow.setAt]; refine hK _ _ ?_; clear hK K) | (refine Grow.lex_skip ?_ ?_; (· (rw [Hopsq.out]; rfl)); intro K hK; simp only [Grow.put_lit, Grow.setAt]; refine hK _ _ ?_; clear hK K))
          (refine Grow.lex_nil ?_; intro w7 hb7 _; replace hb7 := Grow.Cl.base hb7; clear Hopsq opsq)
          go_wp2_with fail
          go_meet
          exact ⟨by simp, hb7⟩
      case rest =>
        obtain ⟨rfl, hb7⟩ := hcut
        have HW := Lib.hid (HW2.out.trans (hb7.mono HW2.out.size))
        have HO := Lib.hid (rowLater HO2.out hb7)
        have HBD3 := Lib.hid (HBD.out.next hb7)
        clear hb7 HW2 HO2 HBD
        have c0 := base_cell HW.out
        have r0 := (HBD3.out).cell 0 _ rfl
        have r1 := (HBD3.out).cell 1 _ rfl
        have r2 := (HBD3.out).cell 2 _ rfl
        go_wp2_with fail
        refine (refHas_any c d.1 d.2.1 _).mono ?_
        rintro e w8 ⟨rfl, hb8⟩
        have HWn := Lib.hid (HW.out.trans (hb8.mono HW.out.size))
        have HOn := Lib.hid (rowLater HO.out hb8)
        have HBn := Lib.hid (HBD3.out.next hb8)
        clear HW HO HBD3 hb8 c0 r0 r1 r2
        cases hh : has c d.1 d.2.1
        · have HHH := Lib.hid hh
          clear hh
          have r0 := (HBn.out).cell 0 _ rfl
          have r1 := (HBn.out).cell 1 _ rfl
          have r2 := (HBn.out).cell 2 _ rfl
          have hsz : w0.heap.size ≤ w8.heap.size := HWn.out.size
          go_wp2_with ((at_builtin; refine wpList_append_own _ rfl _ _ 33 rfl w0.heap.size 71 i0 (.agg #[.int .i64 0, .int .i64 0, .int .i64 0]) 3 24 Try.underlying33 Hi.out Hz0.out Hz1.out Hz2.out rfl (by decide) _ _ _ rfl (HOn.out.alloc _) ⟨w8.heap.size, 0, none⟩ 1 1 (agedD d).cells rfl rfl (duty_new _ (agedD d) _) (duty_one _) (by unfold maxLen; omega) (by omega) (by simp; omega) ?_))
          intro v' w9 hown2 hg _
          have hb3 : Below w0.heap.size w0 w9 := (HWn.out.alloc hsz _).grown hg (by simp; omega) (fun q hq => (HOn.out.lt q hq).1)
          have hown3 : w9.ownsRow w0.heap.size 71 3 v' (la ++ [agedD d]).length (dutyCells (la ++ [agedD d])) := by
            rw [dutyCells_snoc, List.length_append]; exact hown2
          clear hown2 hg r0 r1 r2
          go_wp2_with fail
          exact ⟨⟨i + 1, by omega, by go_num, by rw [HT2.out], by rw [HT1.out, HHH.out]; exact hown3, hb3⟩, by simp [intOf]; omega⟩
        · have HHH := Lib.hid hh
          clear hh
          go_wp2_with fail
          exact ⟨⟨i + 1, by omega, by go_num, by rw [HT2.out], by rw [HT1.out, HHH.out]; exact HOn.out, HWn.out⟩, by simp [intOf]; omega⟩
    · have hd : decide ((i : Int) < (n : Int)) = false := by simp; omega
      obtain rfl : i = n := by omega
      have ht : s.du.take i = s.du := by rw [HN.out, List.take_length]
      rw [ht] at HO ⊢
      obtain ⟨q9, cap9, rfl⟩ := row_form HO.out
      have hV : agedV b car s c = ⟨s.fl, s.dir, s.door, if agedLate cc.dl s.du then [] else agedL c s.du, s.still, agedLate cc.dl s.du⟩ := by unfold agedV; rw [HDL.out]
      have HV := Lib.hid hV
      clear hV ht k7 m0 m1 j3
      have j0 := (HX1.out).cell 0 _ rfl
      have j1 := (HX1.out).cell 1 _ rfl
      have j2 := (HX1.out).cell 2 _ rfl
      have j3 := (HX1.out).cell 3 _ rfl
      have j4 := (HX1.out).cell 4 _ rfl
      have j5 := (HX1.out).cell 5 _ rfl
      rw [← HN.out] at j3
      have S1 := HX1.out.later HW.out hz1
      have R1 := HX3.out.later HW.out hz3
      have e3 := S1.fr 3; have e5 := S1.fr 5
      have f0 := R1.fr 0; have f1 := R1.fr 1; have f2 := R1.fr 2; have f3 := R1.fr 3; have f4 := R1.fr 4; have f5 := R1.fr 5
      clear S1 R1
      have hG1 := HG1.out; have hG3 : w.heap.size ≤ g3 := by omega
      have hG1' : w.heap.size ≤ g1 := by omega
      clear hG1
      generalize hla : agedL c s.du = la at *
      generalize hlt2 : agedLate cc.dl s.du = lt at *
      clear hla hlt2
      cases lt
      · go_wp2_with fail
        have ne1 := row_ne HO.out hz1; have ne3 := row_ne HO.out hz3
        have R8 := (((((((((HX3.out.later HW.out hz3).other (i := 3) hg13 (.slice q9 la.length cap9)).other (i := 5) hg13 (.bool false)).set 0 (.int .i64 s.fl)).set 1 (.int .i64 s.dir)).set 2 (.int .i64 s.door)).set 3 (.slice q9 la.length cap9)).set 4 (.int .i64 s.still)).set 5 (.bool false))
        have r0 := (R8).cell 0 _ rfl
        have r1 := (R8).cell 1 _ rfl
        have r2 := (R8).cell 2 _ rfl
        have r3 := (R8).cell 3 _ rfl
        have r4 := (R8).cell 4 _ rfl
        have r5 := (R8).cell 5 _ rfl
        exact bodyPost_ret (v := cvS ⟨s.fl, s.dir, s.door, la, s.still, false⟩ q9 cap9) (by simp [results, Try.results55, go_sem, r0, r1, r2, r3, r4, r5]) rfl ⟨_, rfl, (((((((((HWW.out.trans (HW.out.mono HWW.out.size)).setCell (p := ⟨g1, 3, none⟩) hG1' (.slice q9 la.length cap9)).setCell (p := ⟨g1, 5, none⟩) hG1' (.bool false)).setCell (p := ⟨g3, 0, none⟩) hG3 (.int .i64 s.fl)).setCell (p := ⟨g3, 1, none⟩) hG3 (.int .i64 s.dir)).setCell (p := ⟨g3, 2, none⟩) hG3 (.int .i64 s.door)).setCell (p := ⟨g3, 3, none⟩) hG3 (.slice q9 la.length cap9)).setCell (p := ⟨g3, 4, none⟩) hG3 (.int .i64 s.still)).setCell (p := ⟨g3, 5, none⟩) hG3 (.bool false)), ⟨q9, cap9, by rw [HV.out]; rfl, by rw [HV.out]; exact (rdD_of_owns ((row_set (row_set (row_set (row_set (row_set (row_set (row_set (row_set HO.out (ne1)) (ne1)) (ne3)) (ne3)) (ne3)) (ne3)) (ne3)) (ne3))) rfl), fun A hA => Nat.le_trans HWW.out.size (row_lo HO.out A hA)⟩⟩
      · go_upto_region 14 with fail
        have S9 : Blk (((wr.setCell ⟨g1, 3, none⟩ (.slice q9 la.length cap9)).setCell ⟨g1, 5, none⟩ (.bool true)).setCell ⟨g1, 3, none⟩ (.slice none 0 0)) g1 [.int .i64 s.fl, .int .i64 s.dir, .int .i64 s.door, .slice none 0 0, .int .i64 s.still, .bool true] := (((HX1.out.later HW.out hz1).set 3 _).set 5 _).set 3 _
        have R9 : Blk (((wr.setCell ⟨g1, 3, none⟩ (.slice q9 la.length cap9)).setCell ⟨g1, 5, none⟩ (.bool true)).setCell ⟨g1, 3, none⟩ (.slice none 0 0)) g3 [.int .i64 0, .int .i64 0, .int .i64 0, .slice none 0 0, .int .i64 0, .bool false] := (((HX3.out.later HW.out hz3).other hg13 _).other hg13 _).other hg13 _
        have HW9 : Below w.heap.size w (((wr.setCell ⟨g1, 3, none⟩ (.slice q9 la.length cap9)).setCell ⟨g1, 5, none⟩ (.bool true)).setCell ⟨g1, 3, none⟩ (.slice none 0 0)) := (((HWW.out.trans (HW.out.mono HWW.out.size)).setCell (p := ⟨g1, 3, none⟩) hG1' _).setCell (p := ⟨g1, 5, none⟩) hG1' _).setCell (p := ⟨g1, 3, none⟩) hG1' _
        have HS9 := Lib.hid S9; have HR9 := Lib.hid R9; have HB9 := Lib.hid HW9
        clear S9 R9 HW9 c0 j0 j1 j2 j3 j4 j5 e3 e5 f0 f1 f2 f3 f4 f5 z0 z1 z2 z3 z4 z5
        generalize (((wr.setCell ⟨g1, 3, none⟩ (.slice q9 la.length cap9)).setCell ⟨g1, 5, none⟩ (.bool true)).setCell ⟨g1, 3, none⟩ (.slice none 0 0)) = w9 at *
        have j0 := (HS9.out).cell 0 _ rfl
        have j1 := (HS9.out).cell 1 _ rfl
        have j2 := (HS9.out).cell 2 _ rfl
        have j3 := (HS9.out).cell 3 _ rfl
        have j4 := (HS9.out).cell 4 _ rfl
        have j5 := (HS9.out).cell 5 _ rfl
        have z0 := (HR9.out).cell 0 _ rfl
        have z1 := (HR9.out).cell 1 _ rfl
        have z2 := (HR9.out).cell 2 _ rfl
        have z3 := (HR9.out).cell 3 _ rfl
        have z4 := (HR9.out).cell 4 _ rfl
        have z5 := (HR9.out).cell 5 _ rfl
        have f0 := HR9.out.fr 0; have f1 := HR9.out.fr 1; have f2 := HR9.out.fr 2; have f3 := HR9.out.fr 3; have f4 := HR9.out.fr 4; have f5 := HR9.out.fr 5
        go_wp2_with fail
        have R8 := ((((((HR9.out.set 0 (.int .i64 s.fl)).set 1 (.int .i64 s.dir)).set 2 (.int .i64 s.door)).set 3 (.slice none 0 0)).set 4 (.int .i64 s.still)).set 5 (.bool true))
        have r0 := (R8).cell 0 _ rfl
        have r1 := (R8).cell 1 _ rfl
        have r2 := (R8).cell 2 _ rfl
        have r3 := (R8).cell 3 _ rfl
        have r4 := (R8).cell 4 _ rfl
        have r5 := (R8).cell 5 _ rfl
        exact bodyPost_ret (v := cvS ⟨s.fl, s.dir, s.door, [], s.still, true⟩ none 0) (by simp [results, Try.results55, go_sem, r0, r1, r2, r3, r4, r5]) rfl ⟨_, rfl, ((((((HB9.out.setCell (p := ⟨g3, 0, none⟩) hG3 _).setCell (p := ⟨g3, 1, none⟩) hG3 _).setCell (p := ⟨g3, 2, none⟩) hG3 _).setCell (p := ⟨g3, 3, none⟩) hG3 _).setCell (p := ⟨g3, 4, none⟩) hG3 _).setCell (p := ⟨g3, 5, none⟩) hG3 _), ⟨none, 0, by rw [HV.out]; rfl, by rw [HV.out]; exact (fun i d h => by simp at h), fun A hA => by cases hA⟩⟩
end Go.Proofs.Ytnnkldidlgiipaa
