/- The walk over belief.Inject. Conditions: cars and duties that can be read, at most 900 duties. -/
import Derived.Test.YtnnkldidlgiipaaInjLaw
import Derived.Test.YtnnkldidlgiipaaHallC
import Derived.Test.YtnnkldidlgiipaaCallsEach
import Derived.Laws.OwnMore
namespace Go.Proofs.Ytnnkldidlgiipaa
open Go.RowKit
/-- What the code's Inject hands back. -/
def injectN (b : BldV) (s : BelV) (c : CS) : List Duty := insF s.du (listC (both c (hallC b)))
def injectW (b : BldV) (car : Int) (s : BelV) (c : CS) : BelV := if stateB b car s then ⟨s.fl, s.dir, s.door, injectN b s c, s.still, s.late && decide ((injectN b s c).length = 0)⟩ else zeroB
def zerosD (n : Nat) : Array Value := madeCells #[.int .i64 0, .int .i64 0, .int .i64 0] (n * 3)
theorem run_mkD (n : Nat) (hn : n ≤ 5000) (W : World) :
    (Instr.makeSlice 33 (.int .i64 (n : Int)) (.int .i64 (n : Int))).run Try.prog W = .ok (.slice (some ⟨W.heap.size, 0, none⟩) n n) (W.alloc (.cells (zerosD n) 71)) := by
  obtain ⟨i, hi, hz0, hz1, hz2⟩ := info_parts infoD
  have h := run_make (P := Try.prog) W 33 71 i (.agg #[.int .i64 0, .int .i64 0, .int .i64 0]) Try.underlying33 hi hz0 .i64 .i64 n n (by omega) (Int.le_refl _) (by rw [hz2]; omega) (by omega)
  rw [h]
  simp [zerosD, hz1, Value.cells]
theorem zerosD_size (n : Nat) : (zerosD n).size = n * 3 := size_madeCells _ _
/-- copy of all duties into a new row. -/
theorem copy_duties (w : World) (g5 n cap' : Nat) (q' : Option Addr) (L : List Duty) (hl : L.length = n) (hn : n ≤ 5000) (base : Nat) (hb : base ≤ g5) (hg : w.heap[g5]? = some (.cells (zerosD n) 71 (0, 0))) (hr : RdD w q' L) : ∃ (r : Value) (w' : World),
    (Builtin.copy_ #[33, 33] 3 #[.slice (some ⟨g5, 0, none⟩) n n, .slice q' n cap']).run Try.prog w = .ok r w' ∧ w'.ownsRow base 71 3 (.slice (some ⟨g5, 0, none⟩) n n) n (dutyCells L) ∧ w.grownBy w' (some g5) := by
  have hX : (dutyCells L).length = n * 3 := by rw [dutyCells_len, hl]
  cases q' with
  | none =>
    have h0 : L = [] := by
      cases L with
      | nil => rfl
      | cons d L =>
        obtain ⟨A, hA, _⟩ := hr 0 d rfl
        cases hA
    subst h0
    obtain rfl : n = 0 := hl.symm
    refine ⟨goInt 0, w, ?_, ⟨by simp [dutyCells], .inr ⟨g5, 0, zerosD 0, rfl, hb, hg, Nat.le_refl _, by omega, zerosD_size 0, by simp [dutyCells]⟩⟩, ⟨rfl, rfl, rfl, Nat.le_refl _, fun _ _ _ => rfl⟩⟩
    obtain ⟨i, hi, _⟩ := info_parts infoD
    simp [Builtin.copy_, run_underlying Try.underlying33, Builtin.lenOf, Builtin.firstCells, sizeOf, typeInfo, hi, storeCells]
  | some a =>
    have h := run_copy_rowK (P := Try.prog) w 33 33 3 71 g5 0 n n a n cap' 3 (zerosD n) 71 (dutyCells L) Try.underlying33 (by kernel_rfl) hg ?_ (fun j v hj => ?_) ?_ (dutyCells_one L)
    · refine ⟨_, _, h, ⟨hX, .inr ⟨g5, n, _, rfl, hb, setRow_heap _ _ _ _ _ _ hg, Nat.le_refl _, by unfold maxLen; omega, ?_, ?_⟩⟩, ⟨rfl, rfl, rfl, by simp [World.setRow], fun k _ hk => setRow_other _ _ _ _ (fun e => hk (by rw [e]))⟩⟩
      · have := zerosD_size n
        simp [hX]; omega
      · have := zerosD_size n
        simp only [List.take_zero, List.nil_append, Nat.zero_add]
        rw [List.take_append_of_le_length (by omega), ← hX, List.take_length]
    · show min n n * 3 = _
      rw [Nat.min_self, hX]
    · obtain ⟨i, d, r, h1, h2, rfl⟩ := duty_split L j v hj
      obtain ⟨A, hA, _, hc⟩ := hr i d h1
      obtain rfl : a = A := by simpa using hA
      exact hc r v h2
    · rw [hX, zerosD_size]; omega
/-- The list of entries, told: it is a row of its own. -/
def entsR (lo : Nat) (all : List (Int × Int)) (v : Value) (w : World) : Prop := ∃ q cap, v = .slice q all.length cap ∧ w.ownsRow lo 69 5 (.slice q all.length cap) all.length (cells all)
theorem entsR_stable (lo : Nat) (all : List (Int × Int)) (v : Value) : Grow.Stable (entsR lo all v) := by
  rintro w w' ⟨q, cap, hv, hr⟩ hb
  exact ⟨q, cap, hv, rowLater hr hb⟩
theorem entsR_form {lo : Nat} {all : List (Int × Int)} {v : Value} {w : World} (h : entsR lo all v w) : ∃ q cap, v = .slice q all.length cap := by
  obtain ⟨q, cap, hv, _⟩ := h
  exact ⟨q, cap, hv⟩
theorem entsR_out {lo : Nat} {all : List (Int × Int)} {q : Option Addr} {cap : Nat} {w : World} (h : entsR lo all (.slice q all.length cap) w) : w.ownsRow lo 69 5 (.slice q all.length cap) all.length (cells all) := by
  obtain ⟨q', cap', hv, hr⟩ := h
  obtain ⟨rfl, rfl⟩ : q = q' ∧ cap = cap' := by simpa using hv
  exact hr
/-- Rows of two types lie in two blocks. -/
theorem rows_apart {w : World} {b1 b2 s1 s2 n1 n2 : Nat} {e1 e2 : TypeId} {v1 v2 : Value} {x1 x2 : List Value} (hne : e1 ≠ e2) (h1 : w.ownsRow b1 e1 s1 v1 n1 x1) (h2 : w.ownsRow b2 e2 s2 v2 n2 x2) : v1.ownBlock = none ∨ v1.ownBlock ≠ v2.ownBlock := by
  rcases h1.2 with ⟨rfl, _⟩ | ⟨g, cap, cur, rfl, _, hgb, _⟩
  · exact .inl rfl
  · exact .inr (block_not_row hgb hne h2)
set_option maxHeartbeats 8000000 in
set_option maxRecDepth 100000 in
theorem inject_any (b : BldV) (q : Option Addr) (cap : Nat) (car : Int) (s : BelV) (q' : Option Addr) (cap' : Nat) (c : CS) (w : World) (hlen : b.cars.length ≤ 1000) (hlen' : s.du.length ≤ 900) (hr : RdC w q b.cars) (hd : RdD w q' s.du) :
    Calls Try.prog 12 #[cvB b q cap, .int .i64 car, cvS s q' cap', cv c] w fun e w' => ∃ v, e = .returned v ∧ Below w.heap.size w w' ∧ belE w.heap.size (injectW b car s c) (errV (stateB b car s)) v w' := by
  have X0 : Blk (w.alloc (.cells #[.int .i64 b.fl, .int .i64 b.deb, .int .i64 b.room, .int .i64 b.park, .float .f64 b.em, .float .f64 b.fu, .float .f64 b.ov, .slice q b.cars.length cap] 27)) w.heap.size [.int .i64 b.fl, .int .i64 b.deb, .int .i64 b.room, .int .i64 b.park, .float .f64 b.em, .float .f64 b.fu, .float .f64 b.ov, .slice q b.cars.length cap] := by
    have hx := Blk.new w [.int .i64 b.fl, .int .i64 b.deb, .int .i64 b.room, .int .i64 b.park, .float .f64 b.em, .float .f64 b.fu, .float .f64 b.ov, .slice q b.cars.length cap] 27
    exact hx
  replace X0 : Blk ((w.alloc (.cells #[.int .i64 b.fl, .int .i64 b.deb, .int .i64 b.room, .int .i64 b.park, .float .f64 b.em, .float .f64 b.fu, .float .f64 b.ov, .slice q b.cars.length cap] 27)).alloc (.cells #[.int .i64 s.fl, .int .i64 s.dir, .int .i64 s.door, .slice q' s.du.length cap', .int .i64 s.still, .bool s.late] 35)) w.heap.size [.int .i64 b.fl, .int .i64 b.deb, .int .i64 b.room, .int .i64 b.park, .float .f64 b.em, .float .f64 b.fu, .float .f64 b.ov, .slice q b.cars.length cap] := X0.next (below1' _ _)
  replace X0 : Blk (((w.alloc (.cells #[.int .i64 b.fl, .int .i64 b.deb, .int .i64 b.room, .int .i64 b.park, .float .f64 b.em, .float .f64 b.fu, .float .f64 b.ov, .slice q b.cars.length cap] 27)).alloc (.cells #[.int .i64 s.fl, .int .i64 s.dir, .int .i64 s.door, .slice q' s.du.length cap', .int .i64 s.still, .bool s.late] 35)).alloc (.cells #[.int .u32 (c.1.toNat : Int), .int .u32 (c.2.toNat : Int)] 39)) w.heap.size [.int .i64 b.fl, .int .i64 b.deb, .int .i64 b.room, .int .i64 b.park, .float .f64 b.em, .float .f64 b.fu, .float .f64 b.ov, .slice q b.cars.length cap] := X0.next (below1' _ _)
  replace X0 : Blk ((((w.alloc (.cells #[.int .i64 b.fl, .int .i64 b.deb, .int .i64 b.room, .int .i64 b.park, .float .f64 b.em, .float .f64 b.fu, .float .f64 b.ov, .slice q b.cars.length cap] 27)).alloc (.cells #[.int .i64 s.fl, .int .i64 s.dir, .int .i64 s.door, .slice q' s.du.length cap', .int .i64 s.still, .bool s.late] 35)).alloc (.cells #[.int .u32 (c.1.toNat : Int), .int .u32 (c.2.toNat : Int)] 39)).alloc (.cells #[.int .i64 0, .int .i64 0, .int .i64 0, .slice none 0 0, .int .i64 0, .bool false] 35)) w.heap.size [.int .i64 b.fl, .int .i64 b.deb, .int .i64 b.room, .int .i64 b.park, .float .f64 b.em, .float .f64 b.fu, .float .f64 b.ov, .slice q b.cars.length cap] := X0.next (below1' _ _)
  have X1 : Blk ((w.alloc (.cells #[.int .i64 b.fl, .int .i64 b.deb, .int .i64 b.room, .int .i64 b.park, .float .f64 b.em, .float .f64 b.fu, .float .f64 b.ov, .slice q b.cars.length cap] 27)).alloc (.cells #[.int .i64 s.fl, .int .i64 s.dir, .int .i64 s.door, .slice q' s.du.length cap', .int .i64 s.still, .bool s.late] 35)) (w.heap.size + 1) [.int .i64 s.fl, .int .i64 s.dir, .int .i64 s.door, .slice q' s.du.length cap', .int .i64 s.still, .bool s.late] := by
    have hx := Blk.new (w.alloc (.cells #[.int .i64 b.fl, .int .i64 b.deb, .int .i64 b.room, .int .i64 b.park, .float .f64 b.em, .float .f64 b.fu, .float .f64 b.ov, .slice q b.cars.length cap] 27)) [.int .i64 s.fl, .int .i64 s.dir, .int .i64 s.door, .slice q' s.du.length cap', .int .i64 s.still, .bool s.late] 35
    rw [World.size_alloc] at hx
    exact hx
  replace X1 : Blk (((w.alloc (.cells #[.int .i64 b.fl, .int .i64 b.deb, .int .i64 b.room, .int .i64 b.park, .float .f64 b.em, .float .f64 b.fu, .float .f64 b.ov, .slice q b.cars.length cap] 27)).alloc (.cells #[.int .i64 s.fl, .int .i64 s.dir, .int .i64 s.door, .slice q' s.du.length cap', .int .i64 s.still, .bool s.late] 35)).alloc (.cells #[.int .u32 (c.1.toNat : Int), .int .u32 (c.2.toNat : Int)] 39)) (w.heap.size + 1) [.int .i64 s.fl, .int .i64 s.dir, .int .i64 s.door, .slice q' s.du.length cap', .int .i64 s.still, .bool s.late] := X1.next (below1' _ _)
  replace X1 : Blk ((((w.alloc (.cells #[.int .i64 b.fl, .int .i64 b.deb, .int .i64 b.room, .int .i64 b.park, .float .f64 b.em, .float .f64 b.fu, .float .f64 b.ov, .slice q b.cars.length cap] 27)).alloc (.cells #[.int .i64 s.fl, .int .i64 s.dir, .int .i64 s.door, .slice q' s.du.length cap', .int .i64 s.still, .bool s.late] 35)).alloc (.cells #[.int .u32 (c.1.toNat : Int), .int .u32 (c.2.toNat : Int)] 39)).alloc (.cells #[.int .i64 0, .int .i64 0, .int .i64 0, .slice none 0 0, .int .i64 0, .bool false] 35)) (w.heap.size + 1) [.int .i64 s.fl, .int .i64 s.dir, .int .i64 s.door, .slice q' s.du.length cap', .int .i64 s.still, .bool s.late] := X1.next (below1' _ _)
  have X2 : Blk (((w.alloc (.cells #[.int .i64 b.fl, .int .i64 b.deb, .int .i64 b.room, .int .i64 b.park, .float .f64 b.em, .float .f64 b.fu, .float .f64 b.ov, .slice q b.cars.length cap] 27)).alloc (.cells #[.int .i64 s.fl, .int .i64 s.dir, .int .i64 s.door, .slice q' s.du.length cap', .int .i64 s.still, .bool s.late] 35)).alloc (.cells #[.int .u32 (c.1.toNat : Int), .int .u32 (c.2.toNat : Int)] 39)) (w.heap.size + 1 + 1) [.int .u32 (c.1.toNat : Int), .int .u32 (c.2.toNat : Int)] := by
    have hx := Blk.new ((w.alloc (.cells #[.int .i64 b.fl, .int .i64 b.deb, .int .i64 b.room, .int .i64 b.park, .float .f64 b.em, .float .f64 b.fu, .float .f64 b.ov, .slice q b.cars.length cap] 27)).alloc (.cells #[.int .i64 s.fl, .int .i64 s.dir, .int .i64 s.door, .slice q' s.du.length cap', .int .i64 s.still, .bool s.late] 35)) [.int .u32 (c.1.toNat : Int), .int .u32 (c.2.toNat : Int)] 39
    rw [World.size_alloc, World.size_alloc] at hx
    exact hx
  replace X2 : Blk ((((w.alloc (.cells #[.int .i64 b.fl, .int .i64 b.deb, .int .i64 b.room, .int .i64 b.park, .float .f64 b.em, .float .f64 b.fu, .float .f64 b.ov, .slice q b.cars.length cap] 27)).alloc (.cells #[.int .i64 s.fl, .int .i64 s.dir, .int .i64 s.door, .slice q' s.du.length cap', .int .i64 s.still, .bool s.late] 35)).alloc (.cells #[.int .u32 (c.1.toNat : Int), .int .u32 (c.2.toNat : Int)] 39)).alloc (.cells #[.int .i64 0, .int .i64 0, .int .i64 0, .slice none 0 0, .int .i64 0, .bool false] 35)) (w.heap.size + 1 + 1) [.int .u32 (c.1.toNat : Int), .int .u32 (c.2.toNat : Int)] := X2.next (below1' _ _)
  have X3 : Blk ((((w.alloc (.cells #[.int .i64 b.fl, .int .i64 b.deb, .int .i64 b.room, .int .i64 b.park, .float .f64 b.em, .float .f64 b.fu, .float .f64 b.ov, .slice q b.cars.length cap] 27)).alloc (.cells #[.int .i64 s.fl, .int .i64 s.dir, .int .i64 s.door, .slice q' s.du.length cap', .int .i64 s.still, .bool s.late] 35)).alloc (.cells #[.int .u32 (c.1.toNat : Int), .int .u32 (c.2.toNat : Int)] 39)).alloc (.cells #[.int .i64 0, .int .i64 0, .int .i64 0, .slice none 0 0, .int .i64 0, .bool false] 35)) (w.heap.size + 1 + 1 + 1) [.int .i64 0, .int .i64 0, .int .i64 0, .slice none 0 0, .int .i64 0, .bool false] := by
    have hx := Blk.new (((w.alloc (.cells #[.int .i64 b.fl, .int .i64 b.deb, .int .i64 b.room, .int .i64 b.park, .float .f64 b.em, .float .f64 b.fu, .float .f64 b.ov, .slice q b.cars.length cap] 27)).alloc (.cells #[.int .i64 s.fl, .int .i64 s.dir, .int .i64 s.door, .slice q' s.du.length cap', .int .i64 s.still, .bool s.late] 35)).alloc (.cells #[.int .u32 (c.1.toNat : Int), .int .u32 (c.2.toNat : Int)] 39)) [.int .i64 0, .int .i64 0, .int .i64 0, .slice none 0 0, .int .i64 0, .bool false] 35
    rw [World.size_alloc, World.size_alloc, World.size_alloc] at hx
    exact hx
  have XW : Below w.heap.size w (w.alloc (.cells #[.int .i64 b.fl, .int .i64 b.deb, .int .i64 b.room, .int .i64 b.park, .float .f64 b.em, .float .f64 b.fu, .float .f64 b.ov, .slice q b.cars.length cap] 27)) := below1' w _
  replace XW : Below w.heap.size w ((w.alloc (.cells #[.int .i64 b.fl, .int .i64 b.deb, .int .i64 b.room, .int .i64 b.park, .float .f64 b.em, .float .f64 b.fu, .float .f64 b.ov, .slice q b.cars.length cap] 27)).alloc (.cells #[.int .i64 s.fl, .int .i64 s.dir, .int .i64 s.door, .slice q' s.du.length cap', .int .i64 s.still, .bool s.late] 35)) := XW.trans ((below1' _ _).mono XW.size)
  replace XW : Below w.heap.size w (((w.alloc (.cells #[.int .i64 b.fl, .int .i64 b.deb, .int .i64 b.room, .int .i64 b.park, .float .f64 b.em, .float .f64 b.fu, .float .f64 b.ov, .slice q b.cars.length cap] 27)).alloc (.cells #[.int .i64 s.fl, .int .i64 s.dir, .int .i64 s.door, .slice q' s.du.length cap', .int .i64 s.still, .bool s.late] 35)).alloc (.cells #[.int .u32 (c.1.toNat : Int), .int .u32 (c.2.toNat : Int)] 39)) := XW.trans ((below1' _ _).mono XW.size)
  replace XW : Below w.heap.size w ((((w.alloc (.cells #[.int .i64 b.fl, .int .i64 b.deb, .int .i64 b.room, .int .i64 b.park, .float .f64 b.em, .float .f64 b.fu, .float .f64 b.ov, .slice q b.cars.length cap] 27)).alloc (.cells #[.int .i64 s.fl, .int .i64 s.dir, .int .i64 s.door, .slice q' s.du.length cap', .int .i64 s.still, .bool s.late] 35)).alloc (.cells #[.int .u32 (c.1.toNat : Int), .int .u32 (c.2.toNat : Int)] 39)).alloc (.cells #[.int .i64 0, .int .i64 0, .int .i64 0, .slice none 0 0, .int .i64 0, .bool false] 35)) := XW.trans ((below1' _ _).mono XW.size)
  have HWW := Lib.hid XW; have HX0 := Lib.hid X0; have HX1 := Lib.hid X1; have HX2 := Lib.hid X2; have HX3 := Lib.hid X3
  clear XW X0 X1 X2 X3
  have HR := Lib.hid (hr.next HWW.out); have hr0 := Lib.hid hr; have HD := Lib.hid (hd.next HWW.out)
  have HL1 := Lib.hid hlen; have HL2 : Hid (s.du.length ≤ 1000) := Lib.hid (by omega)
  clear hr hd hlen
  obtain ⟨n, hn⟩ : ∃ n, n = s.du.length := ⟨_, rfl⟩
  have HN := Lib.hid hn
  rw [← hn] at hlen'
  clear hn
  go_enter Try.func12, Try.ntmps12
  go_upto_region 1 with fail
  generalize ((((w.alloc (.cells #[.int .i64 b.fl, .int .i64 b.deb, .int .i64 b.room, .int .i64 b.park, .float .f64 b.em, .float .f64 b.fu, .float .f64 b.ov, .slice q b.cars.length cap] 27)).alloc (.cells #[.int .i64 s.fl, .int .i64 s.dir, .int .i64 s.door, .slice q' s.du.length cap', .int .i64 s.still, .bool s.late] 35)).alloc (.cells #[.int .u32 (c.1.toNat : Int), .int .u32 (c.2.toNat : Int)] 39)).alloc (.cells #[.int .i64 0, .int .i64 0, .int .i64 0, .slice none 0 0, .int .i64 0, .bool false] 35)) = w0 at *
  generalize hg3 : w.heap.size + 1 + 1 + 1 = g3 at *
  generalize hg2 : w.heap.size + 1 + 1 = g2 at *
  generalize hg1 : w.heap.size + 1 = g1 at *
  have HG1 := Lib.hid hg1; have hq1 : w.heap.size + 1 ≤ g1 := by omega
  have HG2 := Lib.hid hg2; have hq2 : w.heap.size + 2 ≤ g2 := by omega
  have HG3 := Lib.hid hg3; have hq3 : w.heap.size + 3 ≤ g3 := by omega
  clear hg1 hg2 hg3
  have HW := Lib.hid (Below.refl w0.heap.size w0)
  have hz0 := HX0.out.lt; have hz1 := HX1.out.lt; have hz2 := HX2.out.lt; have hz3 := HX3.out.lt
  have hg13 : g3 ≠ g1 := by have := HG2.out; have := HG3.out; omega
  have hg12 : g2 ≠ g1 := by have := HG2.out; omega
  have hG3 : w.heap.size ≤ g3 := by omega
  have hG1 : w.heap.size ≤ g1 := by omega
  have k0 := (HX0.out).cell 0 _ rfl
  have k1 := (HX0.out).cell 1 _ rfl
  have k2 := (HX0.out).cell 2 _ rfl
  have k3 := (HX0.out).cell 3 _ rfl
  have k4 := (HX0.out).cell 4 _ rfl
  have k5 := (HX0.out).cell 5 _ rfl
  have k6 := (HX0.out).cell 6 _ rfl
  have k7 := (HX0.out).cell 7 _ rfl
  have j0 := (HX1.out).cell 0 _ rfl
  have j1 := (HX1.out).cell 1 _ rfl
  have j2 := (HX1.out).cell 2 _ rfl
  have j3 := (HX1.out).cell 3 _ rfl
  have j4 := (HX1.out).cell 4 _ rfl
  have j5 := (HX1.out).cell 5 _ rfl
  have m0 := (HX2.out).cell 0 _ rfl
  have m1 := (HX2.out).cell 1 _ rfl
  have c0 := base_cell HW.out
  go_wp2_with fail
  refine (isState_any b q cap car s q' cap' _ HL1.out HL2.out HR.out HD.out).mono ?_
  rintro e w1 ⟨rfl, hbn⟩
  have HWn := Lib.hid (HW.out.trans (hbn.mono HW.out.size))
  try clear c0
  clear HW hbn
  have HW := HWn
  clear HWn
  have c0 := base_cell HW.out
  cases e1 : stateB b car s
  · have E1 := Lib.hid e1
    clear e1
    have z0 := (HX3.out).cell 0 _ rfl
    have z1 := (HX3.out).cell 1 _ rfl
    have z2 := (HX3.out).cell 2 _ rfl
    have z3 := (HX3.out).cell 3 _ rfl
    have z4 := (HX3.out).cell 4 _ rfl
    have z5 := (HX3.out).cell 5 _ rfl
    have R1 := HX3.out.later HW.out hz3
    have f0 := R1.fr 0; have f1 := R1.fr 1; have f2 := R1.fr 2; have f3 := R1.fr 3; have f4 := R1.fr 4; have f5 := R1.fr 5
    clear R1
    go_wp2_with fail
    have R8 := (((((((HX3.out.later HW.out hz3).set 0 (.int .i64 0)).set 1 (.int .i64 0)).set 2 (.int .i64 0)).set 3 (.slice none 0 0)).set 4 (.int .i64 0)).set 5 (.bool false))
    have r0 := (R8).cell 0 _ rfl
    have r1 := (R8).cell 1 _ rfl
    have r2 := (R8).cell 2 _ rfl
    have r3 := (R8).cell 3 _ rfl
    have r4 := (R8).cell 4 _ rfl
    have r5 := (R8).cell 5 _ rfl
    exact bodyPost_ret (v := .tuple #[cvS zeroB none 0, .int .i64 1]) (by simp [results, Try.results12, go_sem, zeroB, r0, r1, r2, r3, r4, r5]) rfl ⟨_, rfl, ((((((HWW.out.trans (HW.out.mono HWW.out.size)).setCell (p := ⟨g3, 0, none⟩) hG3 _).setCell (p := ⟨g3, 1, none⟩) hG3 _).setCell (p := ⟨g3, 2, none⟩) hG3 _).setCell (p := ⟨g3, 3, none⟩) hG3 _).setCell (p := ⟨g3, 4, none⟩) hG3 _).setCell (p := ⟨g3, 5, none⟩) hG3 _, ⟨none, 0, by unfold injectW errV; rw [E1.out]; rfl, by unfold injectW; rw [E1.out]; exact fun i d h => by simp [zeroB] at h, fun A h => by cases h⟩⟩
  · have HST := Lib.hid e1
    clear e1
    have HVV : Hid (injectW b car s c = ⟨s.fl, s.dir, s.door, injectN b s c, s.still, s.late && decide ((injectN b s c).length = 0)⟩) := Lib.hid (by unfold injectW; rw [HST.out, if_pos rfl])
    have hso : s.du.Pairwise (fun e d => key e < key d) ∧ ∀ e ∈ s.du, 1 ≤ e.2.1 ∧ e.2.1 ≤ 2 := by
      obtain ⟨_, h2, h3⟩ := (stateB_iff b car s).1 HST.out
      refine ⟨h3, fun e he => ?_⟩
      have h := ((dutyB_iff b _ e).1 (h2 e he)).1
      unfold callB isCallB at h
      simp only [Bool.and_eq_true, Bool.or_eq_true, decide_eq_true_eq] at h
      omega
    have HSO := Lib.hid hso
    clear hso
    have hmk := run_mkD n (by omega)
    have HO1 := Lib.hid (heap_alloc_new w1 (.cells (zerosD n) 71))
    have hbe := below1' w1 (.cells (zerosD n) 71)
    have HW2 := Lib.hid (HW.out.trans (hbe.mono HW.out.size))
    have hg5 : w0.heap.size ≤ w1.heap.size := HW.out.size
    clear hbe
    rw [← HN.out] at j3
    go_upto_region 4 with fail
    clear HW c0 k0 k1 k2 k3 k4 k5 k6 k7 j0 j1 j2 j3 j4 j5 m0 m1
    generalize w1.alloc (.cells (zerosD n) 71) = w2 at *
    generalize w1.heap.size = g5 at *
    obtain ⟨rr, w3, hcp, hown3, hgr3⟩ := copy_duties w2 g5 n cap' q' s.du HN.out.symm (by omega) w0.heap.size hg5 HO1.out (HD.out.next HW2.out)
    have HO3 := Lib.hid hown3
    have HB3 : Hid (Below w0.heap.size w0 w3) := Lib.hid (HW2.out.grown hgr3 HW2.out.size (fun k hk => by cases hk; exact hg5))
    clear hown3 hgr3
    have B2 := HX1.out.later HW2.out hz1
    have j0 := (B2).cell 0 _ rfl
    have j1 := (B2).cell 1 _ rfl
    have j2 := (B2).cell 2 _ rfl
    have j3 := (B2).cell 3 _ rfl
    have j4 := (B2).cell 4 _ rfl
    have j5 := (B2).cell 5 _ rfl
    rw [← HN.out] at j3
    clear B2
    go_upto_region 5 with (at_builtin; refine wpList_copy_runI _ rfl _ _ 33 33 rfl _ _ rfl rfl hcp ?_)
    clear j0 j1 j2 j3 j4 j5 HW2 HO1
    have B3 := HX1.out.later HB3.out hz1
    have j0 := (B3).cell 0 _ rfl
    have j1 := (B3).cell 1 _ rfl
    have j2 := (B3).cell 2 _ rfl
    have j3 := (B3).cell 3 _ rfl
    have j4 := (B3).cell 4 _ rfl
    have j5 := (B3).cell 5 _ rfl
    have f3 := B3.fr 3
    clear B3
    go_upto_region 6 with fail
    have hne1 := row_ne HO3.out hz1
    have HO4 := Lib.hid (row_set (i := 3) (u := .slice (some ⟨g5, 0, none⟩) n n) HO3.out hne1)
    have HB4 := Lib.hid ((HX1.out.later HB3.out hz1).set 3 (.slice (some ⟨g5, 0, none⟩) n n))
    have HX04 := Lib.hid ((HX0.out.later HB3.out hz0).other (i := 3) (g := g1) (by omega) (.slice (some ⟨g5, 0, none⟩) n n))
    have HX24 := Lib.hid ((HX2.out.later HB3.out hz2).other (i := 3) hg12 (.slice (some ⟨g5, 0, none⟩) n n))
    have HX34 := Lib.hid ((HX3.out.later HB3.out hz3).other (i := 3) hg13 (.slice (some ⟨g5, 0, none⟩) n n))
    have HW4 := Lib.hid ((HWW.out.trans (HB3.out.mono HWW.out.size)).setCell (p := ⟨g1, 3, none⟩) hG1 (.slice (some ⟨g5, 0, none⟩) n n))
    have HR4 : Hid (RdC (w3.setCell ⟨g1, 3, none⟩ (.slice (some ⟨g5, 0, none⟩) n n)) q b.cars) := Lib.hid (hr0.out.next HW4.out)
    have hs04 : w0.heap.size ≤ (w3.setCell ⟨g1, 3, none⟩ (.slice (some ⟨g5, 0, none⟩) n n)).heap.size := by have := HB3.out.size; simpa [World.setCell] using this
    have hGw : w.heap.size ≤ w0.heap.size := by omega
    have hzz1 : g1 < w0.heap.size := hz1; have hzz3 : g3 < w0.heap.size := hz3
    clear HO3 HB3 hne1 j0 j1 j2 j3 j4 j5 f3 hcp HR HX0 HX1 HX2 HX3 hmk HD
    change Hid (Blk _ g1 [.int .i64 s.fl, .int .i64 s.dir, .int .i64 s.door, .slice (some ⟨g5, 0, none⟩) n n, .int .i64 s.still, .bool s.late]) at HB4
    generalize w3.setCell ⟨g1, 3, none⟩ (.slice (some ⟨g5, 0, none⟩) n n) = w4 at *
    have t0 := (HX04.out).reg 0 _ rfl
    have t1 := (HX04.out).reg 1 _ rfl
    have t2 := (HX04.out).reg 2 _ rfl
    have t3 := (HX04.out).reg 3 _ rfl
    have t4 := (HX04.out).reg 4 _ rfl
    have t5 := (HX04.out).reg 5 _ rfl
    have t6 := (HX04.out).reg 6 _ rfl
    have t7 := (HX04.out).reg 7 _ rfl
    have u0 := (HX24.out).reg 0 _ rfl
    have u1 := (HX24.out).reg 1 _ rfl
    have hall : ∀ p ∈ listC (both c (hallC b)), 1 ≤ p.2 ∧ p.2 ≤ 2 := fun p hp => by
      obtain ⟨_, _, _, h, _⟩ := listC_mem _ p hp
      omega
    have HOKK := Lib.hid (insF_ok s.du (listC (both c (hallC b))) HSO.out.1 HSO.out.2 hall)
    have hN64 := listC_len (both c (hallC b))
    have HNV : Hid (injectN b s c = insF s.du (listC (both c (hallC b)))) := Lib.hid rfl
    have HPD := Lib.hid hall
    clear hall
    refine Grow.wp_region (relPlan 4 (entsR w0.heap.size (listC (both c (hallC b))))) (relPlan_stable 4 _ (entsR_stable w0.heap.size (listC (both c (hallC b))))) (by kernel_rfl) (by kernel_rfl) ?_
    intro opsq Hopsq
    repeat (first | (refine Grow.lex_move rfl ?_ rfl ?_; (· first | exact Grow.wanted_none | (rw [Hopsq.out]; rfl)); intro K hK; simp only [Grow.put_lit, Grow.setAt, Grow.eval_lit, Grow.ev]; refine hK _ _ ?_; clear hK K) | (refine Grow.lex_assign rfl ?_ rfl ?_; (· first | exact Grow.wanted_none | (rw [Hopsq.out]; rfl)); intro K hK; simp only [Grow.put_lit, Grow.setAt, Grow.eval_lit, Grow.ev]; refine hK _ _ ?_; clear hK K) | (refine Grow.lex_plain rfl rfl ?_ rfl ?_; (· first | exact Grow.wanted_none | (rw [Hopsq.out]; rfl)); apply Exists.intro; refine ⟨fun wq hCq _ => ?_, ?_⟩; (· (go_wp2_with fail; refine ⟨rfl, Below.refl _ _, ?_⟩; simp only [Grow.getD_lit, Grow.nth]; rfl)); intro K hK; simp only [Grow.put_lit, Grow.setAt]; refine hK _ _ ?_; clear hK K) | (refine Grow.lex_nilCheck rfl rfl ?_ rfl ?_; (· first | exact Grow.wanted_none | (rw [Hopsq.out]; rfl)); intro K hK; simp only [Grow.put_lit, Grow.setAt]; refine hK _ _ ?_; clear hK K) | (refine Grow.lex_skip ?_ ?_; (· (rw [Hopsq.out]; rfl)); intro K hK; simp only [Grow.put_lit, Grow.setAt]; refine hK _ _ ?_; clear hK K))
    (refine Grow.lex_call ?_ rfl ?_; (· first | exact Grow.wanted_none | (rw [Hopsq.out]; rfl)); apply Exists.intro; apply Exists.intro; refine ⟨fun wq => ?_, ?_⟩; (· (go_simp; exact ⟨rfl, rfl⟩)); apply Exists.intro; refine ⟨fun wq hCq hKq => ?_, ?_⟩; (· exact hall_any b q cap _ HL1.out (HR4.out.next (Grow.Cl.base hCq))); intro K hK; simp only [Grow.put_lit, Grow.setAt]; refine hK _ _ ?_; clear hK K)
    repeat (first | (refine Grow.lex_move rfl ?_ rfl ?_; (· first | exact Grow.wanted_none | (rw [Hopsq.out]; rfl)); intro K hK; simp only [Grow.put_lit, Grow.setAt, Grow.eval_lit, Grow.ev]; refine hK _ _ ?_; clear hK K) | (refine Grow.lex_assign rfl ?_ rfl ?_; (· first | exact Grow.wanted_none | (rw [Hopsq.out]; rfl)); intro K hK; simp only [Grow.put_lit, Grow.setAt, Grow.eval_lit, Grow.ev]; refine hK _ _ ?_; clear hK K) | (refine Grow.lex_plain rfl rfl ?_ rfl ?_; (· first | exact Grow.wanted_none | (rw [Hopsq.out]; rfl)); apply Exists.intro; refine ⟨fun wq hCq _ => ?_, ?_⟩; (· (go_wp2_with fail; refine ⟨rfl, Below.refl _ _, ?_⟩; simp only [Grow.getD_lit, Grow.nth]; rfl)); intro K hK; simp only [Grow.put_lit, Grow.setAt]; refine hK _ _ ?_; clear hK K) | (refine Grow.lex_nilCheck rfl rfl ?_ rfl ?_; (· first | exact Grow.wanted_none | (rw [Hopsq.out]; rfl)); intro K hK; simp only [Grow.put_lit, Grow.setAt]; refine hK _ _ ?_; clear hK K) | (refine Grow.lex_skip ?_ ?_; (· (rw [Hopsq.out]; rfl)); intro K hK; simp only [Grow.put_lit, Grow.setAt]; refine hK _ _ ?_; clear hK K))
    (refine Grow.lex_call ?_ rfl ?_; (· first | exact Grow.wanted_none | (rw [Hopsq.out]; rfl)); apply Exists.intro; apply Exists.intro; refine ⟨fun wq => ?_, ?_⟩; (· (go_simp; exact ⟨rfl, rfl⟩)); apply Exists.intro; refine ⟨fun wq hCq hKq => ?_, ?_⟩; (· exact both_any c (hallC b) _); intro K hK; simp only [Grow.put_lit, Grow.setAt]; refine hK _ _ ?_; clear hK K)
    repeat (first | (refine Grow.lex_move rfl ?_ rfl ?_; (· first | exact Grow.wanted_none | (rw [Hopsq.out]; rfl)); intro K hK; simp only [Grow.put_lit, Grow.setAt, Grow.eval_lit, Grow.ev]; refine hK _ _ ?_; clear hK K) | (refine Grow.lex_assign rfl ?_ rfl ?_; (· first | exact Grow.wanted_none | (rw [Hopsq.out]; rfl)); intro K hK; simp only [Grow.put_lit, Grow.setAt, Grow.eval_lit, Grow.ev]; refine hK _ _ ?_; clear hK K) | (refine Grow.lex_plain rfl rfl ?_ rfl ?_; (· first | exact Grow.wanted_none | (rw [Hopsq.out]; rfl)); apply Exists.intro; refine ⟨fun wq hCq _ => ?_, ?_⟩; (· (go_wp2_with fail; refine ⟨rfl, Below.refl _ _, ?_⟩; simp only [Grow.getD_lit, Grow.nth]; rfl)); intro K hK; simp only [Grow.put_lit, Grow.setAt]; refine hK _ _ ?_; clear hK K) | (refine Grow.lex_nilCheck rfl rfl ?_ rfl ?_; (· first | exact Grow.wanted_none | (rw [Hopsq.out]; rfl)); intro K hK; simp only [Grow.put_lit, Grow.setAt]; refine hK _ _ ?_; clear hK K) | (refine Grow.lex_skip ?_ ?_; (· (rw [Hopsq.out]; rfl)); intro K hK; simp only [Grow.put_lit, Grow.setAt]; refine hK _ _ ?_; clear hK K))
    (refine Grow.lex_callR (r := (fun _ v w => entsR w0.heap.size (listC (both c (hallC b))) v w)) ?_ rfl ?_; (· first | exact Grow.wanted_none | (rw [Hopsq.out]; rfl)); apply Exists.intro; apply Exists.intro; refine ⟨fun wq => ?_, ?_, ?_⟩; (· (go_simp; exact ⟨rfl, rfl⟩)); (· (intro wq hCq hKq; exact (list_any (both c (hallC b)) _).mono (fun e w' ⟨v, he, hown, hb⟩ => ⟨v, he, hb, by obtain ⟨q, cap, rfl⟩ := row_form hown; exact ⟨q, cap, rfl, row_base hown (Nat.le_trans hs04 (Grow.Cl.base hCq).size)⟩⟩))); intro vq hWq; obtain ⟨_, _, hTT⟩ := hWq; obtain ⟨q8, cap8, hvq⟩ := entsR_form (Grow.Holds.of_upd hTT).2; subst hvq; clear hTT; intro K hK; simp only [Grow.put_lit, Grow.setAt]; refine hK _ _ ?_; clear hK K)
    repeat (first | (refine Grow.lex_move rfl ?_ rfl ?_; (· first | exact Grow.wanted_none | (rw [Hopsq.out]; rfl)); intro K hK; simp only [Grow.put_lit, Grow.setAt, Grow.eval_lit, Grow.ev]; refine hK _ _ ?_; clear hK K) | (refine Grow.lex_assign rfl ?_ rfl ?_; (· first | exact Grow.wanted_none | (rw [Hopsq.out]; rfl)); intro K hK; simp only [Grow.put_lit, Grow.setAt, Grow.eval_lit, Grow.ev]; refine hK _ _ ?_; clear hK K) | (refine Grow.lex_plain rfl rfl ?_ rfl ?_; (· first | exact Grow.wanted_none | (rw [Hopsq.out]; rfl)); apply Exists.intro; refine ⟨fun wq hCq _ => ?_, ?_⟩; (· (go_wp2_with fail; refine ⟨rfl, Below.refl _ _, ?_⟩; simp only [Grow.getD_lit, Grow.nth]; rfl)); intro K hK; simp only [Grow.put_lit, Grow.setAt]; refine hK _ _ ?_; clear hK K) | (refine Grow.lex_nilCheck rfl rfl ?_ rfl ?_; (· first | exact Grow.wanted_none | (rw [Hopsq.out]; rfl)); intro K hK; simp only [Grow.put_lit, Grow.setAt]; refine hK _ _ ?_; clear hK K) | (refine Grow.lex_skip ?_ ?_; (· (rw [Hopsq.out]; rfl)); intro K hK; simp only [Grow.put_lit, Grow.setAt]; refine hK _ _ ?_; clear hK K))
    refine Grow.lex_nil ?_
    intro w5 hb5 hTq
    have hre := entsR_out (Grow.Holds.of_upd hTq).2
    replace hb5 := Grow.Cl.base hb5
    clear hTq Hopsq opsq t0 t1 t2 t3 t4 t5 t6 t7 u0 u1
    generalize listC (both c (hallC b)) = all at *
    obtain ⟨N, hN⟩ : ∃ N, N = all.length := ⟨_, rfl⟩
    rw [← hN] at hre hN64 ⊢
    have HNN := Lib.hid hN
    have HE5 := Lib.hid hre
    have HO5 := Lib.hid (rowLater HO4.out hb5)
    have HB5 := Lib.hid (HB4.out.next hb5)
    have HX35 := Lib.hid (HX34.out.next hb5)
    have HW5 := Lib.hid (HW4.out.trans (hb5.mono HW4.out.size))
    have hs05 : w0.heap.size ≤ w5.heap.size := Nat.le_trans hs04 hb5.size
    clear hre hb5 HO4 HB4 HX34 HW4 HX04 HX24 HR4 hN
    go_wp2_with fail
    go_loopw [38] (fun v wr => ∃ (k : Nat) (q9 : Option Addr) (cap9 : Nat), k ≤ N ∧ v = .int .i64 k ∧ Blk wr g1 [.int .i64 s.fl, .int .i64 s.dir, .int .i64 s.door, .slice q9 (insF s.du (all.take k)).length cap9, .int .i64 s.still, .bool s.late] ∧ wr.ownsRow w0.heap.size 71 3 (.slice q9 (insF s.du (all.take k)).length cap9) (insF s.du (all.take k)).length (dutyCells (insF s.du (all.take k))) ∧ wr.ownsRow w0.heap.size 69 5 (.slice q8 N cap8) N (cells all) ∧ Blk wr g3 [.int .i64 0, .int .i64 0, .int .i64 0, .slice none 0 0, .int .i64 0, .bool false] ∧ Below w.heap.size w wr ∧ w0.heap.size ≤ wr.heap.size) (fun v _ => N - (intOf v).toNat)
    case atStart =>
      refine ⟨0, some ⟨g5, 0, none⟩, n, by omega, rfl, ?_, ?_, HE5.out, HX35.out, HW5.out, hs05⟩
      · show Blk w5 g1 [.int .i64 s.fl, .int .i64 s.dir, .int .i64 s.door, .slice (some ⟨g5, 0, none⟩) s.du.length n, .int .i64 s.still, .bool s.late]
        rw [← HN.out]; exact HB5.out
      · show w5.ownsRow _ _ 3 (.slice (some ⟨g5, 0, none⟩) s.du.length n) s.du.length (dutyCells s.du)
        rw [← HN.out]; exact HO5.out
    case round =>
      clear HE5 HO5 HB5 HX35 HW5
      obtain ⟨k, q9, cap9, hk, rfl, hB, hO, hE, hX, hW, hsz⟩ := hrel
      have HB := Lib.hid hB; have HO := Lib.hid hO; have HE := Lib.hid hE; have HX := Lib.hid hX; have HWr := Lib.hid hW
      obtain ⟨hs1, hs2, hs3⟩ := HOKK.out k
      have HS1 := Lib.hid hs1; have HS2 := Lib.hid hs2
      have hlk : (insF s.du (all.take k)).length ≤ 1000 := by have := HN.out; omega
      clear hB hO hE hX hW hs1 hs2 hs3
      by_cases hlt : k < N
      · have hd : decide ((k : Int) < (N : Int)) = true := by simp; omega
        obtain ⟨p, hp⟩ : ∃ p, all[k]? = some p := ⟨_, List.getElem?_eq_getElem (by rw [← HNN.out]; exact hlt)⟩
        have HFS := Lib.hid (insF_snoc s.du all k p hp)
        have hpd : 1 ≤ p.2 ∧ p.2 ≤ 2 := HPD.out p (List.mem_of_getElem? hp)
        have HPP := Lib.hid hpd
        obtain ⟨A, hqA, hA, hcc⟩ := (rdE_of_owns HE.out HNN.out.symm) k p hp
        subst hqA
        have x0 : wr.cell? (A.add (k * 5)) = some (.int .i64 p.1) := hcc 0 _ rfl
        have x1 : wr.cell? ⟨(A.add (k * 5)).block, (A.add (k * 5)).off + 1, none⟩ = some (.int .i64 p.2) := by rw [← addr_one]; exact hcc 1 _ rfl
        have x2 : wr.cell? ⟨(A.add (k * 5)).block, (A.add (k * 5)).off + 2, none⟩ = some (.int .i64 (-1)) := by rw [← addr_one]; exact hcc 2 _ rfl
        have x3 : wr.cell? ⟨(A.add (k * 5)).block, (A.add (k * 5)).off + 3, none⟩ = some (.int .i64 0) := by rw [← addr_one]; exact hcc 3 _ rfl
        have x4 : wr.cell? ⟨(A.add (k * 5)).block, (A.add (k * 5)).off + 4, none⟩ = some (.bool false) := by rw [← addr_one]; exact hcc 4 _ rfl
        have hkw : (0 : Int) ≤ (k : Int) := by omega
        have hkw' : (k : Int) < (N : Int) := by omega
        clear hcc hA hp hpd
        generalize insF s.du (all.take k) = LK at *
        have X0 : Blk (wr.alloc (.cells #[.int .i64 p.1, .int .i64 p.2, .int .i64 (-1), .int .i64 0, .bool false] 69)) wr.heap.size [.int .i64 p.1, .int .i64 p.2, .int .i64 (-1), .int .i64 0, .bool false] := by
          have hx := Blk.new wr [.int .i64 p.1, .int .i64 p.2, .int .i64 (-1), .int .i64 0, .bool false] 69
          exact hx
        replace X0 : Blk ((wr.alloc (.cells #[.int .i64 p.1, .int .i64 p.2, .int .i64 (-1), .int .i64 0, .bool false] 69)).alloc (.cells #[.int .i64 p.1, .int .i64 p.2, .int .i64 0] 71)) wr.heap.size [.int .i64 p.1, .int .i64 p.2, .int .i64 (-1), .int .i64 0, .bool false] := X0.next (below1' _ _)
        have X1 : Blk ((wr.alloc (.cells #[.int .i64 p.1, .int .i64 p.2, .int .i64 (-1), .int .i64 0, .bool false] 69)).alloc (.cells #[.int .i64 p.1, .int .i64 p.2, .int .i64 0] 71)) (wr.heap.size + 1) [.int .i64 p.1, .int .i64 p.2, .int .i64 0] := by
          have hx := Blk.new (wr.alloc (.cells #[.int .i64 p.1, .int .i64 p.2, .int .i64 (-1), .int .i64 0, .bool false] 69)) [.int .i64 p.1, .int .i64 p.2, .int .i64 0] 71
          rw [World.size_alloc] at hx
          exact hx
        have XW : Below wr.heap.size wr (wr.alloc (.cells #[.int .i64 p.1, .int .i64 p.2, .int .i64 (-1), .int .i64 0, .bool false] 69)) := below1' wr _
        replace XW : Below wr.heap.size wr ((wr.alloc (.cells #[.int .i64 p.1, .int .i64 p.2, .int .i64 (-1), .int .i64 0, .bool false] 69)).alloc (.cells #[.int .i64 p.1, .int .i64 p.2, .int .i64 0] 71)) := XW.trans ((below1' _ _).mono XW.size)
        have HWW := Lib.hid XW; have HX0 := Lib.hid X0; have HX1 := Lib.hid X1
        clear XW X0 X1
        go_upto_region 10 with fail
        generalize ((wr.alloc (.cells #[.int .i64 p.1, .int .i64 p.2, .int .i64 (-1), .int .i64 0, .bool false] 69)).alloc (.cells #[.int .i64 p.1, .int .i64 p.2, .int .i64 0] 71)) = w6 at *
        have HW := Lib.hid (Below.refl w6.heap.size w6)
        have hz0 := HX0.out.lt; have hz1 := HX1.out.lt
        have HB6 := Lib.hid (HB.out.next HWW.out); have HO6 := Lib.hid (rowLater HO.out HWW.out); have HE6 := Lib.hid (rowLater HE.out HWW.out); have HX6 := Lib.hid (HX.out.next HWW.out)
        have HW6 := Lib.hid (HWr.out.trans (HWW.out.mono HWr.out.size))
        have hs6 : w0.heap.size ≤ w6.heap.size := Nat.le_trans hsz HWW.out.size
        clear x0 x1 x2 x3 x4 HB HO HE HX HWr hsz hd hkw hkw' HW hz0
        have j0 := (HB6.out).cell 0 _ rfl
        have j1 := (HB6.out).cell 1 _ rfl
        have j2 := (HB6.out).cell 2 _ rfl
        have j3 := (HB6.out).cell 3 _ rfl
        have j4 := (HB6.out).cell 4 _ rfl
        have j5 := (HB6.out).cell 5 _ rfl
        have d0 := (HX1.out).cell 0 _ rfl
        have d1 := (HX1.out).cell 1 _ rfl
        have d2 := (HX1.out).cell 2 _ rfl
        have HBS := Lib.hid (bsf_any LK q9 cap9 (p.1, p.2, 0) w6 hlk (rdD_of_owns HO6.out rfl) HS1.out HS2.out HPP.out)
        go_wp2_with fail
        refine HBS.out.mono ?_
        rintro e w7 ⟨i, f, rfl, hi, h1, h2, h3, hb7⟩
        have HH1 := Lib.hid h1; have HH2 := Lib.hid h2; have HH3 := Lib.hid h3; have HII := Lib.hid hi
        have HB7 := Lib.hid (HB6.out.next hb7); have HO7 := Lib.hid (rowLater HO6.out hb7); have HE7 := Lib.hid (rowLater HE6.out hb7); have HX7 := Lib.hid (HX6.out.next hb7)
        have HW7 := Lib.hid (HW6.out.trans (hb7.mono HW6.out.size))
        have HX17 := Lib.hid (HX1.out.next hb7)
        have hs7 : w0.heap.size ≤ w7.heap.size := Nat.le_trans hs6 hb7.size
        clear h1 h2 h3 hi hb7 HB6 HO6 HE6 HX6 HW6 HBS HWW j0 j1 j2 j3 j4 j5 d0 d1 d2 HX1
        cases f
        · have HKN : Hid (insK LK (p.1, p.2, 0) = LK.take i ++ (p.1, p.2, 0) :: LK.drop i) := Lib.hid (insK_new LK _ i HS1.out HH1.out HH2.out (fun h => by have := HH3.out.2 h; cases this))
          have j0 := (HB7.out).cell 0 _ rfl
          have j1 := (HB7.out).cell 1 _ rfl
          have j2 := (HB7.out).cell 2 _ rfl
          have j3 := (HB7.out).cell 3 _ rfl
          have j4 := (HB7.out).cell 4 _ rfl
          have j5 := (HB7.out).cell 5 _ rfl
          have d0 := (HX17.out).cell 0 _ rfl
          have d1 := (HX17.out).cell 1 _ rfl
          have d2 := (HX17.out).cell 2 _ rfl
          have BD := Blk.new w7 (Duty.cells (p.1, p.2, 0)) 71
          have hbe := below1' w7 (.cells #[.int .i64 p.1, .int .i64 p.2, .int .i64 0] 71)
          have hO8 := rowLater HO7.out hbe
          have HINS := Lib.hid (insert_any w0.heap.size LK.length cap9 i w7.heap.size q9 LK (p.1, p.2, 0) (w7.alloc (.cells #[.int .i64 p.1, .int .i64 p.2, .int .i64 0] 71)) hlk HII.out hO8 rfl BD (row_nelt HO7.out (Nat.le_refl _)) (Nat.le_trans hs7 hbe.size))
          have HO8 := Lib.hid hO8
          have HB8 := Lib.hid (HB7.out.next hbe); have HE8 := Lib.hid (rowLater HE7.out hbe); have HX8 := Lib.hid (HX7.out.next hbe)
          have HW8 := Lib.hid (HW7.out.trans (hbe.mono HW7.out.size))
          have hs8 := Nat.le_trans hs7 hbe.size
          clear hO8 hbe BD HB7 HO7 HE7 HX7 HW7 HX17
          go_wp2_with fail
          refine HINS.out.mono ?_
          rintro e w9 ⟨v, rfl, hown, hb9, hg9⟩
          have hml : LK.length + 1 = (LK.take i ++ (p.1, p.2, 0) :: LK.drop i).length := by
            have := HII.out
            simp only [List.length_append, List.length_take, List.length_cons, List.length_drop]; omega
          rw [hml] at hown
          rw [← HKN.out, ← HFS.out] at hown
          obtain ⟨q10, cap10, rfl⟩ := row_form hown
          have HB9 := Lib.hid (HB8.out.later hb9 hzz1); have HX9 := Lib.hid (HX8.out.later hb9 hzz3)
          have HE9 := Lib.hid (HE8.out.kept hg9 (rows_apart (by decide) HE8.out HO8.out))
          have HW9 := Lib.hid (HW8.out.trans (hb9.mono hGw))
          have HO9 := Lib.hid hown
          have hs9 : w0.heap.size ≤ w9.heap.size := Nat.le_trans hs8 hg9.size
          clear hown hb9 hg9 hml HINS HB8 HO8 HE8 HX8 HW8 j0 j1 j2 j3 j4 j5 d0 d1 d2 hs7 hs8 hs6
          have f3 := HB9.out.fr 3
          have j0 := (HB9.out).cell 0 _ rfl
          have j1 := (HB9.out).cell 1 _ rfl
          have j2 := (HB9.out).cell 2 _ rfl
          have j3 := (HB9.out).cell 3 _ rfl
          have j4 := (HB9.out).cell 4 _ rfl
          have j5 := (HB9.out).cell 5 _ rfl
          go_wp2_with fail
          refine ⟨⟨k + 1, q10, cap10, by omega, by go_num, HB9.out.set 3 _, row_set HO9.out (row_ne HO9.out hzz1), row_set HE9.out (row_ne HE9.out hzz1), HX9.out.other hg13 _, HW9.out.setCell (p := ⟨g1, 3, none⟩) hG1 _, by simpa [World.setCell] using hs9⟩, by simp [intOf]; omega⟩
        · have HKN : Hid (insF s.du (all.take (k + 1)) = LK) := Lib.hid (by
            obtain ⟨x, hx, hxk⟩ := HH3.out.1 rfl
            rw [HFS.out, insK_found LK _ x i hx hxk])
          go_wp2_with fail
          exact ⟨⟨k + 1, q9, cap9, by omega, by go_num, by rw [HKN.out]; exact HB7.out, by rw [HKN.out]; exact HO7.out, HE7.out, HX7.out, HW7.out, hs7⟩, by simp [intOf]; omega⟩
      · obtain rfl : k = N := by omega
        have hd : decide ((k : Int) < (k : Int)) = false := by simp
        have ht : all.take k = all := by rw [HNN.out, List.take_length]
        rw [ht] at HB HO
        have HVV2 : Hid (injectW b car s c = ⟨s.fl, s.dir, s.door, insF s.du all, s.still, s.late && decide ((insF s.du all).length = 0)⟩) := Lib.hid (by rw [HVV.out, HNV.out])
        clear HVV ht hlk
        generalize insF s.du all = LL at *
        have hlo := row_lo HO.out
        have hn1 : ∀ A, q9 = some A → A.block ≠ g1 := fun A hA => by have := hlo A hA; omega
        have hn3 : ∀ A, q9 = some A → A.block ≠ g3 := fun A hA => by have := hlo A hA; omega
        have hloW : ∀ A, q9 = some A → w.heap.size ≤ A.block := fun A hA => Nat.le_trans hGw (hlo A hA)
        have HN1 := Lib.hid hn1; have HN3 := Lib.hid hn3; have HLW := Lib.hid hloW
        have HD := Lib.hid (rdD_of_owns HO.out rfl)
        clear hlo hn1 hn3 hloW HO
        obtain ⟨la, hla⟩ : ∃ la, la = s.late := ⟨_, rfl⟩
        rw [← hla] at HB HVV2
        clear hla
        have e5 := HB.out.fr 5
        have j0 := (HB.out).cell 0 _ rfl
        have j1 := (HB.out).cell 1 _ rfl
        have j2 := (HB.out).cell 2 _ rfl
        have j3 := (HB.out).cell 3 _ rfl
        have j4 := (HB.out).cell 4 _ rfl
        have j5 := (HB.out).cell 5 _ rfl
        cases la
        · have HVE : Hid (injectW b car s c = ⟨s.fl, s.dir, s.door, LL, s.still, false⟩) := Lib.hid (by rw [HVV2.out]; rfl)
          go_upto_region 15 with fail
          have HBa := Lib.hid (HB.out.set 5 (.bool false))
          have HDa := Lib.hid (HD.out.set (g := g1) (i := 5) (u := .bool false) HN1.out)
          have HXa := Lib.hid (HX.out.other (i := 5) hg13 (.bool false))
          have HWa := Lib.hid (HWr.out.setCell (p := ⟨g1, 5, none⟩) hG1 (.bool false))
          clear HB HD HX HWr j0 j1 j2 j3 j4 j5 e5
          change Hid (Blk _ g1 [.int .i64 s.fl, .int .i64 s.dir, .int .i64 s.door, .slice q9 LL.length cap9, .int .i64 s.still, .bool false]) at HBa
          generalize wr.setCell ⟨g1, 5, none⟩ (.bool false) = wz at *
          have j0 := (HBa.out).cell 0 _ rfl
          have j1 := (HBa.out).cell 1 _ rfl
          have j2 := (HBa.out).cell 2 _ rfl
          have j3 := (HBa.out).cell 3 _ rfl
          have j4 := (HBa.out).cell 4 _ rfl
          have j5 := (HBa.out).cell 5 _ rfl
          have z0 := (HXa.out).cell 0 _ rfl
          have z1 := (HXa.out).cell 1 _ rfl
          have z2 := (HXa.out).cell 2 _ rfl
          have z3 := (HXa.out).cell 3 _ rfl
          have z4 := (HXa.out).cell 4 _ rfl
          have z5 := (HXa.out).cell 5 _ rfl
          have f0 := HXa.out.fr 0; have f1 := HXa.out.fr 1; have f2 := HXa.out.fr 2; have f3 := HXa.out.fr 3; have f4 := HXa.out.fr 4; have f5 := HXa.out.fr 5
          go_wp2_with fail
          have R8 := (((((HXa.out.set 0 (.int .i64 s.fl)).set 1 (.int .i64 s.dir)).set 2 (.int .i64 s.door)).set 3 (.slice q9 LL.length cap9)).set 4 (.int .i64 s.still)).set 5 (.bool false)
          have r0 := (R8).cell 0 _ rfl
          have r1 := (R8).cell 1 _ rfl
          have r2 := (R8).cell 2 _ rfl
          have r3 := (R8).cell 3 _ rfl
          have r4 := (R8).cell 4 _ rfl
          have r5 := (R8).cell 5 _ rfl
          exact bodyPost_ret (v := .tuple #[cvS ⟨s.fl, s.dir, s.door, LL, s.still, false⟩ q9 cap9, .int .i64 0]) (by simp [results, Try.results12, go_sem, r0, r1, r2, r3, r4, r5]) rfl ⟨_, rfl, (((((HWa.out.setCell (p := ⟨g3, 0, none⟩) hG3 _).setCell (p := ⟨g3, 1, none⟩) hG3 _).setCell (p := ⟨g3, 2, none⟩) hG3 _).setCell (p := ⟨g3, 3, none⟩) hG3 _).setCell (p := ⟨g3, 4, none⟩) hG3 _).setCell (p := ⟨g3, 5, none⟩) hG3 _, ⟨q9, cap9, by rw [HVE.out, HST.out]; rfl, by rw [HVE.out]; exact (((((HDa.out.set HN3.out).set HN3.out).set HN3.out).set HN3.out).set HN3.out).set HN3.out, HLW.out⟩⟩
        · by_cases h0 : LL.length = 0
          · have HVE : Hid (injectW b car s c = ⟨s.fl, s.dir, s.door, LL, s.still, true⟩) := Lib.hid (by rw [HVV2.out, h0]; rfl)
            have q0 : ((LL.length : Int) == 0) = true := by simp [h0]
            clear h0
            go_upto_region 15 with fail
            have HBa := Lib.hid (HB.out.set 5 (.bool true))
            have HDa := Lib.hid (HD.out.set (g := g1) (i := 5) (u := .bool true) HN1.out)
            have HXa := Lib.hid (HX.out.other (i := 5) hg13 (.bool true))
            have HWa := Lib.hid (HWr.out.setCell (p := ⟨g1, 5, none⟩) hG1 (.bool true))
            clear HB HD HX HWr j0 j1 j2 j3 j4 j5 e5
            change Hid (Blk _ g1 [.int .i64 s.fl, .int .i64 s.dir, .int .i64 s.door, .slice q9 LL.length cap9, .int .i64 s.still, .bool true]) at HBa
            generalize wr.setCell ⟨g1, 5, none⟩ (.bool true) = wz at *
            have j0 := (HBa.out).cell 0 _ rfl
            have j1 := (HBa.out).cell 1 _ rfl
            have j2 := (HBa.out).cell 2 _ rfl
            have j3 := (HBa.out).cell 3 _ rfl
            have j4 := (HBa.out).cell 4 _ rfl
            have j5 := (HBa.out).cell 5 _ rfl
            have z0 := (HXa.out).cell 0 _ rfl
            have z1 := (HXa.out).cell 1 _ rfl
            have z2 := (HXa.out).cell 2 _ rfl
            have z3 := (HXa.out).cell 3 _ rfl
            have z4 := (HXa.out).cell 4 _ rfl
            have z5 := (HXa.out).cell 5 _ rfl
            have f0 := HXa.out.fr 0; have f1 := HXa.out.fr 1; have f2 := HXa.out.fr 2; have f3 := HXa.out.fr 3; have f4 := HXa.out.fr 4; have f5 := HXa.out.fr 5
            go_wp2_with fail
            have R8 := (((((HXa.out.set 0 (.int .i64 s.fl)).set 1 (.int .i64 s.dir)).set 2 (.int .i64 s.door)).set 3 (.slice q9 LL.length cap9)).set 4 (.int .i64 s.still)).set 5 (.bool true)
            have r0 := (R8).cell 0 _ rfl
            have r1 := (R8).cell 1 _ rfl
            have r2 := (R8).cell 2 _ rfl
            have r3 := (R8).cell 3 _ rfl
            have r4 := (R8).cell 4 _ rfl
            have r5 := (R8).cell 5 _ rfl
            exact bodyPost_ret (v := .tuple #[cvS ⟨s.fl, s.dir, s.door, LL, s.still, true⟩ q9 cap9, .int .i64 0]) (by simp [results, Try.results12, go_sem, r0, r1, r2, r3, r4, r5]) rfl ⟨_, rfl, (((((HWa.out.setCell (p := ⟨g3, 0, none⟩) hG3 _).setCell (p := ⟨g3, 1, none⟩) hG3 _).setCell (p := ⟨g3, 2, none⟩) hG3 _).setCell (p := ⟨g3, 3, none⟩) hG3 _).setCell (p := ⟨g3, 4, none⟩) hG3 _).setCell (p := ⟨g3, 5, none⟩) hG3 _, ⟨q9, cap9, by rw [HVE.out, HST.out]; rfl, by rw [HVE.out]; exact (((((HDa.out.set HN3.out).set HN3.out).set HN3.out).set HN3.out).set HN3.out).set HN3.out, HLW.out⟩⟩
          · have HVE : Hid (injectW b car s c = ⟨s.fl, s.dir, s.door, LL, s.still, false⟩) := Lib.hid (by rw [HVV2.out, decide_eq_false h0]; rfl)
            have q0 : ((LL.length : Int) == 0) = false := by simpa using h0
            clear h0
            go_upto_region 15 with fail
            have HBa := Lib.hid (HB.out.set 5 (.bool false))
            have HDa := Lib.hid (HD.out.set (g := g1) (i := 5) (u := .bool false) HN1.out)
            have HXa := Lib.hid (HX.out.other (i := 5) hg13 (.bool false))
            have HWa := Lib.hid (HWr.out.setCell (p := ⟨g1, 5, none⟩) hG1 (.bool false))
            clear HB HD HX HWr j0 j1 j2 j3 j4 j5 e5
            change Hid (Blk _ g1 [.int .i64 s.fl, .int .i64 s.dir, .int .i64 s.door, .slice q9 LL.length cap9, .int .i64 s.still, .bool false]) at HBa
            generalize wr.setCell ⟨g1, 5, none⟩ (.bool false) = wz at *
            have j0 := (HBa.out).cell 0 _ rfl
            have j1 := (HBa.out).cell 1 _ rfl
            have j2 := (HBa.out).cell 2 _ rfl
            have j3 := (HBa.out).cell 3 _ rfl
            have j4 := (HBa.out).cell 4 _ rfl
            have j5 := (HBa.out).cell 5 _ rfl
            have z0 := (HXa.out).cell 0 _ rfl
            have z1 := (HXa.out).cell 1 _ rfl
            have z2 := (HXa.out).cell 2 _ rfl
            have z3 := (HXa.out).cell 3 _ rfl
            have z4 := (HXa.out).cell 4 _ rfl
            have z5 := (HXa.out).cell 5 _ rfl
            have f0 := HXa.out.fr 0; have f1 := HXa.out.fr 1; have f2 := HXa.out.fr 2; have f3 := HXa.out.fr 3; have f4 := HXa.out.fr 4; have f5 := HXa.out.fr 5
            go_wp2_with fail
            have R8 := (((((HXa.out.set 0 (.int .i64 s.fl)).set 1 (.int .i64 s.dir)).set 2 (.int .i64 s.door)).set 3 (.slice q9 LL.length cap9)).set 4 (.int .i64 s.still)).set 5 (.bool false)
            have r0 := (R8).cell 0 _ rfl
            have r1 := (R8).cell 1 _ rfl
            have r2 := (R8).cell 2 _ rfl
            have r3 := (R8).cell 3 _ rfl
            have r4 := (R8).cell 4 _ rfl
            have r5 := (R8).cell 5 _ rfl
            exact bodyPost_ret (v := .tuple #[cvS ⟨s.fl, s.dir, s.door, LL, s.still, false⟩ q9 cap9, .int .i64 0]) (by simp [results, Try.results12, go_sem, r0, r1, r2, r3, r4, r5]) rfl ⟨_, rfl, (((((HWa.out.setCell (p := ⟨g3, 0, none⟩) hG3 _).setCell (p := ⟨g3, 1, none⟩) hG3 _).setCell (p := ⟨g3, 2, none⟩) hG3 _).setCell (p := ⟨g3, 3, none⟩) hG3 _).setCell (p := ⟨g3, 4, none⟩) hG3 _).setCell (p := ⟨g3, 5, none⟩) hG3 _, ⟨q9, cap9, by rw [HVE.out, HST.out]; rfl, by rw [HVE.out]; exact (((((HDa.out.set HN3.out).set HN3.out).set HN3.out).set HN3.out).set HN3.out).set HN3.out, HLW.out⟩⟩
end Go.Proofs.Ytnnkldidlgiipaa
