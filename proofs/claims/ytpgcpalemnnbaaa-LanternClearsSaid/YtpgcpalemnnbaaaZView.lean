/- A view of a car; the walks over lantern.called and its reference. Conditions: cars that can be read. -/
import Derived.Test.YtpgcpalemnnbaaaZHallB
import Derived.Test.YtpgcpalemnnbaaaZBld10
namespace Go.Proofs.Ytpgcpalemnnbaaa
open Go.RowKit
structure ViewV where
  rd : Bool
  sv : Bool
  lg : Bool
  lo : Bool
  fl : Int
  dir : Int
  ld : Int
  sh : CS
  car : Int
  hu : Int
  hd : Int
abbrev ViewV.cells (v : ViewV) : List Value := [.bool v.rd, .bool v.sv, .bool v.lg, .bool v.lo, .int .i64 v.fl, .int .i64 v.dir, .int .i64 v.ld, .int .u32 (v.sh.1.toNat : Int), .int .u32 (v.sh.2.toNat : Int), .int .u32 v.car, .int .u32 v.hu, .int .u32 v.hd]
abbrev cvV (v : ViewV) : Value := .agg #[.bool v.rd, .bool v.sv, .bool v.lg, .bool v.lo, .int .i64 v.fl, .int .i64 v.dir, .int .i64 v.ld, .int .u32 (v.sh.1.toNat : Int), .int .u32 (v.sh.2.toNat : Int), .int .u32 v.car, .int .u32 v.hu, .int .u32 v.hd]
def viewCells (l : List ViewV) : List Value := l.flatMap ViewV.cells
theorem viewCells_snoc (l : List ViewV) (m : ViewV) : viewCells (l ++ [m]) = viewCells l ++ m.cells := by simp [viewCells]
theorem viewCells_len (l : List ViewV) : (viewCells l).length = l.length * 12 := by
  induction l with
  | nil => rfl
  | cons c l ih => simp only [viewCells, List.flatMap_cons, List.length_append] at *; rw [ih]; simp [ViewV.cells]; omega
theorem viewCells_at (l : List ViewV) (i : Nat) (c : ViewV) (h : l[i]? = some c) (j : Nat) (u : Value) (hu : c.cells[j]? = some u) : (viewCells l)[i * 12 + j]? = some u := by
  induction l generalizing i with
  | nil => simp at h
  | cons q l ih =>
    have hj : j < 12 := (List.getElem?_eq_some_iff.1 hu).1
    show (q.cells ++ viewCells l)[i * 12 + j]? = some u
    cases i with
    | zero =>
      simp at h; subst h
      rw [List.getElem?_append_left (by simp [ViewV.cells]; omega)]
      simpa using hu
    | succ i =>
      rw [List.getElem?_append_right (by simp [ViewV.cells]; omega)]
      have : (i + 1) * 12 + j - q.cells.length = i * 12 + j := by simp [ViewV.cells]; omega
      rw [this]
      exact ih i (by simpa using h)
theorem viewCells_set (l : List ViewV) (i j : Nat) (c c' : ViewV) (u : Value) (hj : j < 12) (hi : l[i]? = some c) (h : c'.cells = c.cells.set j u) : viewCells (l.set i c') = (viewCells l).set (i * 12 + j) u := by
  induction l generalizing i with
  | nil => simp at hi
  | cons q l ih =>
    cases i with
    | zero =>
      simp at hi; subst hi
      show c'.cells ++ viewCells l = (q.cells ++ viewCells l).set (0 * 12 + j) u
      rw [List.set_append_left _ _ (by simp [ViewV.cells]; omega), h, Nat.zero_mul, Nat.zero_add]
    | succ i =>
      show q.cells ++ viewCells (l.set i c') = (q.cells ++ viewCells l).set ((i + 1) * 12 + j) u
      rw [List.set_append_right _ _ (by simp [ViewV.cells]; omega), ih i (by simpa using hi)]
      congr 2
      simp [ViewV.cells]; omega
theorem view_one (v : ViewV) : ∀ u ∈ v.cells, u.oneCell' = true := by
  intro u hu
  simp only [ViewV.cells, List.mem_cons, List.not_mem_nil, or_false] at hu
  rcases hu with rfl | rfl | rfl | rfl | rfl | rfl | rfl | rfl | rfl | rfl | rfl | rfl <;> rfl
/-- The slice from q on holds the views. -/
def RdV (w : World) (q : Option Addr) (l : List ViewV) : Prop := ∀ i c, l[i]? = some c → ∃ A, q = some A ∧ A.block < w.heap.size ∧ ∀ j u, c.cells[j]? = some u → w.cell? (A.add (i * 12 + j)) = some u
theorem RdV.next {w w' : World} {q : Option Addr} {l : List ViewV} (h : RdV w q l) (hb : Below w.heap.size w w') : RdV w' q l := by
  intro i c hc
  obtain ⟨A, hq, hA, hcell⟩ := h i c hc
  refine ⟨A, hq, Nat.lt_of_lt_of_le hA hb.size, fun j u hu => ?_⟩
  rw [hb.cell (by rw [addr_block]; exact hA)]
  exact hcell j u hu
/-- The hall calls at which a car calls. -/
def calledC (b : BldV) (v : ViewV) : CS := if v.sv then both v.sh (hallC b) else (0#32, 0#32)
set_option maxHeartbeats 2000000 in
theorem called_any (b : BldV) (q : Option Addr) (cap : Nat) (v : ViewV) (w : World) (hlen : b.cars.length ≤ 1000) (hsl : ∀ c ∈ b.cars, -9223372036854775808 ≤ c.sl ∧ c.sl < 9223372036854775807) (hr : RdC w q b.cars) :
    Calls Try.prog 31 #[cvB b q cap, cvV v] w fun e w' => e = .returned (cv (calledC b v)) ∧ Below w.heap.size w w' := by
  have X0 : Blk (w.alloc (.cells #[.int .i64 b.fl, .int .i64 b.deb, .int .i64 b.room, .int .i64 b.park, .float .f64 b.em, .float .f64 b.fu, .float .f64 b.ov, .slice q b.cars.length cap] 28)) w.heap.size [.int .i64 b.fl, .int .i64 b.deb, .int .i64 b.room, .int .i64 b.park, .float .f64 b.em, .float .f64 b.fu, .float .f64 b.ov, .slice q b.cars.length cap] := by
    have hx := Blk.new w [.int .i64 b.fl, .int .i64 b.deb, .int .i64 b.room, .int .i64 b.park, .float .f64 b.em, .float .f64 b.fu, .float .f64 b.ov, .slice q b.cars.length cap] 28
    exact hx
  replace X0 : Blk ((w.alloc (.cells #[.int .i64 b.fl, .int .i64 b.deb, .int .i64 b.room, .int .i64 b.park, .float .f64 b.em, .float .f64 b.fu, .float .f64 b.ov, .slice q b.cars.length cap] 28)).alloc (.cells #[.bool v.rd, .bool v.sv, .bool v.lg, .bool v.lo, .int .i64 v.fl, .int .i64 v.dir, .int .i64 v.ld, .int .u32 (v.sh.1.toNat : Int), .int .u32 (v.sh.2.toNat : Int), .int .u32 v.car, .int .u32 v.hu, .int .u32 v.hd] 50)) w.heap.size [.int .i64 b.fl, .int .i64 b.deb, .int .i64 b.room, .int .i64 b.park, .float .f64 b.em, .float .f64 b.fu, .float .f64 b.ov, .slice q b.cars.length cap] := X0.next (below1' _ _)
  replace X0 : Blk (((w.alloc (.cells #[.int .i64 b.fl, .int .i64 b.deb, .int .i64 b.room, .int .i64 b.park, .float .f64 b.em, .float .f64 b.fu, .float .f64 b.ov, .slice q b.cars.length cap] 28)).alloc (.cells #[.bool v.rd, .bool v.sv, .bool v.lg, .bool v.lo, .int .i64 v.fl, .int .i64 v.dir, .int .i64 v.ld, .int .u32 (v.sh.1.toNat : Int), .int .u32 (v.sh.2.toNat : Int), .int .u32 v.car, .int .u32 v.hu, .int .u32 v.hd] 50)).alloc (.cells #[.int .u32 0, .int .u32 0] 33)) w.heap.size [.int .i64 b.fl, .int .i64 b.deb, .int .i64 b.room, .int .i64 b.park, .float .f64 b.em, .float .f64 b.fu, .float .f64 b.ov, .slice q b.cars.length cap] := X0.next (below1' _ _)
  have X1 : Blk ((w.alloc (.cells #[.int .i64 b.fl, .int .i64 b.deb, .int .i64 b.room, .int .i64 b.park, .float .f64 b.em, .float .f64 b.fu, .float .f64 b.ov, .slice q b.cars.length cap] 28)).alloc (.cells #[.bool v.rd, .bool v.sv, .bool v.lg, .bool v.lo, .int .i64 v.fl, .int .i64 v.dir, .int .i64 v.ld, .int .u32 (v.sh.1.toNat : Int), .int .u32 (v.sh.2.toNat : Int), .int .u32 v.car, .int .u32 v.hu, .int .u32 v.hd] 50)) (w.heap.size + 1) [.bool v.rd, .bool v.sv, .bool v.lg, .bool v.lo, .int .i64 v.fl, .int .i64 v.dir, .int .i64 v.ld, .int .u32 (v.sh.1.toNat : Int), .int .u32 (v.sh.2.toNat : Int), .int .u32 v.car, .int .u32 v.hu, .int .u32 v.hd] := by
    have hx := Blk.new (w.alloc (.cells #[.int .i64 b.fl, .int .i64 b.deb, .int .i64 b.room, .int .i64 b.park, .float .f64 b.em, .float .f64 b.fu, .float .f64 b.ov, .slice q b.cars.length cap] 28)) [.bool v.rd, .bool v.sv, .bool v.lg, .bool v.lo, .int .i64 v.fl, .int .i64 v.dir, .int .i64 v.ld, .int .u32 (v.sh.1.toNat : Int), .int .u32 (v.sh.2.toNat : Int), .int .u32 v.car, .int .u32 v.hu, .int .u32 v.hd] 50
    rw [World.size_alloc] at hx
    exact hx
  replace X1 : Blk (((w.alloc (.cells #[.int .i64 b.fl, .int .i64 b.deb, .int .i64 b.room, .int .i64 b.park, .float .f64 b.em, .float .f64 b.fu, .float .f64 b.ov, .slice q b.cars.length cap] 28)).alloc (.cells #[.bool v.rd, .bool v.sv, .bool v.lg, .bool v.lo, .int .i64 v.fl, .int .i64 v.dir, .int .i64 v.ld, .int .u32 (v.sh.1.toNat : Int), .int .u32 (v.sh.2.toNat : Int), .int .u32 v.car, .int .u32 v.hu, .int .u32 v.hd] 50)).alloc (.cells #[.int .u32 0, .int .u32 0] 33)) (w.heap.size + 1) [.bool v.rd, .bool v.sv, .bool v.lg, .bool v.lo, .int .i64 v.fl, .int .i64 v.dir, .int .i64 v.ld, .int .u32 (v.sh.1.toNat : Int), .int .u32 (v.sh.2.toNat : Int), .int .u32 v.car, .int .u32 v.hu, .int .u32 v.hd] := X1.next (below1' _ _)
  have X2 : Blk (((w.alloc (.cells #[.int .i64 b.fl, .int .i64 b.deb, .int .i64 b.room, .int .i64 b.park, .float .f64 b.em, .float .f64 b.fu, .float .f64 b.ov, .slice q b.cars.length cap] 28)).alloc (.cells #[.bool v.rd, .bool v.sv, .bool v.lg, .bool v.lo, .int .i64 v.fl, .int .i64 v.dir, .int .i64 v.ld, .int .u32 (v.sh.1.toNat : Int), .int .u32 (v.sh.2.toNat : Int), .int .u32 v.car, .int .u32 v.hu, .int .u32 v.hd] 50)).alloc (.cells #[.int .u32 0, .int .u32 0] 33)) (w.heap.size + 1 + 1) [.int .u32 0, .int .u32 0] := by
    have hx := Blk.new ((w.alloc (.cells #[.int .i64 b.fl, .int .i64 b.deb, .int .i64 b.room, .int .i64 b.park, .float .f64 b.em, .float .f64 b.fu, .float .f64 b.ov, .slice q b.cars.length cap] 28)).alloc (.cells #[.bool v.rd, .bool v.sv, .bool v.lg, .bool v.lo, .int .i64 v.fl, .int .i64 v.dir, .int .i64 v.ld, .int .u32 (v.sh.1.toNat : Int), .int .u32 (v.sh.2.toNat : Int), .int .u32 v.car, .int .u32 v.hu, .int .u32 v.hd] 50)) [.int .u32 0, .int .u32 0] 33
    rw [World.size_alloc, World.size_alloc] at hx
    exact hx
  have XW : Below w.heap.size w (w.alloc (.cells #[.int .i64 b.fl, .int .i64 b.deb, .int .i64 b.room, .int .i64 b.park, .float .f64 b.em, .float .f64 b.fu, .float .f64 b.ov, .slice q b.cars.length cap] 28)) := below1' w _
  replace XW : Below w.heap.size w ((w.alloc (.cells #[.int .i64 b.fl, .int .i64 b.deb, .int .i64 b.room, .int .i64 b.park, .float .f64 b.em, .float .f64 b.fu, .float .f64 b.ov, .slice q b.cars.length cap] 28)).alloc (.cells #[.bool v.rd, .bool v.sv, .bool v.lg, .bool v.lo, .int .i64 v.fl, .int .i64 v.dir, .int .i64 v.ld, .int .u32 (v.sh.1.toNat : Int), .int .u32 (v.sh.2.toNat : Int), .int .u32 v.car, .int .u32 v.hu, .int .u32 v.hd] 50)) := XW.trans ((below1' _ _).mono XW.size)
  replace XW : Below w.heap.size w (((w.alloc (.cells #[.int .i64 b.fl, .int .i64 b.deb, .int .i64 b.room, .int .i64 b.park, .float .f64 b.em, .float .f64 b.fu, .float .f64 b.ov, .slice q b.cars.length cap] 28)).alloc (.cells #[.bool v.rd, .bool v.sv, .bool v.lg, .bool v.lo, .int .i64 v.fl, .int .i64 v.dir, .int .i64 v.ld, .int .u32 (v.sh.1.toNat : Int), .int .u32 (v.sh.2.toNat : Int), .int .u32 v.car, .int .u32 v.hu, .int .u32 v.hd] 50)).alloc (.cells #[.int .u32 0, .int .u32 0] 33)) := XW.trans ((below1' _ _).mono XW.size)
  have HWW := Lib.hid XW; have HX0 := Lib.hid X0; have HX1 := Lib.hid X1; have HX2 := Lib.hid X2
  clear XW X0 X1 X2
  have HR := Lib.hid (hr.next HWW.out)
  have HL := Lib.hid hlen; have HSL := Lib.hid hsl
  clear hr hlen hsl
  go_enter Try.func31, Try.ntmps31
  go_upto_region 1 with fail
  generalize (((w.alloc (.cells #[.int .i64 b.fl, .int .i64 b.deb, .int .i64 b.room, .int .i64 b.park, .float .f64 b.em, .float .f64 b.fu, .float .f64 b.ov, .slice q b.cars.length cap] 28)).alloc (.cells #[.bool v.rd, .bool v.sv, .bool v.lg, .bool v.lo, .int .i64 v.fl, .int .i64 v.dir, .int .i64 v.ld, .int .u32 (v.sh.1.toNat : Int), .int .u32 (v.sh.2.toNat : Int), .int .u32 v.car, .int .u32 v.hu, .int .u32 v.hd] 50)).alloc (.cells #[.int .u32 0, .int .u32 0] 33)) = w0 at *
  generalize hg2 : w.heap.size + 1 + 1 = g2 at *
  generalize hg1 : w.heap.size + 1 = g1 at *
  have HG1 := Lib.hid hg1; have hq1 : w.heap.size + 1 ≤ g1 := by omega
  have HG2 := Lib.hid hg2; have hq2 : w.heap.size + 2 ≤ g2 := by omega
  clear hg1 hg2
  have HW := Lib.hid (Below.refl w0.heap.size w0)
  have hz0 := HX0.out.lt; have hz1 := HX1.out.lt; have hz2 := HX2.out.lt
  have k1 := HX1.out.cell 1 _ rfl
  have f0 := HX2.out.fr 0; have f1 := HX2.out.fr 1
  by_cases hs : v.sv = true
  · have HS := Lib.hid hs
    rw [hs] at k1
    clear hs
    go_upto_region 3 with fail
    clear k1 f0 f1
    have t0 := (HX0.out).reg 0 _ rfl
    have t1 := (HX0.out).reg 1 _ rfl
    have t2 := (HX0.out).reg 2 _ rfl
    have t3 := (HX0.out).reg 3 _ rfl
    have t4 := (HX0.out).reg 4 _ rfl
    have t5 := (HX0.out).reg 5 _ rfl
    have t6 := (HX0.out).reg 6 _ rfl
    have t7 := (HX0.out).reg 7 _ rfl
    have s7 := (HX1.out).reg 7 _ rfl
    have s8 := (HX1.out).reg 8 _ rfl
    (refine Grow.wp_region_tail 5 Grow.noPlan Grow.noPlan_stable (by kernel_rfl) (by kernel_rfl) ?_; intro opsq Hopsq; simp only [List.take_succ_cons, List.take_zero, List.drop_succ_cons, List.drop_zero])
    repeat (first | (refine Grow.lex_move rfl ?_ rfl ?_; (· first | exact Grow.wanted_none | (rw [Hopsq.out]; rfl)); intro K hK; simp only [Grow.put_lit, Grow.setAt, Grow.eval_lit, Grow.ev]; refine hK _ _ ?_; clear hK K) | (refine Grow.lex_assign rfl ?_ rfl ?_; (· first | exact Grow.wanted_none | (rw [Hopsq.out]; rfl)); intro K hK; simp only [Grow.put_lit, Grow.setAt, Grow.eval_lit, Grow.ev]; refine hK _ _ ?_; clear hK K) | (refine Grow.lex_plain rfl rfl ?_ rfl ?_; (· first | exact Grow.wanted_none | (rw [Hopsq.out]; rfl)); apply Exists.intro; refine ⟨fun wq hCq _ => ?_, ?_⟩; (· (go_wp2_with fail; refine ⟨rfl, Below.refl _ _, ?_⟩; simp only [Grow.getD_lit, Grow.nth]; rfl)); intro K hK; simp only [Grow.put_lit, Grow.setAt]; refine hK _ _ ?_; clear hK K) | (refine Grow.lex_nilCheck rfl rfl ?_ rfl ?_; (· first | exact Grow.wanted_none | (rw [Hopsq.out]; rfl)); intro K hK; simp only [Grow.put_lit, Grow.setAt]; refine hK _ _ ?_; clear hK K) | (refine Grow.lex_skip ?_ ?_; (· (rw [Hopsq.out]; rfl)); intro K hK; simp only [Grow.put_lit, Grow.setAt]; refine hK _ _ ?_; clear hK K))
    (refine Grow.lex_call ?_ rfl ?_; (· first | exact Grow.wanted_none | (rw [Hopsq.out]; rfl)); apply Exists.intro; apply Exists.intro; refine ⟨fun wq => ?_, ?_⟩; (· (go_simp; exact ⟨rfl, rfl⟩)); apply Exists.intro; refine ⟨fun wq hCq hKq => ?_, ?_⟩; (· exact hall_any b q cap _ HL.out  (HR.out.next (Grow.Cl.base hCq))); intro K hK; simp only [Grow.put_lit, Grow.setAt]; refine hK _ _ ?_; clear hK K)
    repeat (first | (refine Grow.lex_move rfl ?_ rfl ?_; (· first | exact Grow.wanted_none | (rw [Hopsq.out]; rfl)); intro K hK; simp only [Grow.put_lit, Grow.setAt, Grow.eval_lit, Grow.ev]; refine hK _ _ ?_; clear hK K) | (refine Grow.lex_assign rfl ?_ rfl ?_; (· first | exact Grow.wanted_none | (rw [Hopsq.out]; rfl)); intro K hK; simp only [Grow.put_lit, Grow.setAt, Grow.eval_lit, Grow.ev]; refine hK _ _ ?_; clear hK K) | (refine Grow.lex_plain rfl rfl ?_ rfl ?_; (· first | exact Grow.wanted_none | (rw [Hopsq.out]; rfl)); apply Exists.intro; refine ⟨fun wq hCq _ => ?_, ?_⟩; (· (go_wp2_with fail; refine ⟨rfl, Below.refl _ _, ?_⟩; simp only [Grow.getD_lit, Grow.nth]; rfl)); intro K hK; simp only [Grow.put_lit, Grow.setAt]; refine hK _ _ ?_; clear hK K) | (refine Grow.lex_nilCheck rfl rfl ?_ rfl ?_; (· first | exact Grow.wanted_none | (rw [Hopsq.out]; rfl)); intro K hK; simp only [Grow.put_lit, Grow.setAt]; refine hK _ _ ?_; clear hK K) | (refine Grow.lex_skip ?_ ?_; (· (rw [Hopsq.out]; rfl)); intro K hK; simp only [Grow.put_lit, Grow.setAt]; refine hK _ _ ?_; clear hK K))
    (refine Grow.lex_call ?_ rfl ?_; (· first | exact Grow.wanted_none | (rw [Hopsq.out]; rfl)); apply Exists.intro; apply Exists.intro; refine ⟨fun wq => ?_, ?_⟩; (· (go_simp; exact ⟨rfl, rfl⟩)); apply Exists.intro; refine ⟨fun wq hCq hKq => ?_, ?_⟩; (· exact both_any v.sh (hallC b) _); intro K hK; simp only [Grow.put_lit, Grow.setAt]; refine hK _ _ ?_; clear hK K)
    repeat (first | (refine Grow.lex_move rfl ?_ rfl ?_; (· first | exact Grow.wanted_none | (rw [Hopsq.out]; rfl)); intro K hK; simp only [Grow.put_lit, Grow.setAt, Grow.eval_lit, Grow.ev]; refine hK _ _ ?_; clear hK K) | (refine Grow.lex_assign rfl ?_ rfl ?_; (· first | exact Grow.wanted_none | (rw [Hopsq.out]; rfl)); intro K hK; simp only [Grow.put_lit, Grow.setAt, Grow.eval_lit, Grow.ev]; refine hK _ _ ?_; clear hK K) | (refine Grow.lex_plain rfl rfl ?_ rfl ?_; (· first | exact Grow.wanted_none | (rw [Hopsq.out]; rfl)); apply Exists.intro; refine ⟨fun wq hCq _ => ?_, ?_⟩; (· (go_wp2_with fail; refine ⟨rfl, Below.refl _ _, ?_⟩; simp only [Grow.getD_lit, Grow.nth]; rfl)); intro K hK; simp only [Grow.put_lit, Grow.setAt]; refine hK _ _ ?_; clear hK K) | (refine Grow.lex_nilCheck rfl rfl ?_ rfl ?_; (· first | exact Grow.wanted_none | (rw [Hopsq.out]; rfl)); intro K hK; simp only [Grow.put_lit, Grow.setAt]; refine hK _ _ ?_; clear hK K) | (refine Grow.lex_skip ?_ ?_; (· (rw [Hopsq.out]; rfl)); intro K hK; simp only [Grow.put_lit, Grow.setAt]; refine hK _ _ ?_; clear hK K))
    (refine Grow.lex_nil ?_; intro w1 hb1 _; replace hb1 := Grow.Cl.base hb1; clear Hopsq opsq)
    have R2 := HX2.out.next hb1
    have f0 := R2.fr 0; have f1 := R2.fr 1
    have HB2 := Lib.hid R2
    have HBW := Lib.hid (HWW.out.trans (hb1.mono HWW.out.size))
    clear R2 hb1
    have z0 := (HB2.out).cell 0 _ rfl
    have z1 := (HB2.out).cell 1 _ rfl
    go_wp2_with fail
    have R3 := (HB2.out.set 0 (.int .u32 ((both v.sh (hallC b)).1.toNat : Int))).set 1 (.int .u32 ((both v.sh (hallC b)).2.toNat : Int))
    have r0 := (R3).cell 0 _ rfl
    have r1 := (R3).cell 1 _ rfl
    exact bodyPost_ret (v := cv (both v.sh (hallC b))) (by simp [results, Try.results31, go_sem, r0, r1]) rfl ⟨by unfold calledC; rw [if_pos HS.out], (HBW.out.setCell (p := ⟨g2, 0, none⟩) (by show w.heap.size ≤ g2; omega) _).setCell (p := ⟨g2, 1, none⟩) (by show w.heap.size ≤ g2; omega) _⟩
  · have hs' : v.sv = false := by simpa using hs
    have HS := Lib.hid hs'
    rw [hs'] at k1
    clear hs hs'
    have z0 := (HX2.out).cell 0 _ rfl
    have z1 := (HX2.out).cell 1 _ rfl
    go_wp2_with fail
    have R3 := (HX2.out.set 0 (.int .u32 0)).set 1 (.int .u32 0)
    have r0 := (R3).cell 0 _ rfl
    have r1 := (R3).cell 1 _ rfl
    exact bodyPost_ret (v := cv (0#32, 0#32)) (by simp [results, Try.results31, go_sem, r0, r1]) rfl ⟨by unfold calledC; rw [if_neg (by rw [HS.out]; simp)], (HWW.out.setCell (p := ⟨g2, 0, none⟩) (by show w.heap.size ≤ g2; omega) _).setCell (p := ⟨g2, 1, none⟩) (by show w.heap.size ≤ g2; omega) _⟩
set_option maxHeartbeats 2000000 in
theorem refCalled_any (b : BldV) (q : Option Addr) (cap : Nat) (v : ViewV) (w : World) (hlen : b.cars.length ≤ 1000) (hsl : ∀ c ∈ b.cars, -9223372036854775808 ≤ c.sl ∧ c.sl < 9223372036854775807) (hr : RdC w q b.cars) :
    Calls Try.prog 34 #[cvB b q cap, cvV v] w fun e w' => e = .returned (cv (calledC b v)) ∧ Below w.heap.size w w' := by
  have X0 : Blk (w.alloc (.cells #[.int .i64 b.fl, .int .i64 b.deb, .int .i64 b.room, .int .i64 b.park, .float .f64 b.em, .float .f64 b.fu, .float .f64 b.ov, .slice q b.cars.length cap] 28)) w.heap.size [.int .i64 b.fl, .int .i64 b.deb, .int .i64 b.room, .int .i64 b.park, .float .f64 b.em, .float .f64 b.fu, .float .f64 b.ov, .slice q b.cars.length cap] := by
    have hx := Blk.new w [.int .i64 b.fl, .int .i64 b.deb, .int .i64 b.room, .int .i64 b.park, .float .f64 b.em, .float .f64 b.fu, .float .f64 b.ov, .slice q b.cars.length cap] 28
    exact hx
  replace X0 : Blk ((w.alloc (.cells #[.int .i64 b.fl, .int .i64 b.deb, .int .i64 b.room, .int .i64 b.park, .float .f64 b.em, .float .f64 b.fu, .float .f64 b.ov, .slice q b.cars.length cap] 28)).alloc (.cells #[.bool v.rd, .bool v.sv, .bool v.lg, .bool v.lo, .int .i64 v.fl, .int .i64 v.dir, .int .i64 v.ld, .int .u32 (v.sh.1.toNat : Int), .int .u32 (v.sh.2.toNat : Int), .int .u32 v.car, .int .u32 v.hu, .int .u32 v.hd] 50)) w.heap.size [.int .i64 b.fl, .int .i64 b.deb, .int .i64 b.room, .int .i64 b.park, .float .f64 b.em, .float .f64 b.fu, .float .f64 b.ov, .slice q b.cars.length cap] := X0.next (below1' _ _)
  replace X0 : Blk (((w.alloc (.cells #[.int .i64 b.fl, .int .i64 b.deb, .int .i64 b.room, .int .i64 b.park, .float .f64 b.em, .float .f64 b.fu, .float .f64 b.ov, .slice q b.cars.length cap] 28)).alloc (.cells #[.bool v.rd, .bool v.sv, .bool v.lg, .bool v.lo, .int .i64 v.fl, .int .i64 v.dir, .int .i64 v.ld, .int .u32 (v.sh.1.toNat : Int), .int .u32 (v.sh.2.toNat : Int), .int .u32 v.car, .int .u32 v.hu, .int .u32 v.hd] 50)).alloc (.cells #[.int .u32 0, .int .u32 0] 33)) w.heap.size [.int .i64 b.fl, .int .i64 b.deb, .int .i64 b.room, .int .i64 b.park, .float .f64 b.em, .float .f64 b.fu, .float .f64 b.ov, .slice q b.cars.length cap] := X0.next (below1' _ _)
  have X1 : Blk ((w.alloc (.cells #[.int .i64 b.fl, .int .i64 b.deb, .int .i64 b.room, .int .i64 b.park, .float .f64 b.em, .float .f64 b.fu, .float .f64 b.ov, .slice q b.cars.length cap] 28)).alloc (.cells #[.bool v.rd, .bool v.sv, .bool v.lg, .bool v.lo, .int .i64 v.fl, .int .i64 v.dir, .int .i64 v.ld, .int .u32 (v.sh.1.toNat : Int), .int .u32 (v.sh.2.toNat : Int), .int .u32 v.car, .int .u32 v.hu, .int .u32 v.hd] 50)) (w.heap.size + 1) [.bool v.rd, .bool v.sv, .bool v.lg, .bool v.lo, .int .i64 v.fl, .int .i64 v.dir, .int .i64 v.ld, .int .u32 (v.sh.1.toNat : Int), .int .u32 (v.sh.2.toNat : Int), .int .u32 v.car, .int .u32 v.hu, .int .u32 v.hd] := by
    have hx := Blk.new (w.alloc (.cells #[.int .i64 b.fl, .int .i64 b.deb, .int .i64 b.room, .int .i64 b.park, .float .f64 b.em, .float .f64 b.fu, .float .f64 b.ov, .slice q b.cars.length cap] 28)) [.bool v.rd, .bool v.sv, .bool v.lg, .bool v.lo, .int .i64 v.fl, .int .i64 v.dir, .int .i64 v.ld, .int .u32 (v.sh.1.toNat : Int), .int .u32 (v.sh.2.toNat : Int), .int .u32 v.car, .int .u32 v.hu, .int .u32 v.hd] 50
    rw [World.size_alloc] at hx
    exact hx
  replace X1 : Blk (((w.alloc (.cells #[.int .i64 b.fl, .int .i64 b.deb, .int .i64 b.room, .int .i64 b.park, .float .f64 b.em, .float .f64 b.fu, .float .f64 b.ov, .slice q b.cars.length cap] 28)).alloc (.cells #[.bool v.rd, .bool v.sv, .bool v.lg, .bool v.lo, .int .i64 v.fl, .int .i64 v.dir, .int .i64 v.ld, .int .u32 (v.sh.1.toNat : Int), .int .u32 (v.sh.2.toNat : Int), .int .u32 v.car, .int .u32 v.hu, .int .u32 v.hd] 50)).alloc (.cells #[.int .u32 0, .int .u32 0] 33)) (w.heap.size + 1) [.bool v.rd, .bool v.sv, .bool v.lg, .bool v.lo, .int .i64 v.fl, .int .i64 v.dir, .int .i64 v.ld, .int .u32 (v.sh.1.toNat : Int), .int .u32 (v.sh.2.toNat : Int), .int .u32 v.car, .int .u32 v.hu, .int .u32 v.hd] := X1.next (below1' _ _)
  have X2 : Blk (((w.alloc (.cells #[.int .i64 b.fl, .int .i64 b.deb, .int .i64 b.room, .int .i64 b.park, .float .f64 b.em, .float .f64 b.fu, .float .f64 b.ov, .slice q b.cars.length cap] 28)).alloc (.cells #[.bool v.rd, .bool v.sv, .bool v.lg, .bool v.lo, .int .i64 v.fl, .int .i64 v.dir, .int .i64 v.ld, .int .u32 (v.sh.1.toNat : Int), .int .u32 (v.sh.2.toNat : Int), .int .u32 v.car, .int .u32 v.hu, .int .u32 v.hd] 50)).alloc (.cells #[.int .u32 0, .int .u32 0] 33)) (w.heap.size + 1 + 1) [.int .u32 0, .int .u32 0] := by
    have hx := Blk.new ((w.alloc (.cells #[.int .i64 b.fl, .int .i64 b.deb, .int .i64 b.room, .int .i64 b.park, .float .f64 b.em, .float .f64 b.fu, .float .f64 b.ov, .slice q b.cars.length cap] 28)).alloc (.cells #[.bool v.rd, .bool v.sv, .bool v.lg, .bool v.lo, .int .i64 v.fl, .int .i64 v.dir, .int .i64 v.ld, .int .u32 (v.sh.1.toNat : Int), .int .u32 (v.sh.2.toNat : Int), .int .u32 v.car, .int .u32 v.hu, .int .u32 v.hd] 50)) [.int .u32 0, .int .u32 0] 33
    rw [World.size_alloc, World.size_alloc] at hx
    exact hx
  have XW : Below w.heap.size w (w.alloc (.cells #[.int .i64 b.fl, .int .i64 b.deb, .int .i64 b.room, .int .i64 b.park, .float .f64 b.em, .float .f64 b.fu, .float .f64 b.ov, .slice q b.cars.length cap] 28)) := below1' w _
  replace XW : Below w.heap.size w ((w.alloc (.cells #[.int .i64 b.fl, .int .i64 b.deb, .int .i64 b.room, .int .i64 b.park, .float .f64 b.em, .float .f64 b.fu, .float .f64 b.ov, .slice q b.cars.length cap] 28)).alloc (.cells #[.bool v.rd, .bool v.sv, .bool v.lg, .bool v.lo, .int .i64 v.fl, .int .i64 v.dir, .int .i64 v.ld, .int .u32 (v.sh.1.toNat : Int), .int .u32 (v.sh.2.toNat : Int), .int .u32 v.car, .int .u32 v.hu, .int .u32 v.hd] 50)) := XW.trans ((below1' _ _).mono XW.size)
  replace XW : Below w.heap.size w (((w.alloc (.cells #[.int .i64 b.fl, .int .i64 b.deb, .int .i64 b.room, .int .i64 b.park, .float .f64 b.em, .float .f64 b.fu, .float .f64 b.ov, .slice q b.cars.length cap] 28)).alloc (.cells #[.bool v.rd, .bool v.sv, .bool v.lg, .bool v.lo, .int .i64 v.fl, .int .i64 v.dir, .int .i64 v.ld, .int .u32 (v.sh.1.toNat : Int), .int .u32 (v.sh.2.toNat : Int), .int .u32 v.car, .int .u32 v.hu, .int .u32 v.hd] 50)).alloc (.cells #[.int .u32 0, .int .u32 0] 33)) := XW.trans ((below1' _ _).mono XW.size)
  have HWW := Lib.hid XW; have HX0 := Lib.hid X0; have HX1 := Lib.hid X1; have HX2 := Lib.hid X2
  clear XW X0 X1 X2
  have HR := Lib.hid (hr.next HWW.out)
  have HL := Lib.hid hlen; have HSL := Lib.hid hsl
  clear hr hlen hsl
  go_enter Try.func34, Try.ntmps34
  go_upto_region 1 with fail
  generalize (((w.alloc (.cells #[.int .i64 b.fl, .int .i64 b.deb, .int .i64 b.room, .int .i64 b.park, .float .f64 b.em, .float .f64 b.fu, .float .f64 b.ov, .slice q b.cars.length cap] 28)).alloc (.cells #[.bool v.rd, .bool v.sv, .bool v.lg, .bool v.lo, .int .i64 v.fl, .int .i64 v.dir, .int .i64 v.ld, .int .u32 (v.sh.1.toNat : Int), .int .u32 (v.sh.2.toNat : Int), .int .u32 v.car, .int .u32 v.hu, .int .u32 v.hd] 50)).alloc (.cells #[.int .u32 0, .int .u32 0] 33)) = w0 at *
  generalize hg2 : w.heap.size + 1 + 1 = g2 at *
  generalize hg1 : w.heap.size + 1 = g1 at *
  have HG1 := Lib.hid hg1; have hq1 : w.heap.size + 1 ≤ g1 := by omega
  have HG2 := Lib.hid hg2; have hq2 : w.heap.size + 2 ≤ g2 := by omega
  clear hg1 hg2
  have HW := Lib.hid (Below.refl w0.heap.size w0)
  have hz0 := HX0.out.lt; have hz1 := HX1.out.lt; have hz2 := HX2.out.lt
  have k1 := HX1.out.cell 1 _ rfl
  have f0 := HX2.out.fr 0; have f1 := HX2.out.fr 1
  by_cases hs : v.sv = true
  · have HS := Lib.hid hs
    rw [hs] at k1
    clear hs
    go_upto_region 3 with fail
    clear k1 f0 f1
    have t0 := (HX0.out).reg 0 _ rfl
    have t1 := (HX0.out).reg 1 _ rfl
    have t2 := (HX0.out).reg 2 _ rfl
    have t3 := (HX0.out).reg 3 _ rfl
    have t4 := (HX0.out).reg 4 _ rfl
    have t5 := (HX0.out).reg 5 _ rfl
    have t6 := (HX0.out).reg 6 _ rfl
    have t7 := (HX0.out).reg 7 _ rfl
    have s7 := (HX1.out).reg 7 _ rfl
    have s8 := (HX1.out).reg 8 _ rfl
    (refine Grow.wp_region_tail 5 Grow.noPlan Grow.noPlan_stable (by kernel_rfl) (by kernel_rfl) ?_; intro opsq Hopsq; simp only [List.take_succ_cons, List.take_zero, List.drop_succ_cons, List.drop_zero])
    repeat (first | (refine Grow.lex_move rfl ?_ rfl ?_; (· first | exact Grow.wanted_none | (rw [Hopsq.out]; rfl)); intro K hK; simp only [Grow.put_lit, Grow.setAt, Grow.eval_lit, Grow.ev]; refine hK _ _ ?_; clear hK K) | (refine Grow.lex_assign rfl ?_ rfl ?_; (· first | exact Grow.wanted_none | (rw [Hopsq.out]; rfl)); intro K hK; simp only [Grow.put_lit, Grow.setAt, Grow.eval_lit, Grow.ev]; refine hK _ _ ?_; clear hK K) | (refine Grow.lex_plain rfl rfl ?_ rfl ?_; (· first | exact Grow.wanted_none | (rw [Hopsq.out]; rfl)); apply Exists.intro; refine ⟨fun wq hCq _ => ?_, ?_⟩; (· (go_wp2_with fail; refine ⟨rfl, Below.refl _ _, ?_⟩; simp only [Grow.getD_lit, Grow.nth]; rfl)); intro K hK; simp only [Grow.put_lit, Grow.setAt]; refine hK _ _ ?_; clear hK K) | (refine Grow.lex_nilCheck rfl rfl ?_ rfl ?_; (· first | exact Grow.wanted_none | (rw [Hopsq.out]; rfl)); intro K hK; simp only [Grow.put_lit, Grow.setAt]; refine hK _ _ ?_; clear hK K) | (refine Grow.lex_skip ?_ ?_; (· (rw [Hopsq.out]; rfl)); intro K hK; simp only [Grow.put_lit, Grow.setAt]; refine hK _ _ ?_; clear hK K))
    (refine Grow.lex_call ?_ rfl ?_; (· first | exact Grow.wanted_none | (rw [Hopsq.out]; rfl)); apply Exists.intro; apply Exists.intro; refine ⟨fun wq => ?_, ?_⟩; (· (go_simp; exact ⟨rfl, rfl⟩)); apply Exists.intro; refine ⟨fun wq hCq hKq => ?_, ?_⟩; (· exact refHall_any b q cap _ HL.out HSL.out (HR.out.next (Grow.Cl.base hCq))); intro K hK; simp only [Grow.put_lit, Grow.setAt]; refine hK _ _ ?_; clear hK K)
    repeat (first | (refine Grow.lex_move rfl ?_ rfl ?_; (· first | exact Grow.wanted_none | (rw [Hopsq.out]; rfl)); intro K hK; simp only [Grow.put_lit, Grow.setAt, Grow.eval_lit, Grow.ev]; refine hK _ _ ?_; clear hK K) | (refine Grow.lex_assign rfl ?_ rfl ?_; (· first | exact Grow.wanted_none | (rw [Hopsq.out]; rfl)); intro K hK; simp only [Grow.put_lit, Grow.setAt, Grow.eval_lit, Grow.ev]; refine hK _ _ ?_; clear hK K) | (refine Grow.lex_plain rfl rfl ?_ rfl ?_; (· first | exact Grow.wanted_none | (rw [Hopsq.out]; rfl)); apply Exists.intro; refine ⟨fun wq hCq _ => ?_, ?_⟩; (· (go_wp2_with fail; refine ⟨rfl, Below.refl _ _, ?_⟩; simp only [Grow.getD_lit, Grow.nth]; rfl)); intro K hK; simp only [Grow.put_lit, Grow.setAt]; refine hK _ _ ?_; clear hK K) | (refine Grow.lex_nilCheck rfl rfl ?_ rfl ?_; (· first | exact Grow.wanted_none | (rw [Hopsq.out]; rfl)); intro K hK; simp only [Grow.put_lit, Grow.setAt]; refine hK _ _ ?_; clear hK K) | (refine Grow.lex_skip ?_ ?_; (· (rw [Hopsq.out]; rfl)); intro K hK; simp only [Grow.put_lit, Grow.setAt]; refine hK _ _ ?_; clear hK K))
    (refine Grow.lex_call ?_ rfl ?_; (· first | exact Grow.wanted_none | (rw [Hopsq.out]; rfl)); apply Exists.intro; apply Exists.intro; refine ⟨fun wq => ?_, ?_⟩; (· (go_simp; exact ⟨rfl, rfl⟩)); apply Exists.intro; refine ⟨fun wq hCq hKq => ?_, ?_⟩; (· exact refBoth_any v.sh (hallC b) _); intro K hK; simp only [Grow.put_lit, Grow.setAt]; refine hK _ _ ?_; clear hK K)
    repeat (first | (refine Grow.lex_move rfl ?_ rfl ?_; (· first | exact Grow.wanted_none | (rw [Hopsq.out]; rfl)); intro K hK; simp only [Grow.put_lit, Grow.setAt, Grow.eval_lit, Grow.ev]; refine hK _ _ ?_; clear hK K) | (refine Grow.lex_assign rfl ?_ rfl ?_; (· first | exact Grow.wanted_none | (rw [Hopsq.out]; rfl)); intro K hK; simp only [Grow.put_lit, Grow.setAt, Grow.eval_lit, Grow.ev]; refine hK _ _ ?_; clear hK K) | (refine Grow.lex_plain rfl rfl ?_ rfl ?_; (· first | exact Grow.wanted_none | (rw [Hopsq.out]; rfl)); apply Exists.intro; refine ⟨fun wq hCq _ => ?_, ?_⟩; (· (go_wp2_with fail; refine ⟨rfl, Below.refl _ _, ?_⟩; simp only [Grow.getD_lit, Grow.nth]; rfl)); intro K hK; simp only [Grow.put_lit, Grow.setAt]; refine hK _ _ ?_; clear hK K) | (refine Grow.lex_nilCheck rfl rfl ?_ rfl ?_; (· first | exact Grow.wanted_none | (rw [Hopsq.out]; rfl)); intro K hK; simp only [Grow.put_lit, Grow.setAt]; refine hK _ _ ?_; clear hK K) | (refine Grow.lex_skip ?_ ?_; (· (rw [Hopsq.out]; rfl)); intro K hK; simp only [Grow.put_lit, Grow.setAt]; refine hK _ _ ?_; clear hK K))
    (refine Grow.lex_nil ?_; intro w1 hb1 _; replace hb1 := Grow.Cl.base hb1; clear Hopsq opsq)
    have R2 := HX2.out.next hb1
    have f0 := R2.fr 0; have f1 := R2.fr 1
    have HB2 := Lib.hid R2
    have HBW := Lib.hid (HWW.out.trans (hb1.mono HWW.out.size))
    clear R2 hb1
    have z0 := (HB2.out).cell 0 _ rfl
    have z1 := (HB2.out).cell 1 _ rfl
    go_wp2_with fail
    have R3 := (HB2.out.set 0 (.int .u32 ((both v.sh (hallC b)).1.toNat : Int))).set 1 (.int .u32 ((both v.sh (hallC b)).2.toNat : Int))
    have r0 := (R3).cell 0 _ rfl
    have r1 := (R3).cell 1 _ rfl
    exact bodyPost_ret (v := cv (both v.sh (hallC b))) (by simp [results, Try.results34, go_sem, r0, r1]) rfl ⟨by unfold calledC; rw [if_pos HS.out], (HBW.out.setCell (p := ⟨g2, 0, none⟩) (by show w.heap.size ≤ g2; omega) _).setCell (p := ⟨g2, 1, none⟩) (by show w.heap.size ≤ g2; omega) _⟩
  · have hs' : v.sv = false := by simpa using hs
    have HS := Lib.hid hs'
    rw [hs'] at k1
    clear hs hs'
    have z0 := (HX2.out).cell 0 _ rfl
    have z1 := (HX2.out).cell 1 _ rfl
    go_wp2_with fail
    have R3 := (HX2.out.set 0 (.int .u32 0)).set 1 (.int .u32 0)
    have r0 := (R3).cell 0 _ rfl
    have r1 := (R3).cell 1 _ rfl
    exact bodyPost_ret (v := cv (0#32, 0#32)) (by simp [results, Try.results34, go_sem, r0, r1]) rfl ⟨by unfold calledC; rw [if_neg (by rw [HS.out]; simp)], (HWW.out.setCell (p := ⟨g2, 0, none⟩) (by show w.heap.size ≤ g2; omega) _).setCell (p := ⟨g2, 1, none⟩) (by show w.heap.size ≤ g2; omega) _⟩
end Go.Proofs.Ytpgcpalemnnbaaa
