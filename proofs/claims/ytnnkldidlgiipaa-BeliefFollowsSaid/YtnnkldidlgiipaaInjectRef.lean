/- The walk over overlayref19.Inject. Conditions: cars and duties that can be read; slack times that are no more than the greatest number less one. -/
import Derived.Test.YtnnkldidlgiipaaObserve
import Derived.Test.YtnnkldidlgiipaaHall
import Derived.Test.YtnnkldidlgiipaaCallsList
namespace Go.Proofs.Ytnnkldidlgiipaa
open Go.RowKit
/-- The age of the last duty of a call, or -1. -/
def ageOf (l : List Duty) (f d : Int) : Int := l.foldl (fun a x => if x.1 = f ∧ x.2.1 = d then x.2.2 else a) (-1)
theorem ageOf_snoc (l : List Duty) (f d : Int) (k : Nat) (e : Duty) (h : l[k]? = some e) : ageOf (l.take (k + 1)) f d = if e.1 = f ∧ e.2.1 = d then e.2.2 else ageOf (l.take k) f d := by
  rw [List.take_add_one, h]
  simp [ageOf]
def itemJ (l : List Duty) (c : CS) (p : Int × Int) : List Duty :=
  if 0 ≤ ageOf l p.1 p.2 then [(p.1, p.2, ageOf l p.1 p.2)] else if has c p.1 p.2 then [(p.1, p.2, 0)] else []
def injectL (l : List Duty) (c : CS) (all : List (Int × Int)) : List Duty := all.flatMap (itemJ l c)
theorem injectL_snoc (l : List Duty) (c : CS) (all : List (Int × Int)) (i : Nat) (p : Int × Int) (h : all[i]? = some p) : injectL l c (all.take (i + 1)) = injectL l c (all.take i) ++ itemJ l c p := by
  rw [List.take_add_one, h]
  simp [injectL]
theorem itemJ_len (l : List Duty) (c : CS) (p : Int × Int) : (itemJ l c p).length ≤ 1 := by unfold itemJ; split <;> (try split) <;> simp
theorem injectL_len (l : List Duty) (c : CS) (all : List (Int × Int)) : (injectL l c all).length ≤ all.length := by
  induction all with
  | nil => simp [injectL]
  | cons p t ih =>
    simp only [injectL, List.flatMap_cons, List.length_append, List.length_cons] at *
    have := itemJ_len l c p
    omega
def injectV (b : BldV) (car : Int) (s : BelV) (c : CS) : BelV :=
  if stateB b car s then ⟨s.fl, s.dir, s.door, injectL s.du c (listC (hallC b)), s.still, if 0 < (injectL s.du c (listC (hallC b))).length then false else s.late⟩ else zeroB
theorem ents_at (l : List (Int × Int)) (i : Nat) (p : Int × Int) (h : l[i]? = some p) (j : Nat) (u : Value) (hu : (entC p)[j]? = some u) : (cells l)[i * 5 + j]? = some u := by
  induction l generalizing i with
  | nil => simp at h
  | cons e l ih =>
    have hj : j < 5 := (List.getElem?_eq_some_iff.1 hu).1
    cases i with
    | zero =>
      obtain rfl : e = p := by simpa using h
      simp only [cells, List.flatMap_cons, Nat.zero_mul, Nat.zero_add]
      rw [List.getElem?_append_left (by simp [entC]; omega)]
      exact hu
    | succ i =>
      have := ih i (by simpa using h)
      simp only [cells, List.flatMap_cons] at this ⊢
      rw [List.getElem?_append_right (by simp [entC]; omega)]
      rw [show (i + 1) * 5 + j - (entC e).length = i * 5 + j by simp [entC]; omega]
      exact this
/-- A slice of entries: its cells. -/
def RdE (w : World) (q : Option Addr) (l : List (Int × Int)) : Prop := ∀ (i : Nat) p, l[i]? = some p → ∃ A, q = some A ∧ A.block < w.heap.size ∧ ∀ j u, (entC p)[j]? = some u → w.cell? (A.add (i * 5 + j)) = some u
theorem RdE.next {w w' : World} {q : Option Addr} {l : List (Int × Int)} (h : RdE w q l) (hb : Below w.heap.size w w') : RdE w' q l := by
  intro i p hp
  obtain ⟨A, hq, hA, hc⟩ := h i p hp
  exact ⟨A, hq, Nat.lt_of_lt_of_le hA hb.size, fun j u hu => cell_later hb (hc j u hu)⟩
theorem rdE_of_owns {w : World} {base cap n : Nat} {q : Option Addr} {l : List (Int × Int)} (h : w.ownsRow base 69 5 (.slice q n cap) n (cells l)) (hn : l.length = n) : RdE w q l := by
  intro i p hp
  have hi := (List.getElem?_eq_some_iff.1 hp).1
  rcases h.2 with ⟨hv, hx⟩ | ⟨g', cap', cur, hv, _, hh, _⟩
  · simp at hv; omega
  · simp at hv
    obtain ⟨rfl, rfl⟩ := hv
    refine ⟨⟨g', 0, none⟩, rfl, (Array.getElem?_eq_some_iff.1 hh).1, fun j u hu => ?_⟩
    have hj : j < 5 := (List.getElem?_eq_some_iff.1 hu).1
    rw [Addr.add_lit, Nat.zero_add, h.cellAt _ (by omega)]
    exact ents_at l i p hp j u hu
theorem RdE.reg {w : World} {q : Option Addr} {l : List (Int × Int)} (h : RdE w q l) {i : Nat} {p : Int × Int} (hi : l[i]? = some p) : ∃ A, q = some A ∧ A.block < w.heap.size ∧
    (∀ W, Grow.Cl w.drew W → W.cell? (A.add (i * 5)) = some (.int .i64 p.1)) ∧ (∀ W, Grow.Cl w.drew W → W.cell? ⟨(A.add (i * 5)).block, (A.add (i * 5)).off + 1, none⟩ = some (.int .i64 p.2)) := by
  obtain ⟨A, hq, hA, hc⟩ := h i p hi
  refine ⟨A, hq, hA, fun W hW => cell_later (Grow.Cl.base hW) (hc 0 _ rfl), fun W hW => cell_later (Grow.Cl.base hW) ?_⟩
  rw [← addr_one]; exact hc 1 _ rfl
theorem listC_len (c : CS) : (listC c).length ≤ 64 := listTo_len c 32
set_option maxHeartbeats 4000000 in
set_option maxRecDepth 100000 in
theorem refInject_any (b : BldV) (q : Option Addr) (cap : Nat) (car : Int) (s : BelV) (q' : Option Addr) (cap' : Nat) (c : CS) (w : World) (hlen : b.cars.length ≤ 1000) (hlen' : s.du.length ≤ 1000) (hsl : ∀ c ∈ b.cars, -9223372036854775808 ≤ c.sl ∧ c.sl < 9223372036854775807) (hr : RdC w q b.cars) (hd : RdD w q' s.du) :
    Calls Try.prog 34 #[cvB b q cap, .int .i64 car, cvS s q' cap', cv c] w fun e w' => ∃ v, e = .returned v ∧ Below w.heap.size w w' ∧ belE w.heap.size (injectV b car s c) (errV (stateB b car s)) v w' := by
  obtain ⟨i0, hi, hy0, hy1, hy2⟩ := info_parts infoD
  have Hi := Lib.hid hi; have Hz0 := Lib.hid hy0; have Hz1 := Lib.hid hy1; have Hz2 := Lib.hid hy2
  clear hi hy0 hy1 hy2
  have X0 : Blk (w.alloc (.cells #[.int .i64 b.fl, .int .i64 b.deb, .int .i64 b.room, .int .i64 b.park, .float .f64 b.em, .float .f64 b.fu, .float .f64 b.ov, .slice q b.cars.length cap] 27)) w.heap.size [.int .i64 b.fl, .int .i64 b.deb, .int .i64 b.room, .int .i64 b.park, .float .f64 b.em, .float .f64 b.fu, .float .f64 b.ov, .slice q b.cars.length cap] := by
    have hx := Blk.new w [.int .i64 b.fl, .int .i64 b.deb, .int .i64 b.room, .int .i64 b.park, .float .f64 b.em, .float .f64 b.fu, .float .f64 b.ov, .slice q b.cars.length cap] 27
    exact hx
  replace X0 : Blk ((w.alloc (.cells #[.int .i64 b.fl, .int .i64 b.deb, .int .i64 b.room, .int .i64 b.park, .float .f64 b.em, .float .f64 b.fu, .float .f64 b.ov, .slice q b.cars.length cap] 27)).alloc (.cells #[.int .i64 s.fl, .int .i64 s.dir, .int .i64 s.door, .slice q' s.du.length cap', .int .i64 s.still, .bool s.late] 35)) w.heap.size [.int .i64 b.fl, .int .i64 b.deb, .int .i64 b.room, .int .i64 b.park, .float .f64 b.em, .float .f64 b.fu, .float .f64 b.ov, .slice q b.cars.length cap] := X0.next (below1' _ _)
  replace X0 : Blk (((w.alloc (.cells #[.int .i64 b.fl, .int .i64 b.deb, .int .i64 b.room, .int .i64 b.park, .float .f64 b.em, .float .f64 b.fu, .float .f64 b.ov, .slice q b.cars.length cap] 27)).alloc (.cells #[.int .i64 s.fl, .int .i64 s.dir, .int .i64 s.door, .slice q' s.du.length cap', .int .i64 s.still, .bool s.late] 35)).alloc (.cells #[.int .u32 (c.1.toNat : Int), .int .u32 (c.2.toNat : Int)] 39)) w.heap.size [.int .i64 b.fl, .int .i64 b.deb, .int .i64 b.room, .int .i64 b.park, .float .f64 b.em, .float .f64 b.fu, .float .f64 b.ov, .slice q b.cars.length cap] := X0.next (below1' _ _)
  replace X0 : Blk ((((w.alloc (.cells #[.int .i64 b.fl, .int .i64 b.deb, .int .i64 b.room, .int .i64 b.park, .float .f64 b.em, .float .f64 b.fu, .float .f64 b.ov, .slice q b.cars.length cap] 27)).alloc (.cells #[.int .i64 s.fl, .int .i64 s.dir, .int .i64 s.door, .slice q' s.du.length cap', .int .i64 s.still, .bool s.late] 35)).alloc (.cells #[.int .u32 (c.1.toNat : Int), .int .u32 (c.2.toNat : Int)] 39)).alloc (.cells #[.int .i64 0, .int .i64 0, .int .i64 0, .slice none 0 0, .int .i64 0, .bool false] 35)) w.heap.size [.int .i64 b.fl, .int .i64 b.deb, .int .i64 b.room, .int .i64 b.park, .float .f64 b.em, .float .f64 b.fu, .float .f64 b.ov, .slice q b.cars.length cap] := X0.next (below1' _ _)
  have X1 : Blk ((w.alloc (.cells #[.int .i64 b.fl, .int .i64 b.deb, .int .i64 b.room, .int .i64 b.park, .float .f64 b.em, .float .f64 b.fu, .float .f64 b.ov, .slice q b.cars.length cap] 27)).alloc (.cells #[.int .i64 s.fl, .int .i64 s.dir, .int .i64 s.door, .slice q' s.du.length cap', .int .i64 s.still, .bool s.late] 35)) (w.heap.size + 1) [.int .i64 s.fl, .int .i64 s.dir, .int .i64 s.door, .slice q' s.du.length cap', .int .i64 s.still, .bool s.late] := by
    have hx := Blk.new (w.alloc (.cells #[.int .i64 b.fl, .int .i64 b.deb, .int .i64 b.room, .int .i64 b.park, .float .f64 b.em, .float .f64 b.fu, .float .f64 b.ov, .slice q b.cars.length cap] 27)) [.int .i64 s.fl, .int .i64 s.dir, .int .i64 s.door, .slice q' s.du.length cap', .int .i64 s.still, .bool s.late] 35
    rw [World.size_alloc] at hx
    exact hx
  replace X1 : Blk (((w.alloc (.cells #[.int .i64 b.fl, .int .i64 b.deb, .int .i64 b.room, .int .i64 b.park, .float .f64 b.em, .float .f64 b.fu, .float .f64 b.ov, .slice q b.cars.length cap] 27)).alloc (.cells #[.int .i64 s.fl, .int .i64 s.dir, .int .i64 s.door, .slice q' s.du.length cap', .int .i64 s.still, .bool s.late] 35)).alloc (.cells #[.int .u32 (c.1.toNat : Int), .int .u32 (c.2.toNat : Int)] 39)) (w.heap.size + 1) [.int .i64 s.fl, .int .i64 s.dir, .int .i64 s.door, .slice q' s.du.length cap', .int .i64 s.still, .bool s.late] := X1.next (below1' _ _)
  replace X1 : Blk ((((w.alloc (.cells #[.int .i64 b.fl, .int .i64 b.deb, .int .i64 b.room, .int .i64 b.park, .float .f64 b.em, .float .f64 b.fu, .float .f64 b.ov, .slice q b.cars.length cap] 27)).alloc (.cells #[.int .i64 s.fl, .int .i64 s.dir, .int .i64 s.door, .slice q' s.du.length cap', .int .i64 s.still, .bool s.late] 35)).alloc (.cells #[.int .u32 (c.1.toNat : Int), .int .u32 (c.2.toNat : Int)] 39)).alloc (.cells #[.int .i64 0, .int .i64 0, .int .i64 0, .slice none 0 0, .int .i64 0, .bool false] 35)) (w.heap.size + 1) [.int .i64 s.fl, .int .i64 s.dir, .int .i64 s.door, .slice q' s.du.length cap', .int .i64 s.still, .bool s.late] := X1.next (below1' _ _)
  have X2 : Blk (((w.alloc (.cells #[.int .i64 b.fl, .int .i64 b.deb, .int .i64 b.room, .int .i64 b.park, .float .f64 b.em, .float .f64 b.fu, .float .f64 b.ov, .slice q b.cars.length cap] 27)).alloc (.cells #[.int .i64 s.fl, .int .i64 s.dir, .int .i64 s.door, .slice q' s.du.length cap', .int .i64 s.still, .bool s.late] 35)).alloc (.cells #[.int .u32 (c.1.toNat : Int), .int .u32 (c.2.toNat : Int)] 39)) (w.heap.size + 1 + 1) [.int .u32 (c.1.toNat : Int), .int .u32 (c.2.toNat : Int)] := by
    have hx := Blk.new ((w.alloc (.cells #[.int .i64 b.fl, .int .i64 b.deb, .int .i64 b.room, .int .i64 b.park, .float .f64 b.em, .float .f64 b.fu, .float .f64 b.ov, .slice q b.cars.length cap] 27)).alloc (.cells #[.int .i64 s.fl, .int .i64 s.dir, .int .i64 s.door, .slice q' s.du.length cap', .int .i64 s.still, .bool s.late] 35)) [.int .u32 (c.1.toNat : Int), .int .u32 (c.2.toNat : Int)] 39
    rw [World.size_alloc, World.size_alloc] at hx
    exact hx
  replace X2 : Blk ((((w.alloc (.cells #[.int .i64 b.fl, .int .i64 b.deb, .int .i64 b.room, .int .i64 b.park, .float .f64 b.em, .float .f64 b.fu, .float .f64 b.ov, .slice q b.cars.length cap] 27)).alloc (.cells #[.int .i64 s.fl, .int .i64 s.dir, .int .i64 s.door, .slice q' s.du.length cap', .int .i64 s.still, .bool s.late] 35)).alloc (.cells #[.int .u32 (c.1.toNat : Int), .int .u32 (c.2.toNat : Int)] 39)).alloc (.cells #[.int .i64 0, .int .i64 0, .int .i64 0, .slice none 0 0, .int .i64 0, .bool false] 35)) (w.heap.size + 1 + 1) [.int .u32 (c.1.toNat : Int), .int .u32 (c.2.toNat : Int)] := X2.next (below1' _ _)
  have X3 : Blk ((((w.alloc (.cells #[.int .i64 b.fl, .int .i64 b.deb, .int .i64 b.room, .int .i64 b.park, .float .f64 b.em, .float .f64 b.fu, .float .f64 b.ov, .slice q b.cars.length cap] 27)).alloc (.cells #[.int .i64 s.fl, .int .i64 s.dir, .int .i64 s.door, .slice q' s.du.length cap', .int .i64 s.still, .bool s.late] 35)).alloc (.cells #[.int .u32 (c.1.toNat : Int), .int .u32 (c.2.toNat : Int)] 39)).alloc (.cells #[.int .i64 0, .int .i64 0, .int .i64 0, .slice none 0 0, .int .i64 0, .bool false] 35)) (w.heap.size + 1 + 1 + 1) [.int .i64 0, .int .i64 0, .int .i64 0, .slice none 0 0, .int .i64 0, .bool false] := by
    have hx := Blk.new (((w.alloc (.cells #[.int .i64 b.fl, .int .i64 b.deb, .int .i64 b.room, .int .i64 b.park, .float .f64 b.em, .float .f64 b.fu, .float .f64 b.ov, .slice q b.cars.length cap] 27)).alloc (.cells #[.int .i64 s.fl, .int .i64 s.dir, .int .i64 s.door, .slice q' s.du.length cap', .int .i64 s.still, .bool s.late] 35)).alloc (.cells #[.int .u32 (c.1.toNat : Int), .int .u32 (c.2.toNat : Int)] 39)) [.int .i64 0, .int .i64 0, .int .i64 0, .slice none 0 0, .int .i64 0, .bool false] 35
    rw [World.size_alloc, World.size_alloc, World.size_alloc] at hx
    exact hx
  have XW : Below w.heap.size w (w.alloc (.cells #[.int .i64 b.fl, .int .i64 b.deb, .int .i64 b.room, .int .i64 b.park, .float .f64 b.em, .float .f64 b.fu, .float .f64 b.ov, .slice q b.cars.length cap] 27)) := below1' w _
  replace XW : Below w.heap.size w ((w.alloc (.cells #[.int .i64 b.fl, .int .i64 b.deb, .int .i64 b.room, .int .i64 b.park, .float .f64 b.em, .float .f64 b.fu, .float .f64 b.ov, .slice q b.cars.length cap] 27)).alloc (.cells #[.int .i64 s.fl, .int .i64 s.dir, .int .i64 s.door, .slice q' s.du.length cap', .int .i64 s.still, .bool s.late] 35)) := XW.trans ((below1' _ _).mono XW.size)
  replace XW : Below w.heap.size w (((w.alloc (.cells #[.int .i64 b.fl, .int .i64 b.deb, .int .i64 b.room, .int .i64 b.park, .float .f64 b.em, .float .f64 b.fu, .float .f64 b.ov, .slice q b.cars.length cap] 27)).alloc (.cells #[.int .i64 s.fl, .int .i64 s.dir, .int .i64 s.door, .slice q' s.du.length cap', .int .i64 s.still, .bool s.late] 35)).alloc (.cells #[.int .u32 (c.1.toNat : Int), .int .u32 (c.2.toNat : Int)] 39)) := XW.trans ((below1' _ _).mono XW.size)
  replace XW : Below w.heap.size w ((((w.alloc (.cells #[.int .i64 b.fl, .int .i64 b.deb, .int .i64 b.room, .int .i64 b.park, .float .f64 b.em, .float .f64 b.fu, .float .f64 b.ov, .slice q b.cars.length cap] 27)).alloc (.cells #[.int .i64 s.fl, .int .i64 s.dir, .int .i64 s.door, .slice q' s.du.length cap', .int .i64 s.still, .bool s.late] 35)).alloc (.cells #[.int .u32 (c.1.toNat : Int), .int .u32 (c.2.toNat : Int)] 39)).alloc (.cells #[.int .i64 0, .int .i64 0, .int .i64 0, .slice none 0 0, .int .i64 0, .bool false] 35)) := XW.trans ((below1' _ _).mono XW.size)
  have HWW := Lib.hid XW; have HX0 := Lib.hid X0; have HX1 := Lib.hid X1; have HX2 := Lib.hid X2; have HX3 := Lib.hid X3
  clear XW X0 X1 X2 X3
  have HR := Lib.hid (hr.next HWW.out); have HD := Lib.hid (hd.next HWW.out); have HSL := Lib.hid hsl
  have HL1 := Lib.hid hlen; have HL2 := Lib.hid hlen'
  clear hr hd hsl hlen
  obtain ⟨n, hn⟩ : ∃ n, n = s.du.length := ⟨_, rfl⟩
  have HN := Lib.hid hn
  rw [← hn] at hlen'
  clear hn
  go_enter Try.func34, Try.ntmps34
  go_upto_region 1 with fail
  generalize ((((w.alloc (.cells #[.int .i64 b.fl, .int .i64 b.deb, .int .i64 b.room, .int .i64 b.park, .float .f64 b.em, .float .f64 b.fu, .float .f64 b.ov, .slice q b.cars.length cap] 27)).alloc (.cells #[.int .i64 s.fl, .int .i64 s.dir, .int .i64 s.door, .slice q' s.du.length cap', .int .i64 s.still, .bool s.late] 35)).alloc (.cells #[.int .u32 (c.1.toNat : Int), .int .u32 (c.2.toNat : Int)] 39)).alloc (.cells #[.int .i64 0, .int .i64 0, .int .i64 0, .slice none 0 0, .int .i64 0, .bool false] 35)) = w0 at *
  generalize hg3 : w.heap.size + 1 + 1 + 1 = g3 at *
  generalize hg2 : w.heap.size + 1 + 1 = g2 at *
  generalize hg1 : w.heap.size + 1 = g1 at *
  have HG1 := Lib.hid hg1; have hq1 : w.heap.size + 1 ≤ g1 := by omega
  have HG2 := Lib.hid hg2; have hq2 : w.heap.size + 2 ≤ g2 := by omega
  have HG3 := Lib.hid hg3; have hq3 : w.heap.size + 3 ≤ g3 := by omega
  clear hg1 hg2 hg3
  have HW := Lib.hid (Below.refl w0.heap.size w0)
  have hz0 := HX0.out.lt; have hz1 := HX1.out.lt; have hz2 := HX2.out.lt; have hz3 := HX3.out.lt
  have hg13 : g3 ≠ g1 := by have := HG2.out; have := HG3.out; omega
  have hG3 : w.heap.size ≤ g3 := by omega
  have hG1 : w.heap.size ≤ g1 := by omega
  have k0 := (HX0.out).cell 0 _ rfl
  have k1 := (HX0.out).cell 1 _ rfl
  have k2 := (HX0.out).cell 2 _ rfl
  have k3 := (HX0.out).cell 3 _ rfl
  have k4 := (HX0.out).cell 4 _ rfl
  have k5 := (HX0.out).cell 5 _ rfl
  have k6 := (HX0.out).cell 6 _ rfl
  have k7 := (HX0.out).cell 7 _ rfl
  have j0 := (HX1.out).cell 0 _ rfl
  have j1 := (HX1.out).cell 1 _ rfl
  have j2 := (HX1.out).cell 2 _ rfl
  have j3 := (HX1.out).cell 3 _ rfl
  have j4 := (HX1.out).cell 4 _ rfl
  have j5 := (HX1.out).cell 5 _ rfl
  have m0 := (HX2.out).cell 0 _ rfl
  have m1 := (HX2.out).cell 1 _ rfl
  have c0 := base_cell HW.out
  go_wp2_with fail
  refine (refIsState_any b q cap car s q' cap' _ HL1.out HL2.out HSL.out HR.out HD.out).mono ?_
  rintro e w1 ⟨rfl, hbn⟩
  have HWn := Lib.hid (HW.out.trans (hbn.mono HW.out.size))
  try clear c0
  clear HW hbn
  have HW := HWn
  clear HWn
  have c0 := base_cell HW.out
  cases e1 : stateB b car s
  · have E1 := Lib.hid e1
    clear e1
    have z0 := (HX3.out).cell 0 _ rfl
    have z1 := (HX3.out).cell 1 _ rfl
    have z2 := (HX3.out).cell 2 _ rfl
    have z3 := (HX3.out).cell 3 _ rfl
    have z4 := (HX3.out).cell 4 _ rfl
    have z5 := (HX3.out).cell 5 _ rfl
    have R1 := HX3.out.later HW.out hz3
    have f0 := R1.fr 0; have f1 := R1.fr 1; have f2 := R1.fr 2; have f3 := R1.fr 3; have f4 := R1.fr 4; have f5 := R1.fr 5
    clear R1
    go_wp2_with fail
    have R8 := (((((((HX3.out.later HW.out hz3).set 0 (.int .i64 0)).set 1 (.int .i64 0)).set 2 (.int .i64 0)).set 3 (.slice none 0 0)).set 4 (.int .i64 0)).set 5 (.bool false))
    have r0 := (R8).cell 0 _ rfl
    have r1 := (R8).cell 1 _ rfl
    have r2 := (R8).cell 2 _ rfl
    have r3 := (R8).cell 3 _ rfl
    have r4 := (R8).cell 4 _ rfl
    have r5 := (R8).cell 5 _ rfl
    exact bodyPost_ret (v := .tuple #[cvS zeroB none 0, .int .i64 1]) (by simp [results, Try.results34, go_sem, zeroB, r0, r1, r2, r3, r4, r5]) rfl ⟨_, rfl, ((((((HWW.out.trans (HW.out.mono HWW.out.size)).setCell (p := ⟨g3, 0, none⟩) hG3 _).setCell (p := ⟨g3, 1, none⟩) hG3 _).setCell (p := ⟨g3, 2, none⟩) hG3 _).setCell (p := ⟨g3, 3, none⟩) hG3 _).setCell (p := ⟨g3, 4, none⟩) hG3 _).setCell (p := ⟨g3, 5, none⟩) hG3 _, ⟨none, 0, by unfold injectV errV; rw [E1.out]; rfl, by unfold injectV; rw [E1.out]; exact fun i d h => by simp [zeroB] at h, fun A h => by cases h⟩⟩
  · have HST := Lib.hid e1
    clear e1
    go_wp2_with fail
    refine (refHall_any b q cap _ HL1.out HSL.out (HR.out.next HW.out)).mono ?_
    rintro e w2 ⟨rfl, hbn⟩
    have HWn := Lib.hid (HW.out.trans (hbn.mono HW.out.size))
    try clear c0
    clear HW hbn
    have HW := HWn
    clear HWn
    have c0 := base_cell HW.out
    go_wp2_with fail
    refine (refList_any (hallC b) _).mono ?_
    rintro e w3 ⟨v, rfl, hown, hb3⟩
    obtain ⟨qe, cape, rfl⟩ := row_form hown
    have HE := Lib.hid (rdE_of_owns hown rfl)
    have HWn := Lib.hid (HW.out.trans (hb3.mono HW.out.size))
    clear HW hb3 c0 hown
    have HW := HWn
    clear HWn
    have c0 := base_cell HW.out
    have hne64 := listC_len (hallC b)
    have HVV : Hid (injectV b car s c = ⟨s.fl, s.dir, s.door, injectL s.du c (listC (hallC b)), s.still, if 0 < (injectL s.du c (listC (hallC b))).length then false else s.late⟩) := Lib.hid (by unfold injectV; rw [HST.out, if_pos rfl])
    generalize hall : listC (hallC b) = all at *
    clear hall
    obtain ⟨ne, hne⟩ : ∃ ne, ne = all.length := ⟨_, rfl⟩
    have HNE := Lib.hid hne
    rw [← hne] at hne64 ⊢
    clear hne
    have HE0 := HE
    clear HE
    have hG0 : w0.heap.size ≤ w3.heap.size := HW.out.size
    clear k0 k1 k2 k3 k4 k5 k6 k7 j0 j1 j2 j3 j4 j5 m0 m1
    go_wp2_with fail
    go_loopw [11, 12] (fun v11 v12 wr => ∃ i : Nat, i ≤ ne ∧ v12 = .int .i64 i ∧ wr.ownsRow w3.heap.size 71 3 v11 (injectL s.du c (all.take i)).length (dutyCells (injectL s.du c (all.take i))) ∧ Below w3.heap.size w3 wr) (fun _ v _ => ne - (intOf v).toNat)
    case atStart => exact ⟨0, by omega, rfl, World.ownsRow_nil _ _ _ _, Below.refl _ _⟩
    case round =>
      obtain ⟨i, hi', rfl, hown, hb⟩ := hrel
      have HB := Lib.hid hb
      have HO := Lib.hid hown
      have HWn := Lib.hid (HW.out.trans (hb.mono hG0))
      clear HW c0 hb hown
      by_cases hlt : i < ne
      · have hd : decide ((i : Int) < (ne : Int)) = true := by simp; omega
        obtain ⟨p, hp⟩ : ∃ p, all[i]? = some p := ⟨_, List.getElem?_eq_getElem (by rw [← HNE.out]; exact hlt)⟩
        have hal : (injectL s.du c (all.take i)).length ≤ 64 := by
          have h1 := injectL_len s.du c (all.take i)
          have h2 : (all.take i).length ≤ i := List.length_take_le _ _
          omega
        have HT := Lib.hid (injectL_snoc s.du c all i p hp)
        obtain ⟨A, hq, hA, r0, r1⟩ := (HE0.out.next HB.out).reg hp
        subst hq
        generalize hla : injectL s.du c (all.take i) = la at *
        clear hla hp
        have hiw : (0 : Int) ≤ (i : Int) := by omega
        have hiw' : (i : Int) < (ne : Int) := by omega
        go_upto_region 8 with fail
        (refine Grow.wp_region Grow.noPlan Grow.noPlan_stable (by kernel_rfl) (by kernel_rfl) ?_; intro opsq Hopsq)
        repeat (first | (refine Grow.lex_move rfl ?_ rfl ?_; (· first | exact Grow.wanted_none | (rw [Hopsq.out]; rfl)); intro K hK; simp only [Grow.put_lit, Grow.setAt, Grow.eval_lit, Grow.ev]; refine hK _ _ ?_; clear hK K) | (refine Grow.lex_assign rfl ?_ rfl ?_; (· first | exact Grow.wanted_none | (rw [Hopsq.out]; rfl)); intro K hK; simp only [Grow.put_lit, Grow.setAt, Grow.eval_lit, Grow.ev]; refine hK _ _ ?_; clear hK K) | (refine Grow.lex_plain rfl rfl ?_ rfl ?_; (· first | exact Grow.wanted_none | (rw [Hopsq.out]; rfl)); apply Exists.intro; refine ⟨fun wq hCq _ => ?_, ?_⟩; (· (go_wp2_with fail; refine ⟨rfl, Below.refl _ _, ?_⟩; simp only [Grow.getD_lit, Grow.nth]; rfl)); intro K hK; simp only [Grow.put_lit, Grow.setAt]; refine hK _ _ ?_; clear hK K) | (refine Grow.lex_nilCheck rfl rfl ?_ rfl ?_; (· first | exact Grow.wanted_none | (rw [Hopsq.out]; rfl)); intro K hK; simp only [Grow.put_lit, Grow.setAt]; refine hK _ _ ?_; clear hK K) | (refine Grow.lex_skip ?_ ?_; (· (rw [Hopsq.out]; rfl)); intro K hK; simp only [Grow.put_lit, Grow.setAt]; refine hK _ _ ?_; clear hK K))
        (refine Grow.lex_nil ?_; intro w4 hb4 _; replace hb4 := Grow.Cl.base hb4; clear Hopsq opsq)
        have HW := Lib.hid (HWn.out.trans (hb4.mono HWn.out.size))
        have HB4 := Lib.hid (HB.out.trans (hb4.mono HB.out.size))
        have HO4 := Lib.hid (rowLater HO.out hb4)
        clear hb4 HWn HB HO r0 r1 hA hd
        have c0 := base_cell HW.out
        have j3 := HX1.out.cell 3 _ rfl
        rw [← HN.out] at j3
        go_wp2_with fail
        go_loopw [15, 16] (fun v15 v16 wx => ∃ k : Nat, k ≤ n ∧ v16 = .int .i64 k ∧ v15 = .int .i64 (ageOf (s.du.take k) p.1 p.2) ∧ wx = w4) (fun _ v _ => n - (intOf v).toNat)
        case atStart => exact ⟨0, by omega, rfl, rfl, rfl⟩
        case round =>
          obtain ⟨k, hk, rfl, rfl, rfl⟩ := hrel
          by_cases hlk : k < n
          · have hd : decide ((k : Int) < (n : Int)) = true := by simp; omega
            obtain ⟨d, hdu⟩ : ∃ d, s.du[k]? = some d := ⟨_, List.getElem?_eq_getElem (by rw [← HN.out]; exact hlk)⟩
            obtain ⟨A', hq, hA, d0, d1, d2⟩ := (HD.out.next HW.out).at hdu
            subst hq
            have HS := Lib.hid (ageOf_snoc s.du p.1 p.2 k d hdu)
            clear hdu
            have hkw : (0 : Int) ≤ (k : Int) := by omega
            have hkw' : (k : Int) < (n : Int) := by omega
            cases q1 : (d.1 == p.1)
            · have HQ : Hid (¬ (d.1 = p.1 ∧ d.2.1 = p.2)) := Lib.hid fun h => absurd h.1 (by simpa using q1)
              go_wp2_with fail
              exact ⟨⟨k + 1, by omega, by go_num, by rw [HS.out, if_neg HQ.out], by trivial⟩, by simp [intOf]; omega⟩
            · cases q2 : (d.2.1 == p.2)
              · have HQ : Hid (¬ (d.1 = p.1 ∧ d.2.1 = p.2)) := Lib.hid fun h => absurd h.2 (by simpa using q2)
                go_wp2_with fail
                exact ⟨⟨k + 1, by omega, by go_num, by rw [HS.out, if_neg HQ.out], by trivial⟩, by simp [intOf]; omega⟩
              · have HQ : Hid (d.1 = p.1 ∧ d.2.1 = p.2) := Lib.hid ⟨by simpa using q1, by simpa using q2⟩
                go_wp2_with fail
                exact ⟨⟨k + 1, by omega, by go_num, by rw [HS.out, if_pos HQ.out], by trivial⟩, by simp [intOf]; omega⟩
          · obtain rfl : k = n := by omega
            have hd : decide ((k : Int) < (k : Int)) = false := by simp
            have ht : s.du.take k = s.du := by rw [HN.out, List.take_length]
            rw [ht]
            clear ht
            have HIJ : Hid (itemJ s.du c p = if 0 ≤ ageOf s.du p.1 p.2 then [(p.1, p.2, ageOf s.du p.1 p.2)] else if has c p.1 p.2 then [(p.1, p.2, 0)] else []) := Lib.hid rfl
            generalize ageOf s.du p.1 p.2 = a at *
            have m0 := (HX2.out).cell 0 _ rfl
            have m1 := (HX2.out).cell 1 _ rfl
            by_cases ha : a < 0
            · go_wp2_with fail
              refine (refHas_any c p.1 p.2 _).mono ?_
              rintro e w8 ⟨rfl, hb8⟩
              have HO8 := Lib.hid (rowLater HO4.out hb8)
              have HB8 := Lib.hid (HB4.out.trans (hb8.mono HB4.out.size))
              clear HO4 HB4 hb8 c0 HW j3
              have hsz : w3.heap.size ≤ w8.heap.size := HB8.out.size
              cases hh : has c p.1 p.2
              · have HIT : Hid (itemJ s.du c p = []) := Lib.hid (by rw [HIJ.out, if_neg (by omega), if_neg (by rw [hh]; simp)])
                clear hh
                go_wp2_with fail
                exact ⟨⟨i + 1, by omega, by go_num, by rw [HT.out, HIT.out, List.append_nil]; exact HO8.out, HB8.out⟩, by simp [intOf]; omega⟩
              · have HIT : Hid (itemJ s.du c p = [(p.1, p.2, 0)]) := Lib.hid (by rw [HIJ.out, if_neg (by omega), if_pos (by rw [hh])])
                clear hh
                go_wp2_with ((at_builtin; refine wpList_append_own _ rfl _ _ 33 rfl w3.heap.size 71 i0 (.agg #[.int .i64 0, .int .i64 0, .int .i64 0]) 3 24 Try.underlying33 Hi.out Hz0.out Hz1.out Hz2.out rfl (by decide) _ _ _ rfl (HO8.out.alloc _) ⟨w8.heap.size, 0, none⟩ 1 1 (Duty.cells (p.1, p.2, 0)) rfl rfl (duty_new _ (p.1, p.2, 0) _) (duty_one _) (by unfold maxLen; omega) (by omega) (by simp; omega) ?_))
                intro v' w9 hown2 hg _
                have hb3 : Below w3.heap.size w3 w9 := (HB8.out.alloc hsz _).grown hg (by simp; omega) (fun q hq => (HO8.out.lt q hq).1)
                have hown3 : w9.ownsRow w3.heap.size 71 3 v' (la ++ [(p.1, p.2, 0)]).length (dutyCells (la ++ [(p.1, p.2, 0)])) := by
                  rw [dutyCells_snoc, List.length_append]; exact hown2
                clear hown2 hg
                go_wp2_with fail
                exact ⟨⟨i + 1, by omega, by go_num, by rw [HT.out, HIT.out]; exact hown3, hb3⟩, by simp [intOf]; omega⟩
            · have HIT : Hid (itemJ s.du c p = [(p.1, p.2, a)]) := Lib.hid (by rw [HIJ.out, if_pos (by omega)])
              have hsz : w3.heap.size ≤ wr.heap.size := HB4.out.size
              have ha' : 0 ≤ a := by omega
              go_wp2_with ((at_builtin; refine wpList_append_own _ rfl _ _ 33 rfl w3.heap.size 71 i0 (.agg #[.int .i64 0, .int .i64 0, .int .i64 0]) 3 24 Try.underlying33 Hi.out Hz0.out Hz1.out Hz2.out rfl (by decide) _ _ _ rfl (HO4.out.alloc _) ⟨wr.heap.size, 0, none⟩ 1 1 (Duty.cells (p.1, p.2, a)) rfl rfl (duty_new _ (p.1, p.2, a) _) (duty_one _) (by unfold maxLen; omega) (by omega) (by simp; omega) ?_))
              intro v' w9 hown2 hg _
              have hb3 : Below w3.heap.size w3 w9 := (HB4.out.alloc hsz _).grown hg (by simp; omega) (fun q hq => (HO4.out.lt q hq).1)
              have hown3 : w9.ownsRow w3.heap.size 71 3 v' (la ++ [(p.1, p.2, a)]).length (dutyCells (la ++ [(p.1, p.2, a)])) := by
                rw [dutyCells_snoc, List.length_append]; exact hown2
              clear hown2 hg
              go_wp2_with fail
              exact ⟨⟨i + 1, by omega, by go_num, by rw [HT.out, HIT.out]; exact hown3, hb3⟩, by simp [intOf]; omega⟩
      · obtain rfl : i = ne := by omega
        have hd : decide ((i : Int) < (i : Int)) = false := by simp
        have ht : all.take i = all := by rw [HNE.out, List.take_length]
        rw [ht] at HO
        clear ht
        obtain ⟨q9, cap9, rfl⟩ := row_form HO.out
        generalize hla : injectL s.du c all = la at *
        clear hla
        have c0 := base_cell HWn.out
        have j0 := (HX1.out).cell 0 _ rfl
        have j1 := (HX1.out).cell 1 _ rfl
        have j2 := (HX1.out).cell 2 _ rfl
        have j3 := (HX1.out).cell 3 _ rfl
        have j4 := (HX1.out).cell 4 _ rfl
        have j5 := (HX1.out).cell 5 _ rfl
        have z0 := (HX3.out).cell 0 _ rfl
        have z1 := (HX3.out).cell 1 _ rfl
        have z2 := (HX3.out).cell 2 _ rfl
        have z3 := (HX3.out).cell 3 _ rfl
        have z4 := (HX3.out).cell 4 _ rfl
        have z5 := (HX3.out).cell 5 _ rfl
        have S1 := HX1.out.later HWn.out hz1
        have R1 := HX3.out.later HWn.out hz3
        have e3 := S1.fr 3; have e5 := S1.fr 5
        have f0 := R1.fr 0; have f1 := R1.fr 1; have f2 := R1.fr 2; have f3 := R1.fr 3; have f4 := R1.fr 4; have f5 := R1.fr 5
        clear S1 R1
        have ne1 := row_ne HO.out (Nat.lt_of_lt_of_le hz1 hG0); have ne3 := row_ne HO.out (Nat.lt_of_lt_of_le hz3 hG0)
        by_cases h0 : 0 < la.length
        · have hd2 : decide ((0 : Int) < (la.length : Int)) = true := decide_eq_true (by omega)
          go_wp2_with fail
          have R8 := (((((((((HX3.out.later HWn.out hz3).other (i := 3) hg13 (.slice q9 la.length cap9)).other (i := 5) hg13 (.bool false)).set 0 (.int .i64 s.fl)).set 1 (.int .i64 s.dir)).set 2 (.int .i64 s.door)).set 3 (.slice q9 la.length cap9)).set 4 (.int .i64 s.still)).set 5 (.bool false))
          have r0 := (R8).cell 0 _ rfl
          have r1 := (R8).cell 1 _ rfl
          have r2 := (R8).cell 2 _ rfl
          have r3 := (R8).cell 3 _ rfl
          have r4 := (R8).cell 4 _ rfl
          have r5 := (R8).cell 5 _ rfl
          have HVE : Hid (injectV b car s c = ⟨s.fl, s.dir, s.door, la, s.still, false⟩) := Lib.hid (by rw [HVV.out, if_pos h0])
          exact bodyPost_ret (v := .tuple #[cvS ⟨s.fl, s.dir, s.door, la, s.still, false⟩ q9 cap9, .int .i64 0]) (by simp [results, Try.results34, go_sem, r0, r1, r2, r3, r4, r5]) rfl ⟨_, rfl, (((((((((HWW.out.trans (HWn.out.mono HWW.out.size)).setCell (p := ⟨g1, 3, none⟩) hG1 (.slice q9 la.length cap9)).setCell (p := ⟨g1, 5, none⟩) hG1 (.bool false)).setCell (p := ⟨g3, 0, none⟩) hG3 (.int .i64 s.fl)).setCell (p := ⟨g3, 1, none⟩) hG3 (.int .i64 s.dir)).setCell (p := ⟨g3, 2, none⟩) hG3 (.int .i64 s.door)).setCell (p := ⟨g3, 3, none⟩) hG3 (.slice q9 la.length cap9)).setCell (p := ⟨g3, 4, none⟩) hG3 (.int .i64 s.still)).setCell (p := ⟨g3, 5, none⟩) hG3 (.bool false)), ⟨q9, cap9, by rw [HVE.out, HST.out]; rfl, by rw [HVE.out]; exact rdD_of_owns (row_set (row_set (row_set (row_set (row_set (row_set (row_set (row_set HO.out ne1) ne1) ne3) ne3) ne3) ne3) ne3) ne3) rfl, fun A hA => Nat.le_trans (Nat.le_trans HWW.out.size hG0) (row_lo HO.out A hA)⟩⟩
        · have hd2 : decide ((0 : Int) < (la.length : Int)) = false := decide_eq_false (by omega)
          go_wp2_with fail
          have R8 := ((((((((HX3.out.later HWn.out hz3).other (i := 3) hg13 (.slice q9 la.length cap9)).set 0 (.int .i64 s.fl)).set 1 (.int .i64 s.dir)).set 2 (.int .i64 s.door)).set 3 (.slice q9 la.length cap9)).set 4 (.int .i64 s.still)).set 5 (.bool s.late))
          have r0 := (R8).cell 0 _ rfl
          have r1 := (R8).cell 1 _ rfl
          have r2 := (R8).cell 2 _ rfl
          have r3 := (R8).cell 3 _ rfl
          have r4 := (R8).cell 4 _ rfl
          have r5 := (R8).cell 5 _ rfl
          have HVE : Hid (injectV b car s c = ⟨s.fl, s.dir, s.door, la, s.still, s.late⟩) := Lib.hid (by rw [HVV.out, if_neg h0])
          exact bodyPost_ret (v := .tuple #[cvS ⟨s.fl, s.dir, s.door, la, s.still, s.late⟩ q9 cap9, .int .i64 0]) (by simp [results, Try.results34, go_sem, r0, r1, r2, r3, r4, r5]) rfl ⟨_, rfl, ((((((((HWW.out.trans (HWn.out.mono HWW.out.size)).setCell (p := ⟨g1, 3, none⟩) hG1 (.slice q9 la.length cap9)).setCell (p := ⟨g3, 0, none⟩) hG3 (.int .i64 s.fl)).setCell (p := ⟨g3, 1, none⟩) hG3 (.int .i64 s.dir)).setCell (p := ⟨g3, 2, none⟩) hG3 (.int .i64 s.door)).setCell (p := ⟨g3, 3, none⟩) hG3 (.slice q9 la.length cap9)).setCell (p := ⟨g3, 4, none⟩) hG3 (.int .i64 s.still)).setCell (p := ⟨g3, 5, none⟩) hG3 (.bool s.late)), ⟨q9, cap9, by rw [HVE.out, HST.out]; rfl, by rw [HVE.out]; exact rdD_of_owns (row_set (row_set (row_set (row_set (row_set (row_set (row_set HO.out ne1) ne3) ne3) ne3) ne3) ne3) ne3) rfl, fun A hA => Nat.le_trans (Nat.le_trans HWW.out.size hG0) (row_lo HO.out A hA)⟩⟩
end Go.Proofs.Ytnnkldidlgiipaa
