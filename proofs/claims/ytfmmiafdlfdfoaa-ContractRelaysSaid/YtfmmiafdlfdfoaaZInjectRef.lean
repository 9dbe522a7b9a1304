/- The walk over overlayref19.Observe. Conditions: cars and duties that can be read; slack times that are no more than the greatest number less one. · The walk over overlayref01.Hall. Conditions: cars that can be read; slack times that are no more than the greatest number less one. · The walk over overlayref19.Inject. Conditions: cars and duties that can be read; slack times that are no more than the greatest number less one. -/
import Derived.Test.YtfmmiafdlfdfoaaZAgedC
import Derived.Test.YtfmmiafdlfdfoaaZIndic
import Derived.RegionTactic
import Derived.Test.YtfmmiafdlfdfoaaZValid18
import Derived.Test.YtfmmiafdlfdfoaaZCallsList
namespace Go.Proofs.Ytfmmiafdlfdfoaa
open Go.RowKit
def stillV (s : BelV) (o : ObsV) : Int := if 0 ≤ o.1 ∧ o.2.2 = 2 ∧ o.2.1 = 0 then min (s.still + 1) 1000000 else 0
def zeroB : BelV := ⟨0, 0, 0, [], 0, false⟩
def obsOk (b : BldV) (car : Int) (s : BelV) (o : ObsV) : Bool := stateB b car s && obsB b.fl o
def observeV (b : BldV) (car : Int) (s : BelV) (o : ObsV) : BelV :=
  if obsOk b car s o then ⟨if 0 ≤ o.1 then o.1 else s.fl, o.2.1, o.2.2, (agedV b car s (showsV b.fl o)).du, stillV s o, (agedV b car s (showsV b.fl o)).late⟩ else zeroB
def errV (ok : Bool) : Int := if ok then 0 else 1
/-- A belief and an error. -/
def belE (lo : Nat) (V : BelV) (e : Int) (v : Value) (w : World) : Prop := ∃ q cap, v = .tuple #[cvS V q cap, .int .i64 e] ∧ RdD w q V.du ∧ ∀ A, q = some A → lo ≤ A.block
structure Keep (w : World) (g2 g3 : Nat) (q9 : Option Addr) (o : ObsV) (V : BelV) (wx : World) : Prop where
  res : Blk wx g3 [.int .i64 0, .int .i64 0, .int .i64 0, .slice none 0 0, .int .i64 0, .bool false]
  obs : Blk wx g2 [.int .i64 o.1, .int .i64 o.2.1, .int .i64 o.2.2]
  rd : RdD wx q9 V.du
  bel : Below w.heap.size w wx
theorem Keep.set {w wx : World} {g1 g2 g3 : Nat} {q9 : Option Addr} {o : ObsV} {V : BelV} (h : Keep w g2 g3 q9 o V wx) (h3 : g3 ≠ g1) (h2 : g2 ≠ g1) (hl : ∀ A, q9 = some A → A.block ≠ g1) (hg : w.heap.size ≤ g1) (i : Nat) (u : Value) : Keep w g2 g3 q9 o V (wx.setCell ⟨g1, i, none⟩ u) :=
  ⟨h.res.other h3 u, h.obs.other h2 u, h.rd.set hl, h.bel.setCell (p := ⟨g1, i, none⟩) hg u⟩
theorem Blk.drew {W : World} {b : Nat} {xs : List Value} (h : Blk W b xs) : Blk W.drew b xs := h
theorem Keep.drew {w wx : World} {g2 g3 : Nat} {q9 : Option Addr} {o : ObsV} {V : BelV} (h : Keep w g2 g3 q9 o V wx) : Keep w g2 g3 q9 o V wx.drew :=
  ⟨h.res, h.obs, h.rd, ⟨h.bel.os, h.bel.tape, h.bel.output, h.bel.size, h.bel.block⟩⟩
end Go.Proofs.Ytfmmiafdlfdfoaa
namespace Go.Proofs.Ytfmmiafdlfdfoaa
open Go.RowKit
theorem base_cellG {G : Nat} {W w1 : World} (hb : Below G W w1) : ∀ b o, b < G → w1.cell? ⟨b, o, none⟩ = W.cell? ⟨b, o, none⟩ := fun b o h => hb.cell (p := ⟨b, o, none⟩) h
/-- The calls of a direction below floor k, as bits. -/
def hUp (b : BldV) (d : Int) : Nat → BitVec 32
  | 0 => 0#32
  | k + 1 => if callB b k d then hUp b d k ||| bit k else hUp b d k
def hallC (b : BldV) : CS := (hUp b 1 32, hUp b 2 32)
theorem pow_nat (k : Nat) (h : k < 32) : (2 : Int) ^ k % 4294967296 = ((bit k).toNat : Int) := by
  have := pow_bit (k : Int) (by omega) (by omega)
  simpa using this
set_option maxHeartbeats 4000000 in
theorem refHall_any (b : BldV) (q : Option Addr) (cap : Nat) (w : World) (hlen : b.cars.length ≤ 1000) (hsl : ∀ c ∈ b.cars, -9223372036854775808 ≤ c.sl ∧ c.sl < 9223372036854775807) (hr : RdC w q b.cars) :
    Calls Try.prog 20 #[cvB b q cap] w fun e w' => e = .returned (cv (hallC b)) ∧ Below w.heap.size w w' := by
  have X0 : Blk (w.alloc (.cells #[.int .i64 b.fl, .int .i64 b.deb, .int .i64 b.room, .int .i64 b.park, .float .f64 b.em, .float .f64 b.fu, .float .f64 b.ov, .slice q b.cars.length cap] 29)) w.heap.size [.int .i64 b.fl, .int .i64 b.deb, .int .i64 b.room, .int .i64 b.park, .float .f64 b.em, .float .f64 b.fu, .float .f64 b.ov, .slice q b.cars.length cap] := by
    have hx := Blk.new w [.int .i64 b.fl, .int .i64 b.deb, .int .i64 b.room, .int .i64 b.park, .float .f64 b.em, .float .f64 b.fu, .float .f64 b.ov, .slice q b.cars.length cap] 29
    exact hx
  replace X0 : Blk ((w.alloc (.cells #[.int .i64 b.fl, .int .i64 b.deb, .int .i64 b.room, .int .i64 b.park, .float .f64 b.em, .float .f64 b.fu, .float .f64 b.ov, .slice q b.cars.length cap] 29)).alloc (.cells #[.int .u32 0, .int .u32 0] 45)) w.heap.size [.int .i64 b.fl, .int .i64 b.deb, .int .i64 b.room, .int .i64 b.park, .float .f64 b.em, .float .f64 b.fu, .float .f64 b.ov, .slice q b.cars.length cap] := X0.next (below1' _ _)
  replace X0 : Blk (((w.alloc (.cells #[.int .i64 b.fl, .int .i64 b.deb, .int .i64 b.room, .int .i64 b.park, .float .f64 b.em, .float .f64 b.fu, .float .f64 b.ov, .slice q b.cars.length cap] 29)).alloc (.cells #[.int .u32 0, .int .u32 0] 45)).alloc (.cells #[.int .u32 0, .int .u32 0] 45)) w.heap.size [.int .i64 b.fl, .int .i64 b.deb, .int .i64 b.room, .int .i64 b.park, .float .f64 b.em, .float .f64 b.fu, .float .f64 b.ov, .slice q b.cars.length cap] := X0.next (below1' _ _)
  have X1 : Blk ((w.alloc (.cells #[.int .i64 b.fl, .int .i64 b.deb, .int .i64 b.room, .int .i64 b.park, .float .f64 b.em, .float .f64 b.fu, .float .f64 b.ov, .slice q b.cars.length cap] 29)).alloc (.cells #[.int .u32 0, .int .u32 0] 45)) (w.heap.size + 1) [.int .u32 0, .int .u32 0] := by
    have hx := Blk.new (w.alloc (.cells #[.int .i64 b.fl, .int .i64 b.deb, .int .i64 b.room, .int .i64 b.park, .float .f64 b.em, .float .f64 b.fu, .float .f64 b.ov, .slice q b.cars.length cap] 29)) [.int .u32 0, .int .u32 0] 45
    rw [World.size_alloc] at hx
    exact hx
  replace X1 : Blk (((w.alloc (.cells #[.int .i64 b.fl, .int .i64 b.deb, .int .i64 b.room, .int .i64 b.park, .float .f64 b.em, .float .f64 b.fu, .float .f64 b.ov, .slice q b.cars.length cap] 29)).alloc (.cells #[.int .u32 0, .int .u32 0] 45)).alloc (.cells #[.int .u32 0, .int .u32 0] 45)) (w.heap.size + 1) [.int .u32 0, .int .u32 0] := X1.next (below1' _ _)
  have X2 : Blk (((w.alloc (.cells #[.int .i64 b.fl, .int .i64 b.deb, .int .i64 b.room, .int .i64 b.park, .float .f64 b.em, .float .f64 b.fu, .float .f64 b.ov, .slice q b.cars.length cap] 29)).alloc (.cells #[.int .u32 0, .int .u32 0] 45)).alloc (.cells #[.int .u32 0, .int .u32 0] 45)) (w.heap.size + 1 + 1) [.int .u32 0, .int .u32 0] := by
    have hx := Blk.new ((w.alloc (.cells #[.int .i64 b.fl, .int .i64 b.deb, .int .i64 b.room, .int .i64 b.park, .float .f64 b.em, .float .f64 b.fu, .float .f64 b.ov, .slice q b.cars.length cap] 29)).alloc (.cells #[.int .u32 0, .int .u32 0] 45)) [.int .u32 0, .int .u32 0] 45
    rw [World.size_alloc, World.size_alloc] at hx
    exact hx
  have XW : Below w.heap.size w (w.alloc (.cells #[.int .i64 b.fl, .int .i64 b.deb, .int .i64 b.room, .int .i64 b.park, .float .f64 b.em, .float .f64 b.fu, .float .f64 b.ov, .slice q b.cars.length cap] 29)) := below1' w _
  replace XW : Below w.heap.size w ((w.alloc (.cells #[.int .i64 b.fl, .int .i64 b.deb, .int .i64 b.room, .int .i64 b.park, .float .f64 b.em, .float .f64 b.fu, .float .f64 b.ov, .slice q b.cars.length cap] 29)).alloc (.cells #[.int .u32 0, .int .u32 0] 45)) := XW.trans ((below1' _ _).mono XW.size)
  replace XW : Below w.heap.size w (((w.alloc (.cells #[.int .i64 b.fl, .int .i64 b.deb, .int .i64 b.room, .int .i64 b.park, .float .f64 b.em, .float .f64 b.fu, .float .f64 b.ov, .slice q b.cars.length cap] 29)).alloc (.cells #[.int .u32 0, .int .u32 0] 45)).alloc (.cells #[.int .u32 0, .int .u32 0] 45)) := XW.trans ((below1' _ _).mono XW.size)
  have HWW := Lib.hid XW; have HX0 := Lib.hid X0; have HX1 := Lib.hid X1; have HX2 := Lib.hid X2
  clear XW X0 X1 X2
  have HR := Lib.hid hr
  have HSL := Lib.hid hsl
  have HL := Lib.hid (show b.cars.length ≤ maxLen by unfold maxLen; omega)
  clear hr hsl hlen
  go_enter Try.func20, Try.ntmps20
  go_upto_region 2 with fail
  generalize (((w.alloc (.cells #[.int .i64 b.fl, .int .i64 b.deb, .int .i64 b.room, .int .i64 b.park, .float .f64 b.em, .float .f64 b.fu, .float .f64 b.ov, .slice q b.cars.length cap] 29)).alloc (.cells #[.int .u32 0, .int .u32 0] 45)).alloc (.cells #[.int .u32 0, .int .u32 0] 45)) = w0 at *
  generalize hg2 : w.heap.size + 1 + 1 = g2 at *
  generalize hg1 : w.heap.size + 1 = g1 at *
  have HG1 := Lib.hid hg1; have hq1 : w.heap.size + 1 ≤ g1 := by omega
  have HG2 := Lib.hid hg2; have hq2 : w.heap.size + 2 ≤ g2 := by omega
  clear hg1 hg2
  have HW := Lib.hid (Below.refl w0.heap.size w0)
  have hz0 := HX0.out.lt; have hz1 := HX1.out.lt; have hz2 := HX2.out.lt
  have k0 := (HX0.out).cell 0 _ rfl
  have k1 := (HX0.out).cell 1 _ rfl
  have k2 := (HX0.out).cell 2 _ rfl
  have k3 := (HX0.out).cell 3 _ rfl
  have k4 := (HX0.out).cell 4 _ rfl
  have k5 := (HX0.out).cell 5 _ rfl
  have k6 := (HX0.out).cell 6 _ rfl
  have k7 := (HX0.out).cell 7 _ rfl
  have hl1 : w.heap.size < g2 := by omega
  have hl2 : g1 < g2 := by have := HG2.out; omega
  have hG : g2 ≤ w0.heap.size := by omega
  clear hz0 hz1 hq1 hq2
  go_wp2_with fail
  go_loopw [4] (fun v wr => ∃ k : Nat, k ≤ 32 ∧ v = .int .i64 k ∧ Blk wr g2 [.int .u32 ((hUp b 1 k).toNat : Int), .int .u32 ((hUp b 2 k).toNat : Int)] ∧ Below g2 w0 wr) (fun v _ => 32 - (intOf v).toNat)
  case atStart => exact ⟨0, by omega, rfl, HX2.out, Below.refl _ _⟩
  case round =>
    clear HW
    obtain ⟨k, hk, rfl, BC, hb⟩ := hrel
    have HW := Lib.hid hb
    have HC := Lib.hid BC
    have c0 := base_cellG HW.out
    clear hb BC
    have hrw : ∀ W, Below g2 w0 W → RdC W q b.cars := fun W h => HR.out.next (HWW.out.trans (h.mono (by omega)))
    have HRW := Lib.hid hrw
    clear hrw
    by_cases hlt : k < 32
    · have hd : decide ((k : Int) < 32) = true := by simp; omega
      have hk0 : (0 : Int) ≤ (k : Int) := by omega
      have hk1 : (k : Int) < 32 := by omega
      have HP := Lib.hid (pow_nat k hlt)
      have HU : Hid (hUp b 1 (k + 1) = if callB b k 1 then hUp b 1 k ||| bit k else hUp b 1 k) := Lib.hid rfl
      have HV : Hid (hUp b 2 (k + 1) = if callB b k 2 then hUp b 2 k ||| bit k else hUp b 2 k) := Lib.hid rfl
      generalize hx : hUp b 1 k = x at *
      generalize hy : hUp b 2 k = y at *
      generalize hx1 : hUp b 1 (k + 1) = x1 at *
      generalize hy1 : hUp b 2 (k + 1) = y1 at *
      have HXE := Lib.hid hx1; have HYE := Lib.hid hy1
      clear hx hy hx1 hy1
      go_wp2_with fail
      refine (refIsCall_any b q cap (k : Int) 1 _ HL.out HSL.out (HRW.out _ HW.out)).mono ?_
      rintro e w1 ⟨rfl, hbn⟩
      have HWn := Lib.hid (HW.out.trans (hbn.mono (Nat.le_trans hG HW.out.size)))
      have HCn := Lib.hid (HC.out.next hbn)
      clear HC
      have HC := HCn
      clear HCn
      try clear c0
      clear HW hbn
      have HW := HWn
      clear HWn
      have c0 := base_cellG HW.out
      go_upto_if 11 with fail
      go_cut [] from 9 to 18 (fun wx => Blk wx g2 [.int .u32 (x1.toNat : Int), .int .u32 (y.toNat : Int)] ∧ Below g2 w0 wx)
      case first =>
        cases e1 : callB b k 1
        · have E1 := Lib.hid e1
          clear e1
          go_wp2_with fail
          go_meet
          exact ⟨by rw [HU.out, E1.out]; exact HC.out, HW.out⟩
        · have E1 := Lib.hid e1
          have BC := HC.out
          have s0 := (BC).cell 0 _ rfl
          have s1 := (BC).cell 1 _ rfl
          have f0 := BC.fr 0
          clear e1 BC
          go_wp2_with fail
          simp only [HP.out, or32]
          go_meet
          refine ⟨?_, HW.out.setCell (p := ⟨g2, 0, none⟩) (Nat.le_refl _) _⟩
          rw [HU.out, E1.out]
          exact HC.out.set 0 _
      case rest =>
        obtain ⟨BC, hb⟩ := hcut
        clear HW HC c0
        have HW := Lib.hid hb
        have HC := Lib.hid BC
        have c0 := base_cellG HW.out
        clear hb BC
        go_wp2_with fail
        refine (refIsCall_any b q cap (k : Int) 2 _ HL.out HSL.out (HRW.out _ HW.out)).mono ?_
        rintro e w2 ⟨rfl, hbn⟩
        have HWn := Lib.hid (HW.out.trans (hbn.mono (Nat.le_trans hG HW.out.size)))
        have HCn := Lib.hid (HC.out.next hbn)
        clear HC
        have HC := HCn
        clear HCn
        try clear c0
        clear HW hbn
        have HW := HWn
        clear HWn
        have c0 := base_cellG HW.out
        cases e1 : callB b k 2
        · have E1 := Lib.hid e1
          clear e1
          go_wp2_with fail
          exact ⟨⟨k + 1, by omega, by go_num, by have h := HC.out; have h2 := HV.out; rw [E1.out] at h2; rw [HXE.out, HYE.out, h2]; exact h, HW.out⟩, by simp [intOf]; omega⟩
        · have E1 := Lib.hid e1
          have BC := HC.out
          have s0 := (BC).cell 0 _ rfl
          have s1 := (BC).cell 1 _ rfl
          have f1 := BC.fr 1
          clear e1 BC
          go_wp2_with fail
          simp only [HP.out, or32]
          refine ⟨⟨k + 1, by omega, by go_num, ?_, HW.out.setCell (p := ⟨g2, 1, none⟩) (Nat.le_refl _) _⟩, by simp [intOf]; omega⟩
          have h2 := HV.out
          rw [E1.out] at h2
          rw [HXE.out, HYE.out, h2]
          exact HC.out.set 1 _
    · have hd : decide ((k : Int) < 32) = false := by simp; omega
      obtain rfl : k = 32 := by omega
      have HH : Hid (hallC b = (hUp b 1 32, hUp b 2 32)) := Lib.hid rfl
      generalize hx : hUp b 1 32 = x at *
      generalize hy : hUp b 2 32 = y at *
      have BC := HC.out
      have s0 := (BC).cell 0 _ rfl
      have s1 := (BC).cell 1 _ rfl
      have R1 := HX1.out.later HW.out hl2
      have z0 := HX1.out.cell 0 _ rfl
      have z1 := HX1.out.cell 1 _ rfl
      have f0 := R1.fr 0; have f1 := R1.fr 1
      clear R1 BC hx hy
      go_wp2_with fail
      have R8 := ((HX1.out.later HW.out hl2).set 0 (.int .u32 (x.toNat : Int))).set 1 (.int .u32 (y.toNat : Int))
      have r0 := (R8).cell 0 _ rfl
      have r1 := (R8).cell 1 _ rfl
      exact bodyPost_ret (v := cv (x, y)) (by simp [results, Try.results20, go_sem, r0, r1]) rfl ⟨by rw [HH.out], ((HWW.out.trans (HW.out.mono (by omega))).setCell (p := ⟨g1, 0, none⟩) (by show w.heap.size ≤ g1; have := HG1.out; omega) _).setCell (p := ⟨g1, 1, none⟩) (by show w.heap.size ≤ g1; have := HG1.out; omega) _⟩
end Go.Proofs.Ytfmmiafdlfdfoaa
namespace Go.Proofs.Ytfmmiafdlfdfoaa
open Go.RowKit
/-- The age of the last duty of a call, or -1. -/
def ageOf (l : List Duty) (f d : Int) : Int := l.foldl (fun a x => if x.1 = f ∧ x.2.1 = d then x.2.2 else a) (-1)
theorem ageOf_snoc (l : List Duty) (f d : Int) (k : Nat) (e : Duty) (h : l[k]? = some e) : ageOf (l.take (k + 1)) f d = if e.1 = f ∧ e.2.1 = d then e.2.2 else ageOf (l.take k) f d := by
  rw [List.take_add_one, h]
  simp [ageOf]
def itemJ (l : List Duty) (c : CS) (p : Int × Int) : List Duty :=
  if 0 ≤ ageOf l p.1 p.2 then [(p.1, p.2, ageOf l p.1 p.2)] else if has c p.1 p.2 then [(p.1, p.2, 0)] else []
def injectL (l : List Duty) (c : CS) (all : List (Int × Int)) : List Duty := all.flatMap (itemJ l c)
theorem injectL_snoc (l : List Duty) (c : CS) (all : List (Int × Int)) (i : Nat) (p : Int × Int) (h : all[i]? = some p) : injectL l c (all.take (i + 1)) = injectL l c (all.take i) ++ itemJ l c p := by
  rw [List.take_add_one, h]
  simp [injectL]
theorem itemJ_len (l : List Duty) (c : CS) (p : Int × Int) : (itemJ l c p).length ≤ 1 := by unfold itemJ; split <;> (try split) <;> simp
theorem injectL_len (l : List Duty) (c : CS) (all : List (Int × Int)) : (injectL l c all).length ≤ all.length := by
  induction all with
  | nil => simp [injectL]
  | cons p t ih =>
    simp only [injectL, List.flatMap_cons, List.length_append, List.length_cons] at *
    have := itemJ_len l c p
    omega
def injectV (b : BldV) (car : Int) (s : BelV) (c : CS) : BelV :=
  if stateB b car s then ⟨s.fl, s.dir, s.door, injectL s.du c (listC (hallC b)), s.still, if 0 < (injectL s.du c (listC (hallC b))).length then false else s.late⟩ else zeroB
theorem ents_at (l : List (Int × Int)) (i : Nat) (p : Int × Int) (h : l[i]? = some p) (j : Nat) (u : Value) (hu : (entC p)[j]? = some u) : (cells l)[i * 5 + j]? = some u := by
  induction l generalizing i with
  | nil => simp at h
  | cons e l ih =>
    have hj : j < 5 := (List.getElem?_eq_some_iff.1 hu).1
    cases i with
    | zero =>
      obtain rfl : e = p := by simpa using h
      simp only [cells, List.flatMap_cons, Nat.zero_mul, Nat.zero_add]
      rw [List.getElem?_append_left (by simp [entC]; omega)]
      exact hu
    | succ i =>
      have := ih i (by simpa using h)
      simp only [cells, List.flatMap_cons] at this ⊢
      rw [List.getElem?_append_right (by simp [entC]; omega)]
      rw [show (i + 1) * 5 + j - (entC e).length = i * 5 + j by simp [entC]; omega]
      exact this
/-- A slice of entries: its cells. -/
def RdE (w : World) (q : Option Addr) (l : List (Int × Int)) : Prop := ∀ (i : Nat) p, l[i]? = some p → ∃ A, q = some A ∧ A.block < w.heap.size ∧ ∀ j u, (entC p)[j]? = some u → w.cell? (A.add (i * 5 + j)) = some u
theorem RdE.next {w w' : World} {q : Option Addr} {l : List (Int × Int)} (h : RdE w q l) (hb : Below w.heap.size w w') : RdE w' q l := by
  intro i p hp
  obtain ⟨A, hq, hA, hc⟩ := h i p hp
  exact ⟨A, hq, Nat.lt_of_lt_of_le hA hb.size, fun j u hu => cell_later hb (hc j u hu)⟩
theorem rdE_of_owns {w : World} {base cap n : Nat} {q : Option Addr} {l : List (Int × Int)} (h : w.ownsRow base 53 5 (.slice q n cap) n (cells l)) (hn : l.length = n) : RdE w q l := by
  intro i p hp
  have hi := (List.getElem?_eq_some_iff.1 hp).1
  rcases h.2 with ⟨hv, hx⟩ | ⟨g', cap', cur, hv, _, hh, _⟩
  · simp at hv; omega
  · simp at hv
    obtain ⟨rfl, rfl⟩ := hv
    refine ⟨⟨g', 0, none⟩, rfl, (Array.getElem?_eq_some_iff.1 hh).1, fun j u hu => ?_⟩
    have hj : j < 5 := (List.getElem?_eq_some_iff.1 hu).1
    rw [Addr.add_lit, Nat.zero_add, h.cellAt _ (by omega)]
    exact ents_at l i p hp j u hu
theorem RdE.reg {w : World} {q : Option Addr} {l : List (Int × Int)} (h : RdE w q l) {i : Nat} {p : Int × Int} (hi : l[i]? = some p) : ∃ A, q = some A ∧ A.block < w.heap.size ∧
    (∀ W, Grow.Cl w.drew W → W.cell? (A.add (i * 5)) = some (.int .i64 p.1)) ∧ (∀ W, Grow.Cl w.drew W → W.cell? ⟨(A.add (i * 5)).block, (A.add (i * 5)).off + 1, none⟩ = some (.int .i64 p.2)) := by
  obtain ⟨A, hq, hA, hc⟩ := h i p hi
  refine ⟨A, hq, hA, fun W hW => cell_later (Grow.Cl.base hW) (hc 0 _ rfl), fun W hW => cell_later (Grow.Cl.base hW) ?_⟩
  rw [← addr_one]; exact hc 1 _ rfl
theorem listC_len (c : CS) : (listC c).length ≤ 64 := listTo_len c 32
end Go.Proofs.Ytfmmiafdlfdfoaa
