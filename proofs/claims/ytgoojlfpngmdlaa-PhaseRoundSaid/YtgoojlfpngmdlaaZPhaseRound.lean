/- PhaseRound: a whole cutover and its way back are possible, command by command. Conditions: none. -/
import Derived.Test.YtgoojlfpngmdlaaZRoundLaw
import Derived.Test.YtgoojlfpngmdlaaZSane25
import Derived.Test.YtgoojlfpngmdlaaZArgs25
import Derived.Test.YtgoojlfpngmdlaaZCallsOf
import Derived.Test.YtgoojlfpngmdlaaZArgsU
namespace Go.Proofs.Ytgoojlfpngmdlaa
open Go.ChangeShapes Go.WideShapes Go.ChangeAt Go.RowKit
attribute [local go_sem] run_store_float
theorem Except.set1 {b i : Nat} {A B : World} {u : Value} (h : Except b A B) : Except b A (B.setCell ⟨b, i, none⟩ u) :=
  ⟨h.os, h.tape, h.output, by simpa [World.setCell] using h.size, fun k hk hb => (Below.heap_setCell _ _ _ _ hb).trans (h.block k hk hb)⟩
theorem rdC_exc {w w' : World} {q : Option Addr} {xs : List CarV} {g : Nat} (h : RdC w q xs) (hn : ∀ A, q = some A → A.block ≠ g) (hk : ∀ k, k < w.heap.size → k ≠ g → w'.heap[k]? = w.heap[k]?) (hs : w.heap.size ≤ w'.heap.size) : RdC w' q xs := by
  intro i c hc
  obtain ⟨A, hq, hA, hcell⟩ := h i c hc
  refine ⟨A, hq, by omega, fun j u hu => ?_⟩
  rw [World.cell?_of_block (hk (A.add (i * 9 + j)).block (by rw [addr_block]; exact hA) (by rw [addr_block]; exact hn A hq))]
  exact hcell j u hu
theorem rdM_exc {w w' : World} {m : ImgV} {a : ImgA} {g : Nat} (h : RdM w m a) (hn : NeM g a) (hk : ∀ k, k < w.heap.size → k ≠ g → w'.heap[k]? = w.heap[k]?) (hs : w.heap.size ≤ w'.heap.size) : RdM w' m a :=
  ⟨rdX_exc h.1 hn.1 hk hs, rdX_exc h.2.1 hn.2.1 hk hs, rdX_exc h.2.2.1 hn.2.2.1 hk hs, rdX_exc h.2.2.2 hn.2.2.2 hk hs⟩
theorem addr_ne {g g' : Nat} (h : g < g') : ∀ A : Addr, some (⟨g, 0, none⟩ : Addr) = some A → A.block ≠ g' := by
  intro A hA
  obtain rfl : (⟨g, 0, none⟩ : Addr) = A := by simpa using hA
  show g ≠ g'
  omega
/-- What 'x, f := Apply(..)' leaves. -/
def impP (w : World) (m : ImgV) (v14 v15 : Value) (wx : World) : Prop := ∃ g a, v14 = .pointer (some ⟨g, 0, none⟩) ∧ v15 = .int .i64 0 ∧ w.heap.size ≤ g ∧ Blk wx g [.slice a.p m.ph.length a.pc, .slice a.f m.fg.length a.fc, .slice a.l m.lv.length a.lc, .slice a.e m.en.length a.ec] ∧ OwnM wx w.heap.size m a ∧ Below w.heap.size w wx
def nilQ : List Value := [.slice none 0 0, .slice none 0 0, .slice none 0 0, .slice none 0 0]
theorem impA {w w6 : World} {m : ImgV} {a : ImgA} {B : Nat} (hw : Below w.heap.size w w6) (hB : w.heap.size ≤ B) (ho : OwnM w6 B m a) : impP w m (.pointer (some ⟨w6.heap.size, 0, none⟩)) (.int .i64 0) (w6.alloc (.cells #[.slice a.p m.ph.length a.pc, .slice a.f m.fg.length a.fc, .slice a.l m.lv.length a.lc, .slice a.e m.en.length a.ec] 35)) := by
  have hb := below1' w6 (.cells #[.slice a.p m.ph.length a.pc, .slice a.f m.fg.length a.fc, .slice a.l m.lv.length a.lc, .slice a.e m.en.length a.ec] 35)
  exact ⟨_, a, rfl, rfl, hw.size, Blk.new w6 _ _, (ho.later hb).base hB, hw.trans (hb.mono hw.size)⟩
theorem impB {w w6 : World} {m : ImgV} {a : ImgA} {B g4 : Nat} (hw : Below w.heap.size w w6) (hg : w.heap.size ≤ g4) (hgB : g4 < B) (hX : Blk w6 g4 nilQ) (ho : OwnM w6 B m a) :
    impP w m (.pointer (some ⟨g4, 0, none⟩)) (.int .i64 0) ((((w6.setCell ⟨g4, 0, none⟩ (.slice a.p m.ph.length a.pc)).setCell ⟨g4, 1, none⟩ (.slice a.f m.fg.length a.fc)).setCell ⟨g4, 2, none⟩ (.slice a.l m.lv.length a.lc)).setCell ⟨g4, 3, none⟩ (.slice a.e m.en.length a.ec)) :=
  ⟨g4, a, rfl, rfl, hg, (((hX.set 0 _).set 1 _).set 2 _).set 3 _, ((((ho.set hgB).set hgB).set hgB).set hgB).base (by omega), (((hw.setCell (p := ⟨g4, 0, none⟩) hg _).setCell (p := ⟨g4, 1, none⟩) hg _).setCell (p := ⟨g4, 2, none⟩) hg _).setCell (p := ⟨g4, 3, none⟩) hg _⟩
theorem blkQ {w w6 : World} (hb : Below (w.alloc (.cells #[.slice none 0 0, .slice none 0 0, .slice none 0 0, .slice none 0 0] 35)).drew.heap.size (w.alloc (.cells #[.slice none 0 0, .slice none 0 0, .slice none 0 0, .slice none 0 0] 35)).drew w6) : Blk w6 w.heap.size nilQ :=
  ((Blk.new w nilQ 35).next (drewB2 _)).next hb
set_option maxHeartbeats 8000000 in
set_option maxRecDepth 100000 in
theorem phaseRound_walk (n0 n1 x : Nat) (w : World) (hn0 : n0 < 256) (hn1 : n1 < 256) (hx : x < 256) :
    Calls Try.prog 6 #[.agg #[.int .u8 n0, .int .u8 n1], .int .u8 x] w fun e w' => e = .returned (.bool true) ∧ Below w.heap.size w w' := by
  have X0 : Blk (w.alloc (.cells #[.int .u8 n0, .int .u8 n1] 24)) w.heap.size [.int .u8 n0, .int .u8 n1] := by
    have hx := Blk.new w [.int .u8 n0, .int .u8 n1] 24
    exact hx
  have XW : Below w.heap.size w (w.alloc (.cells #[.int .u8 n0, .int .u8 n1] 24)) := below1' w _
  have HWW := Lib.hid XW; have HX0 := Lib.hid X0
  clear XW X0
  go_enter Try.func6, Try.ntmps6
  go_upto_region 1 with fail
  generalize (w.alloc (.cells #[.int .u8 n0, .int .u8 n1] 24)) = w0 at *
  have HW := Lib.hid (Below.refl w0.heap.size w0)
  have hz0 := HX0.out.lt
  have x0 := (HX0.out).cell 0 _ rfl
  have x1 := (HX0.out).cell 1 _ rfl
  go_wp2_with fail
  refine (b10_any n0 n1 w0 hn0 hn1).mono ?_
  rintro e w1 ⟨g, cap, rfl, hg0, hg1, hr, hb⟩
  have hlc : (b10 n0 n1).cars.length = k10 n0 := cars10_len n0 n1
  have hkr := k10_range n0
  have HSL := Lib.hid (slack10 n0 n1)
  have HVA := Lib.hid (valid10 n0 n1 hn1)
  obtain ⟨k, hk⟩ : ∃ k, k10 n0 = k := ⟨_, rfl⟩
  rw [hk] at hlc hkr
  have HK := Lib.hid hlc
  have HR1 := Lib.hid hr; have HB1 := Lib.hid (HWW.out.trans (hb.mono HWW.out.size))
  clear hr hb hlc hk HX0 HWW HW x0 x1
  generalize b10 n0 n1 = b at *
  go_upto_region 2 with fail
  have B5 := Blk.new w1 [.int .i64 b.fl, .int .i64 b.deb, .int .i64 b.room, .int .i64 b.park, .float .f64 b.em, .float .f64 b.fu, .float .f64 b.ov, .slice (some ⟨g, 0, none⟩) b.cars.length cap] 29
  have hb5 := below1' w1 (.cells #[.int .i64 b.fl, .int .i64 b.deb, .int .i64 b.room, .int .i64 b.park, .float .f64 b.em, .float .f64 b.fu, .float .f64 b.ov, .slice (some ⟨g, 0, none⟩) b.cars.length cap] 29)
  change Blk (w1.alloc (.cells #[.int .i64 b.fl, .int .i64 b.deb, .int .i64 b.room, .int .i64 b.park, .float .f64 b.em, .float .f64 b.fu, .float .f64 b.ov, .slice (some ⟨g, 0, none⟩) b.cars.length cap] 29)) _ _ at B5
  have HW2 := Lib.hid (HB1.out.trans (hb5.mono HB1.out.size))
  have HR2 := Lib.hid (HR1.out.next hb5)
  have HX2 := Lib.hid B5
  clear B5 hb5 HB1 HR1
  generalize w1.alloc (.cells #[.int .i64 b.fl, .int .i64 b.deb, .int .i64 b.room, .int .i64 b.park, .float .f64 b.em, .float .f64 b.fu, .float .f64 b.ov, .slice (some ⟨g, 0, none⟩) b.cars.length cap] 29) = w2 at *
  generalize w1.heap.size = g5 at *
  have k0 := (HX2.out).cell 0 _ rfl
  have k1 := (HX2.out).cell 1 _ rfl
  have k2 := (HX2.out).cell 2 _ rfl
  have k3 := (HX2.out).cell 3 _ rfl
  have k4 := (HX2.out).cell 4 _ rfl
  have k5 := (HX2.out).cell 5 _ rfl
  have k6 := (HX2.out).cell 6 _ rfl
  have k7 := (HX2.out).cell 7 _ rfl
  rw [HK.out] at k7
  have hkz : ¬ (k : Int) = 0 := by omega
  have hx0 : (0 : Int) ≤ (x : Int) := by omega
  have hx1 : (x : Int) < 256 := by omega
  have hmk : ∀ W, (Instr.makeSlice 32 (.int .i64 (k : Int)) (.int .i64 (k : Int))).run Try.prog W = .ok (.slice (some ⟨W.heap.size, 0, none⟩) k k) (W.alloc (.cells (zerosB k) 4)) := run_mkB k (by omega)
  obtain ⟨c, hc⟩ : ∃ c : Nat, (x : Int) % (k : Int) = (c : Int) := ⟨x % k, by omega⟩
  have hck : c < k := by have := Int.emod_lt_of_pos (x : Int) (show (0 : Int) < k by omega); omega
  go_upto_region 4 with fail
  rw [hc]
  have hown3 := ownsB_made w2 k w2.heap.size (Nat.le_refl _) (by omega)
  have hb3 := below1' w2 (.cells (zerosB k) 4)
  have hXs := HX2.out.lt
  have hXX := HX2.out.next hb3; have hRR := HR2.out.next hb3; have hWW := HW2.out.trans (hb3.mono HW2.out.size)
  have HX3 := Lib.hid hXX; have HR3 := Lib.hid hRR; have HW3 := Lib.hid hWW; have HO3 := Lib.hid hown3
  have hw27 : w.heap.size ≤ w2.heap.size := HW2.out.size
  have hgb : g < w2.heap.size := by omega
  clear hown3 hb3 hXX hRR hWW HX2 HR2 HW2 k0 k1 k2 k3 k4 k5 k6 k7 hmk hc hkz hx0 hx1
  generalize w2.alloc (.cells (zerosB k) 4) = w3 at *
  generalize w2.heap.size = g7 at *
  have hown4 := row_upd HO3.out c (.bool true)
  have hne : ∀ j, j < w3.heap.size → j ≠ g7 → (w3.setCell ⟨g7, c, none⟩ (.bool true)).heap[j]? = w3.heap[j]? := fun j _ hj => Below.heap_setCell _ _ _ _ hj
  have HX4 := Lib.hid (HX3.out.other (g := g7) (i := c) (by omega) (.bool true)); have HR4 := Lib.hid (rdC_exc HR3.out (g := g7) (addr_ne hgb) hne (by simp [World.setCell])); have HW4 := Lib.hid (HW3.out.setCell (p := ⟨g7, c, none⟩) hw27 (.bool true))
  have f0 := row_fr HO3.out c
  have c0 : w3.cell? ⟨g7, c, none⟩ = some (.bool false) := by
    rw [HO3.out.cellAt c (by omega)]
    simp [boolCells, hck]
  rw [show (boolCells (List.replicate k false)).set c (.bool true) = boolCells (calmR k c) by simp [boolCells, calmR, List.map_set]] at hown4
  have HC4 := Lib.hid (rdX_of_owns hown4)
  have hc0 : (0 : Int) ≤ (c : Int) := by omega
  have hck' : (c : Int) < (k : Int) := by omega
  clear hown4 HX3 HR3 HW3 HO3 hne
  go_upto_region 5 with fail
  clear f0 c0
  generalize w3.setCell ⟨g7, c, none⟩ (.bool true) = w4 at *
  have k0 := (HX4.out).cell 0 _ rfl
  have k1 := (HX4.out).cell 1 _ rfl
  have k2 := (HX4.out).cell 2 _ rfl
  have k3 := (HX4.out).cell 3 _ rfl
  have k4 := (HX4.out).cell 4 _ rfl
  have k5 := (HX4.out).cell 5 _ rfl
  have k6 := (HX4.out).cell 6 _ rfl
  have k7 := (HX4.out).cell 7 _ rfl
  go_wp2_with fail
  refine (initial_any b (some ⟨g, 0, none⟩) cap w4 (by rw [HK.out]; omega) HSL.out HR4.out).mono ?_
  rw [show imgI b = stR k c (stOf 0) by rw [stR_zero, imgI, if_pos HVA.out, HK.out]]
  rintro e w5 ⟨a0, rfl, hM, hb5⟩
  have hok := fun i (hi : i < 16) => steps_ok k (by omega) c hck i hi
  have HOK := Lib.hid hok
  have hbI := below1' w5 (.cells #[.slice a0.p (stR k c (stOf 0)).ph.length a0.pc, .slice a0.f (stR k c (stOf 0)).fg.length a0.fc, .slice a0.l (stR k c (stOf 0)).lv.length a0.lc, .slice a0.e (stR k c (stOf 0)).en.length a0.ec] 35)
  have BI := Blk.new w5 [.slice a0.p (stR k c (stOf 0)).ph.length a0.pc, .slice a0.f (stR k c (stOf 0)).fg.length a0.fc, .slice a0.l (stR k c (stOf 0)).lv.length a0.lc, .slice a0.e (stR k c (stOf 0)).en.length a0.ec] 35
  change Blk (w5.alloc (.cells #[.slice a0.p (stR k c (stOf 0)).ph.length a0.pc, .slice a0.f (stR k c (stOf 0)).fg.length a0.fc, .slice a0.l (stR k c (stOf 0)).lv.length a0.lc, .slice a0.e (stR k c (stOf 0)).en.length a0.ec] 35)) _ _ at BI
  have hb6 := hb5.trans (hbI.mono hb5.size)
  have hNe : NeM w5.heap.size a0 := hM.le (Nat.le_refl _)
  have HM6 := Lib.hid (hM.rd.next hbI); have HI6 := Lib.hid BI; have HNE := Lib.hid hNe
  have HX6 := Lib.hid (HX4.out.next hb6); have HR6 := Lib.hid (HR4.out.next hb6); have HW6 := Lib.hid (HW4.out.trans (hb6.mono HW4.out.size)); have HC6 := Lib.hid (HC4.out.next hb6)
  have hgX : g5 < w5.heap.size := by have := HX4.out.lt; have := hb5.size; omega
  have hgC : g7 < w5.heap.size := by
    obtain ⟨A, hA, hlt, _⟩ := HC4.out 0 _ (show (boolCells (calmR k c))[0]? = some _ from List.getElem?_eq_getElem (by simp [boolCells, calmR]; omega))
    obtain rfl : (⟨g7, 0, none⟩ : Addr) = A := by simpa using hA
    have := hb5.size
    simp only at hlt
    omega
  clear hok hb5 hM hbI BI hb6 hNe HX4 HR4 HW4 HC4 k0 k1 k2 k3 k4 k5 k6 k7
  go_upto_region 6 with fail
  generalize w5.alloc (.cells #[.slice a0.p (stR k c (stOf 0)).ph.length a0.pc, .slice a0.f (stR k c (stOf 0)).fg.length a0.fc, .slice a0.l (stR k c (stOf 0)).lv.length a0.lc, .slice a0.e (stR k c (stOf 0)).en.length a0.ec] 35) = w6 at *
  generalize w5.heap.size = g8 at *
  have hb7 := below1' w6 (.cells #[.int .i64 1, .int .i64 1, .int .i64 2, .int .i64 0, .int .i64 1, .int .i64 1, .int .i64 (-1), .int .i64 2, .int .i64 3, .int .i64 0, .int .i64 1, .int .i64 1, .int .i64 (-1), .int .i64 2, .int .i64 4, .int .i64 3, .int .i64 5, .int .i64 2, .int .i64 4, .int .i64 3, .int .i64 6, .int .i64 4, .int .i64 7, .int .i64 4, .int .i64 2, .int .i64 4, .int .i64 7, .int .i64 4, .int .i64 (-1), .int .i64 2, .int .i64 3, .int .i64 0] 62)
  have BS := Blk.new w6 (pairCells stepsR) 62
  change Blk (w6.alloc (.cells #[.int .i64 1, .int .i64 1, .int .i64 2, .int .i64 0, .int .i64 1, .int .i64 1, .int .i64 (-1), .int .i64 2, .int .i64 3, .int .i64 0, .int .i64 1, .int .i64 1, .int .i64 (-1), .int .i64 2, .int .i64 4, .int .i64 3, .int .i64 5, .int .i64 2, .int .i64 4, .int .i64 3, .int .i64 6, .int .i64 4, .int .i64 7, .int .i64 4, .int .i64 2, .int .i64 4, .int .i64 7, .int .i64 4, .int .i64 (-1), .int .i64 2, .int .i64 3, .int .i64 0] 62)) _ _ at BS
  have hg8 : g8 < w6.heap.size := HI6.out.lt
  have hgw : w.heap.size ≤ g8 := by omega
  have HX7 := Lib.hid (HX6.out.next hb7); have HR7 := Lib.hid (HR6.out.next hb7); have HW7 := Lib.hid (HW6.out.trans (hb7.mono HW6.out.size)); have HC7 := Lib.hid (HC6.out.next hb7); have HM7 := Lib.hid (HM6.out.next hb7); have HI7 := Lib.hid (HI6.out.next hb7); have HS7 := Lib.hid BS
  clear hb7 BS HX6 HR6 HW6 HC6 HM6 HI6
  go_upto_region 7 with fail
  generalize w6.alloc (.cells #[.int .i64 1, .int .i64 1, .int .i64 2, .int .i64 0, .int .i64 1, .int .i64 1, .int .i64 (-1), .int .i64 2, .int .i64 3, .int .i64 0, .int .i64 1, .int .i64 1, .int .i64 (-1), .int .i64 2, .int .i64 4, .int .i64 3, .int .i64 5, .int .i64 2, .int .i64 4, .int .i64 3, .int .i64 6, .int .i64 4, .int .i64 7, .int .i64 4, .int .i64 2, .int .i64 4, .int .i64 7, .int .i64 4, .int .i64 (-1), .int .i64 2, .int .i64 3, .int .i64 0] 62) = w7 at *
  generalize hg9 : w6.heap.size = g9 at *
  have HALL : Hid (∀ W, Except g8 w7 W → Blk W g5 [.int .i64 b.fl, .int .i64 b.deb, .int .i64 b.room, .int .i64 b.park, .float .f64 b.em, .float .f64 b.fu, .float .f64 b.ov, .slice (some ⟨g, 0, none⟩) b.cars.length cap] ∧ RdC W (some ⟨g, 0, none⟩) b.cars ∧ RdX W (some ⟨g7, 0, none⟩) (boolCells (calmR k c)) ∧ Blk W g9 (pairCells stepsR) ∧ Below w.heap.size w W) := Lib.hid fun W h => by
    refine ⟨blk_same HX7.out (h.block _ HX7.out.lt (by omega)), rdC_exc HR7.out (fun A hA => ?_) h.block h.size, rdX_exc HC7.out (fun A hA => ?_) h.block h.size, blk_same HS7.out (h.block _ HS7.out.lt (by omega)), HW7.out.trans (h.below hgw HW7.out.size)⟩
    · obtain rfl : (⟨g, 0, none⟩ : Addr) = A := by simpa using hA
      show g ≠ g8
      omega
    · obtain rfl : (⟨g7, 0, none⟩ : Addr) = A := by simpa using hA
      show g7 ≠ g8
      omega
  have hg89 : g8 < w7.heap.size := HI7.out.lt
  clear HX7 HR7 HW7 HC7 HS7 hg9
  go_wp2_with fail
  go_loopw [10] (fun v wr => ∃ (i : Nat) (a : ImgA), i ≤ 16 ∧ v = .int .i64 i ∧ Except g8 w7 wr ∧ Blk wr g8 [.slice a.p (stR k c (stOf i)).ph.length a.pc, .slice a.f (stR k c (stOf i)).fg.length a.fc, .slice a.l (stR k c (stOf i)).lv.length a.lc, .slice a.e (stR k c (stOf i)).en.length a.ec] ∧ RdM wr (stR k c (stOf i)) a ∧ NeM g8 a) (fun v _ => 16 - (intOf v).toNat)
  case atStart => exact ⟨0, a0, by omega, rfl, Except.refl _ _, HI7.out, HM7.out, HNE.out⟩
  case round =>
    clear HM7 HI7 HNE
    obtain ⟨i, a, hi, rfl, hE, hI, hM, hN⟩ := hrel
    have HE := Lib.hid hE; have HI := Lib.hid hI; have HM := Lib.hid hM; have HN := Lib.hid hN
    clear hE hI hM hN
    by_cases hlt : i < 16
    · have hd : decide ((i : Int) < 16) = true := by simp; omega
      have hok := HOK.out i hlt
      have HSK := Lib.hid hok
      obtain ⟨y, hy⟩ : ∃ y, stepsR[i]? = some y := ⟨_, List.getElem?_eq_getElem (by simpa [stepsR] using hlt)⟩
      have hop : opOf i = y := by simp [opOf, hy]
      obtain ⟨p1, p2⟩ := pairCells_at stepsR i y hy
      have HP1 := Lib.hid p1; have HP2 := Lib.hid p2; have HOP := Lib.hid hop
      have hi0 : (0 : Int) ≤ (i : Int) := by omega
      have hi16 : (i : Int) < 16 := by omega
      clear hok hy p1 p2 hop
      obtain ⟨L, hL⟩ : ∃ L, recsR k c i = L := ⟨_, rfl⟩
      have HLL := Lib.hid hL
      clear hL
      have hL1 : 1 ≤ L.length ∧ L.length ≤ 3 := by
        have h := HSK.out
        simp only [stepOk, Bool.and_eq_true, HLL.out, decide_eq_true_eq] at h
        have h1 := h.1.1.1.1.1.2
        have h2 := h.1.1.1.1.2
        cases L with
        | nil => simp at h1
        | cons r L => simp at h2 ⊢; omega
      have k0 := (HALL.out wr HE.out).1.cell 0 _ rfl; have k1 := (HALL.out wr HE.out).1.cell 1 _ rfl; have k2 := (HALL.out wr HE.out).1.cell 2 _ rfl; have k3 := (HALL.out wr HE.out).1.cell 3 _ rfl; have k4 := (HALL.out wr HE.out).1.cell 4 _ rfl; have k5 := (HALL.out wr HE.out).1.cell 5 _ rfl; have k6 := (HALL.out wr HE.out).1.cell 6 _ rfl; have k7 := (HALL.out wr HE.out).1.cell 7 _ rfl
      have y0 := (HI.out).cell 0 _ rfl
      have y1 := (HI.out).cell 1 _ rfl
      have y2 := (HI.out).cell 2 _ rfl
      have y3 := (HI.out).cell 3 _ rfl
      go_wp2_with fail
      have hh := auto_any b (some ⟨g, 0, none⟩) cap (stR k c (stOf i)) a (calmR k c) (some ⟨g7, 0, none⟩) k wr (by rw [HK.out]; omega) HSL.out (by rw [(stR_len k c _).1]; omega) (by rw [(stR_len k c _).2]; omega) (HALL.out wr HE.out).2.1 HM.out (HALL.out wr HE.out).2.2.1
      obtain ⟨LA, hLA⟩ : ∃ LA, autoF b (stR k c (stOf i)) (calmR k c) = LA := ⟨_, rfl⟩
      rw [calmR_len, hLA] at hh
      have HLA := Lib.hid hLA
      clear hLA
      refine hh.mono ?_
      clear hh
      rintro e w8 ⟨v, rfl, hb8, q0, cq0, rfl, hr8⟩
      have HR8 := Lib.hid hr8; have HE8 := Lib.hid (HE.out.step hb8); have HI8 := Lib.hid (HI.out.next hb8); have HM8 := Lib.hid (HM.out.next hb8)
      clear hb8 hr8 HE HI HM hd k0 k1 k2 k3 k4 k5 k6 k7 y0 y1 y2 y3
      go_upto_region 11 with fail
      have s0 := (HALL.out w8 HE8.out).2.2.2.1.cell _ _ HP1.out
      by_cases hneg : y.1 < 0
      · have hLE : L = LA := by rw [← HLA.out, ← HLL.out]; exact (round_auto HVA.out HK.out HSK.out (by rw [HOP.out]; exact hneg)).symm
        subst hLE
        obtain ⟨q1, hq1⟩ : ∃ q1, q0 = q1 := ⟨_, rfl⟩
        subst hq1
        have hge : decide (0 ≤ y.1) = false := by simp; omega
        go_upto_region 13 with fail
        have HQ9 := HR8; have HE9 := HE8; have HI9 := HI8; have HM9 := HM8
        clear HR8 HE8 HI8 HM8 s0 hge hneg
        obtain ⟨n, hn⟩ : ∃ n, L.length = n := ⟨_, rfl⟩
        rw [hn] at hL1
        simp only [hn]
        have HNL := Lib.hid hn
        clear hn
        have hn0 : ((n : Int) == 0) = false := by simp; omega
        have hn0' : ¬ (n : Int) = 0 := by omega
        go_wp2_with fail
        go_loopw [13] (fun v wr => ∃ (j : Nat) (a : ImgA), j ≤ n ∧ v = .int .i64 j ∧ Except g8 w7 wr ∧ Blk wr g8 [.slice a.p (midR k c i j).ph.length a.pc, .slice a.f (midR k c i j).fg.length a.fc, .slice a.l (midR k c i j).lv.length a.lc, .slice a.e (midR k c i j).en.length a.ec] ∧ RdM wr (midR k c i j) a ∧ NeM g8 a ∧ RdX wr q0 (recCells L)) (fun v _ => n - (intOf v).toNat)
        case atStart => exact ⟨0, a, by omega, rfl, HE9.out, HI9.out, HM9.out, HN.out, HQ9.out⟩
        case round =>
          clear HE9 HI9 HM9 HN HQ9 hn0 hn0'
          obtain ⟨j, a2, hj, rfl, hE, hI, hM, hN, hQ⟩ := hrel
          have HE := Lib.hid hE; have HI := Lib.hid hI; have HM := Lib.hid hM; have HN := Lib.hid hN; have HQ := Lib.hid hQ
          clear hE hI hM hN hQ
          by_cases hjn : j < n
          · have hd : decide ((j : Int) < (n : Int)) = true := by simp; omega
            obtain ⟨r, hr⟩ : ∃ r, L[j]? = some r := ⟨_, List.getElem?_eq_getElem (by rw [HNL.out]; exact hjn)⟩
            have hap := mid_apply HVA.out HK.out HSK.out (show (recsR k c i)[j]? = some r by rw [HLL.out]; exact hr)
            have HAP := Lib.hid hap
            have HRJ := Lib.hid hr
            have hlm : (midR k c i j).ph.length ≤ 1000 ∧ (midR k c i j).en.length ≤ 1000 := by
              have h := mid_img HVA.out HK.out HSK.out j
              refine ⟨by have := (imgB_facts h).2.2.1; have := HK.out; omega, mid_en k c i j HSK.out⟩
            have HLM := Lib.hid hlm
            obtain ⟨D, hqD, _, x0, x1, x2, x3, x4⟩ := HQ.out.rc hr
            have HQD := Lib.hid hqD
            obtain ⟨mj, hmj⟩ : ∃ mj, midR k c i j = mj := ⟨_, rfl⟩
            obtain ⟨mk, hmk⟩ : ∃ mk, midR k c i (j + 1) = mk := ⟨_, rfl⟩
            rw [hmj] at HAP HLM HI HM
            rw [hmk] at HAP
            have HMK := Lib.hid hmk
            have hj0 : (0 : Int) ≤ (j : Int) := by omega
            have hjn' : (j : Int) < (n : Int) := by omega
            have hq1 : q0 = some D := hqD
            subst hq1
            have HSS : Hid (∀ W, Below wr.heap.size wr W → W.cell? ⟨g5, 0, none⟩ = some (.int .i64 b.fl) ∧ W.cell? ⟨g5, 1, none⟩ = some (.int .i64 b.deb) ∧ W.cell? ⟨g5, 2, none⟩ = some (.int .i64 b.room) ∧ W.cell? ⟨g5, 3, none⟩ = some (.int .i64 b.park) ∧ W.cell? ⟨g5, 4, none⟩ = some (.float .f64 b.em) ∧ W.cell? ⟨g5, 5, none⟩ = some (.float .f64 b.fu) ∧ W.cell? ⟨g5, 6, none⟩ = some (.float .f64 b.ov) ∧ W.cell? ⟨g5, 7, none⟩ = some (.slice (some ⟨g, 0, none⟩) b.cars.length cap) ∧ W.cell? ⟨g8, 0, none⟩ = some (.slice a2.p mj.ph.length a2.pc) ∧ W.cell? ⟨g8, 1, none⟩ = some (.slice a2.f mj.fg.length a2.fc) ∧ W.cell? ⟨g8, 2, none⟩ = some (.slice a2.l mj.lv.length a2.lc) ∧ W.cell? ⟨g8, 3, none⟩ = some (.slice a2.e mj.en.length a2.ec) ∧ W.cell? (D.add (j * 5)) = some (.int .i64 r.1) ∧ W.cell? ⟨(D.add (j * 5)).block, (D.add (j * 5)).off + 1, none⟩ = some (.int .i64 r.2.1) ∧ W.cell? ⟨(D.add (j * 5)).block, (D.add (j * 5)).off + 2, none⟩ = some (.int .i64 r.2.2.1) ∧ W.cell? ⟨(D.add (j * 5)).block, (D.add (j * 5)).off + 3, none⟩ = some (.int .i64 r.2.2.2.1) ∧ W.cell? ⟨(D.add (j * 5)).block, (D.add (j * 5)).off + 4, none⟩ = some (.int .i64 r.2.2.2.2)) := Lib.hid fun W h => by
              have X := (HALL.out W (HE.out.step h)).1
              have Y := HI.out.next h
              exact ⟨X.cell 0 _ rfl, X.cell 1 _ rfl, X.cell 2 _ rfl, X.cell 3 _ rfl, X.cell 4 _ rfl, X.cell 5 _ rfl, X.cell 6 _ rfl, X.cell 7 _ rfl, Y.cell 0 _ rfl, Y.cell 1 _ rfl, Y.cell 2 _ rfl, Y.cell 3 _ rfl, cell_later h x0, cell_later h x1, cell_later h x2, cell_later h x3, cell_later h x4⟩
            have HOC : Hid (∀ W, Below wr.heap.size wr W → Calls Try.prog 16 #[cvB b (some ⟨g, 0, none⟩) cap, cvM mj a2, cvR r] W fun e w' => ∃ a', e = .returned (.tuple #[cvM mk a', .int .i64 0]) ∧ OwnM w' W.heap.size mk a' ∧ Below W.heap.size W w') := Lib.hid fun W h => by
              have hh := apply_any b (some ⟨g, 0, none⟩) cap mj a2 r W (by rw [HK.out]; omega) HSL.out HLM.out.1 HLM.out.2 (HALL.out W (HE.out.step h)).2.1 (HM.out.next h)
              rw [HAP.out.1, HAP.out.2] at hh
              exact hh
            clear hap hr hlm hqD hmj hmk x0 x1 x2 x3 x4
            go_upto_region 18 with fail
            obtain ⟨t0, t1, t2, t3, t4, t5, t6, t7, t8, t9, t10, t11, t12, t13, t14, t15, t16⟩ := HSS.out wr (Below.refl _ _)
            clear hd
            go_cut [14, 15] from 96 to 105 (fun v14 v15 wx => impP wr mk v14 v15 wx)
            case first =>
              go_region_held3 (fun W : World => W.cell? ⟨g5, 0, none⟩ = some (.int .i64 b.fl) ∧ W.cell? ⟨g5, 1, none⟩ = some (.int .i64 b.deb) ∧ W.cell? ⟨g5, 2, none⟩ = some (.int .i64 b.room) ∧ W.cell? ⟨g5, 3, none⟩ = some (.int .i64 b.park) ∧ W.cell? ⟨g5, 4, none⟩ = some (.float .f64 b.em) ∧ W.cell? ⟨g5, 5, none⟩ = some (.float .f64 b.fu) ∧ W.cell? ⟨g5, 6, none⟩ = some (.float .f64 b.ov) ∧ W.cell? ⟨g5, 7, none⟩ = some (.slice (some ⟨g, 0, none⟩) b.cars.length cap) ∧ W.cell? ⟨g8, 0, none⟩ = some (.slice a2.p mj.ph.length a2.pc) ∧ W.cell? ⟨g8, 1, none⟩ = some (.slice a2.f mj.fg.length a2.fc) ∧ W.cell? ⟨g8, 2, none⟩ = some (.slice a2.l mj.lv.length a2.lc) ∧ W.cell? ⟨g8, 3, none⟩ = some (.slice a2.e mj.en.length a2.ec) ∧ W.cell? (D.add (j * 5)) = some (.int .i64 r.1) ∧ W.cell? ⟨(D.add (j * 5)).block, (D.add (j * 5)).off + 1, none⟩ = some (.int .i64 r.2.1) ∧ W.cell? ⟨(D.add (j * 5)).block, (D.add (j * 5)).off + 2, none⟩ = some (.int .i64 r.2.2.1) ∧ W.cell? ⟨(D.add (j * 5)).block, (D.add (j * 5)).off + 3, none⟩ = some (.int .i64 r.2.2.2.1) ∧ W.cell? ⟨(D.add (j * 5)).block, (D.add (j * 5)).off + 4, none⟩ = some (.int .i64 r.2.2.2.2))
                ((refine HSS.out _ ?_
                  repeat (with_reducible refine setB2 ?_ ?_; rotate_left; (first | exact Nat.le_refl _ | exact T6.out.size))
                  first
                    | with_reducible exact drewB2 wr
                    | with_reducible exact drewA2 wr _
                    | with_reducible exact T6.out
                    | with_reducible exact below_al2 T6.out (Nat.le_refl _) _
                    | with_reducible exact below_al2 (drewB2 wr) (Nat.le_refl _) _))
                (first
                  | (go_at_call 16
                     refine (HOC.out _ ?_).mono ?_
                     · first
                         | with_reducible exact drewB2 wr
                         | with_reducible exact drewA2 wr _
                         | with_reducible exact below_al2 (drewB2 wr) (Nat.le_refl _) _
                     rintro e w6' ⟨a', rfl, ho1, hb6⟩
                     have T6 : Hid (Below wr.heap.size wr w6') := Lib.hid (by first | with_reducible exact (drewB2 wr).trans (hb6.mono (drewB2 wr).size) | with_reducible exact (drewA2 wr _).trans (hb6.mono (drewA2 wr _).size))
                     have c6 := base_cell hb6
                     have z6 := base_frozen2 hb6))
              all_goals go_wp2_with fail
              all_goals go_meet
              all_goals
                first
                  | exact impA T6.out (by simp) ho1
                  | exact impB T6.out (Nat.le_refl _) (by simp) (blkQ hb6) ho1
                  | (trace_state; sorry)
            case rest =>
            obtain ⟨gx, a', rfl, rfl, hgx, hB8, ho8, hb8⟩ := hcut
            generalize hwc : wc = w10 at *
            have hg8r : g8 < wr.heap.size := HI.out.lt
            have hNA : NeM g8 a' := ho8.ge hg8r
            have HNA := Lib.hid hNA; have HGX := Lib.hid hB8; have HM10 := Lib.hid ho8.rd; have HI10 := Lib.hid (HI.out.next hb8); have HE10 := Lib.hid (HE.out.step hb8); have HQ10 := Lib.hid (HQ.out.next hb8)
            have hneD : D.block ≠ g8 := by
              have h := HQ10.out
              have h2 := HRJ.out
              cases L with
              | nil => simp at h2
              | cons r0 L0 => exact rec_off h HI10.out (img_slices mj a2)
            have HND := Lib.hid hneD
            clear hwc hNA hB8 ho8 hb8 hneD HI HE HQ HM HN HSS HOC t0 t1 t2 t3 t4 t5 t6 t7 t8 t9 t10 t11 t12 t13 t14 t15 t16
            have x0 := (HGX.out).cell 0 _ rfl
            have x1 := (HGX.out).cell 1 _ rfl
            have x2 := (HGX.out).cell 2 _ rfl
            have x3 := (HGX.out).cell 3 _ rfl
            have y0 := (HI10.out).cell 0 _ rfl
            have y1 := (HI10.out).cell 1 _ rfl
            have y2 := (HI10.out).cell 2 _ rfl
            have y3 := (HI10.out).cell 3 _ rfl
            have f0 := HI10.out.fr 0; have f1 := HI10.out.fr 1; have f2 := HI10.out.fr 2; have f3 := HI10.out.fr 3
            go_wp2_with fail
            exact ⟨⟨j + 1, a', by omega, by go_num, HE10.out.set1.set1.set1.set1, by rw [HMK.out]; exact (((HI10.out.set 0 _).set 1 _).set 2 _).set 3 _, by rw [HMK.out]; exact rdM_exc HM10.out HNA.out (fun k _ hk => by repeat rw [Below.heap_setCell _ _ _ _ hk]) (by simp [World.setCell]), HNA.out, rdX_exc HQ10.out (fun A hA => by cases hA; exact HND.out) (fun k _ hk => by repeat rw [Below.heap_setCell _ _ _ _ hk]) (by simp [World.setCell])⟩, by simp [intOf]; omega⟩
          · have hd : decide ((j : Int) < (n : Int)) = false := by simp; omega
            have hjn2 : j = n := by omega
            subst hjn2
            have hme : midR k c i j = stR k c (stOf (i + 1)) := by
              have h := mid_end HSK.out
              rw [HLL.out, HNL.out] at h
              exact h
            rw [hme] at HI HM
            have hph := step_ph hck HSK.out
            rw [HOP.out] at hph
            obtain ⟨E, hqE, _, cE⟩ := HM.out.1.it hph
            clear hme hph
            go_upto_region 22 with fail
            clear hd
            replace cE : ∀ W, Grow.Cl wr.drew W → _ := fun W h => cell_later (Grow.Cl.base h) cE
            have y0 := (HI.out).reg 0 _ rfl
            rw [hqE, (stR_len k c _).1] at y0
            clear hqE
            have s1 := (HALL.out wr HE.out).2.2.2.1.reg _ _ HP2.out
            (refine Grow.wp_region Grow.noPlan Grow.noPlan_stable (by kernel_rfl) (by kernel_rfl) ?_; intro opsq Hopsq)
            repeat (first | (refine Grow.lex_move rfl ?_ rfl ?_; (· first | exact Grow.wanted_none | (rw [Hopsq.out]; rfl)); intro K hK; simp only [Grow.put_lit, Grow.setAt, Grow.eval_lit, Grow.ev]; refine hK _ _ ?_; clear hK K) | (refine Grow.lex_assign rfl ?_ rfl ?_; (· first | exact Grow.wanted_none | (rw [Hopsq.out]; rfl)); intro K hK; simp only [Grow.put_lit, Grow.setAt, Grow.eval_lit, Grow.ev]; refine hK _ _ ?_; clear hK K) | (refine Grow.lex_plain rfl rfl ?_ rfl ?_; (· first | exact Grow.wanted_none | (rw [Hopsq.out]; rfl)); apply Exists.intro; refine ⟨fun wq hCq _ => ?_, ?_⟩; (· (go_wp2_with fail; refine ⟨rfl, Below.refl _ _, ?_⟩; simp only [Grow.getD_lit, Grow.nth]; rfl)); intro K hK; simp only [Grow.put_lit, Grow.setAt]; refine hK _ _ ?_; clear hK K) | (refine Grow.lex_nilCheck rfl rfl ?_ rfl ?_; (· first | exact Grow.wanted_none | (rw [Hopsq.out]; rfl)); intro K hK; simp only [Grow.put_lit, Grow.setAt]; refine hK _ _ ?_; clear hK K) | (refine Grow.lex_skip ?_ ?_; (· (rw [Hopsq.out]; rfl)); intro K hK; simp only [Grow.put_lit, Grow.setAt]; refine hK _ _ ?_; clear hK K))
            (refine Grow.lex_nil ?_; intro w11 hb11 _; replace hb11 := Grow.Cl.base hb11; clear Hopsq opsq)
            have HE11 := Lib.hid (HE.out.step hb11); have HI11 := Lib.hid (HI.out.next hb11); have HM11 := Lib.hid (HM.out.next hb11)
            clear hb11 HE HI HM cE y0 s1
            go_wp2_with fail
            exact ⟨⟨i + 1, a2, by omega, by go_num, HE11.out, HI11.out, HM11.out, HN.out⟩, by simp [intOf]; omega⟩
      · have hge : decide (0 ≤ y.1) = true := by simp; omega
        have hge' : 0 ≤ y.1 := by omega
        have HOR : Hid (orderF b (stR k c (stOf i)) y.1 c (calmR k c) = (L, 0)) := Lib.hid (by rw [← HLL.out, ← HOP.out]; exact round_order HVA.out HK.out hck HSK.out (by rw [HOP.out]; exact hneg))
        have HOC : Hid (∀ W, Below w8.heap.size w8 W → Calls Try.prog 13 #[cvB b (some ⟨g, 0, none⟩) cap, cvM (stR k c (stOf i)) a, .agg #[.int .i64 y.1, .int .i64 (c : Int)], .slice (some ⟨g7, 0, none⟩) k k] W fun r w' => ∃ v, r = .returned v ∧ Below W.heap.size W w' ∧ ordR (L, 0) v w') := Lib.hid fun W h => by
          have hh := order_any b (some ⟨g, 0, none⟩) cap (stR k c (stOf i)) a y.1 c (calmR k c) (some ⟨g7, 0, none⟩) k W (by rw [HK.out]; omega) HSL.out (by rw [(stR_len k c _).1]; omega) (by rw [(stR_len k c _).2]; omega) (HALL.out W (HE8.out.step h)).2.1 (HM8.out.next h) (HALL.out W (HE8.out.step h)).2.2.1
          rw [calmR_len, HOR.out] at hh
          exact hh
        go_upto_region 12 with fail
        clear hge hge' hneg s0 HOR HR8
        have k0 := ((HALL.out w8 HE8.out).1).reg 0 _ rfl
        have k1 := ((HALL.out w8 HE8.out).1).reg 1 _ rfl
        have k2 := ((HALL.out w8 HE8.out).1).reg 2 _ rfl
        have k3 := ((HALL.out w8 HE8.out).1).reg 3 _ rfl
        have k4 := ((HALL.out w8 HE8.out).1).reg 4 _ rfl
        have k5 := ((HALL.out w8 HE8.out).1).reg 5 _ rfl
        have k6 := ((HALL.out w8 HE8.out).1).reg 6 _ rfl
        have k7 := ((HALL.out w8 HE8.out).1).reg 7 _ rfl
        have y0 := (HI8.out).reg 0 _ rfl
        have y1 := (HI8.out).reg 1 _ rfl
        have y2 := (HI8.out).reg 2 _ rfl
        have y3 := (HI8.out).reg 3 _ rfl
        have s0 := (HALL.out w8 HE8.out).2.2.2.1.reg _ _ HP1.out
        refine Grow.wp_region (rPlan 10 (ordR (L, 0))) (rPlan_stable _ _ (ordR_stable _)) (by kernel_rfl) (by kernel_rfl) ?_
        intro opsq Hopsq
        repeat (first | (refine Grow.lex_move rfl ?_ rfl ?_; (· first | exact Grow.wanted_none | (rw [Hopsq.out]; rfl)); intro K hK; simp only [Grow.put_lit, Grow.setAt, Grow.eval_lit, Grow.ev]; refine hK _ _ ?_; clear hK K) | (refine Grow.lex_assign rfl ?_ rfl ?_; (· first | exact Grow.wanted_none | (rw [Hopsq.out]; rfl)); intro K hK; simp only [Grow.put_lit, Grow.setAt, Grow.eval_lit, Grow.ev]; refine hK _ _ ?_; clear hK K) | (refine Grow.lex_plain rfl rfl ?_ rfl ?_; (· first | exact Grow.wanted_none | (rw [Hopsq.out]; rfl)); apply Exists.intro; refine ⟨fun wq hCq _ => ?_, ?_⟩; (· (go_wp2_with fail; refine ⟨rfl, Below.refl _ _, ?_⟩; simp only [Grow.getD_lit, Grow.nth]; rfl)); intro K hK; simp only [Grow.put_lit, Grow.setAt]; refine hK _ _ ?_; clear hK K) | (refine Grow.lex_nilCheck rfl rfl ?_ rfl ?_; (· first | exact Grow.wanted_none | (rw [Hopsq.out]; rfl)); intro K hK; simp only [Grow.put_lit, Grow.setAt]; refine hK _ _ ?_; clear hK K) | (refine Grow.lex_skip ?_ ?_; (· (rw [Hopsq.out]; rfl)); intro K hK; simp only [Grow.put_lit, Grow.setAt]; refine hK _ _ ?_; clear hK K))
        (refine Grow.lex_callR (r := (fun _ v w => ordR (L, 0) v w)) ?_ rfl ?_; (· first | exact Grow.wanted_none | (rw [Hopsq.out]; rfl)); apply Exists.intro; apply Exists.intro; refine ⟨fun wq => ?_, ?_, ?_⟩; (· (go_simp; exact ⟨rfl, rfl⟩)); (· (intro wq hCq hKq; exact HOC.out _ (Grow.Cl.base hCq))); intro vq hWq; obtain ⟨_, _, hTT⟩ := hWq; obtain ⟨q1, c1, hvq⟩ := ordR_form (Grow.Holds.of_upd hTT).2; subst hvq; clear hTT; intro K hK; simp only [Grow.put_lit, Grow.setAt]; refine hK _ _ ?_; clear hK K)
        repeat (first | (refine Grow.lex_move rfl ?_ rfl ?_; (· first | exact Grow.wanted_none | (rw [Hopsq.out]; rfl)); intro K hK; simp only [Grow.put_lit, Grow.setAt, Grow.eval_lit, Grow.ev]; refine hK _ _ ?_; clear hK K) | (refine Grow.lex_assign rfl ?_ rfl ?_; (· first | exact Grow.wanted_none | (rw [Hopsq.out]; rfl)); intro K hK; simp only [Grow.put_lit, Grow.setAt, Grow.eval_lit, Grow.ev]; refine hK _ _ ?_; clear hK K) | (refine Grow.lex_plain rfl rfl ?_ rfl ?_; (· first | exact Grow.wanted_none | (rw [Hopsq.out]; rfl)); apply Exists.intro; refine ⟨fun wq hCq _ => ?_, ?_⟩; (· (go_wp2_with fail; refine ⟨rfl, Below.refl _ _, ?_⟩; simp only [Grow.getD_lit, Grow.nth]; rfl)); intro K hK; simp only [Grow.put_lit, Grow.setAt]; refine hK _ _ ?_; clear hK K) | (refine Grow.lex_nilCheck rfl rfl ?_ rfl ?_; (· first | exact Grow.wanted_none | (rw [Hopsq.out]; rfl)); intro K hK; simp only [Grow.put_lit, Grow.setAt]; refine hK _ _ ?_; clear hK K) | (refine Grow.lex_skip ?_ ?_; (· (rw [Hopsq.out]; rfl)); intro K hK; simp only [Grow.put_lit, Grow.setAt]; refine hK _ _ ?_; clear hK K))
        refine Grow.lex_nil ?_
        intro w9 hb9 hTT
        obtain ⟨_, q2, c2, hv2, hr2⟩ := Grow.Holds.of_upd hTT
        replace hb9 := Grow.Cl.base hb9
        have HQ9 : Hid (RdX w9 q1 (recCells L)) := Lib.hid (by simp at hv2; obtain ⟨rfl, rfl⟩ := hv2; exact hr2)
        have HE9 := Lib.hid (HE8.out.step hb9); have HI9 := Lib.hid (HI8.out.next hb9); have HM9 := Lib.hid (HM8.out.next hb9)
        clear hb9 hTT hv2 hr2 Hopsq opsq HOC HE8 HI8 HM8 k0 k1 k2 k3 k4 k5 k6 k7 y0 y1 y2 y3 s0
        obtain ⟨n, hn⟩ : ∃ n, L.length = n := ⟨_, rfl⟩
        rw [hn] at hL1
        simp only [hn]
        have HNL := Lib.hid hn
        clear hn
        have hn0 : ((n : Int) == 0) = false := by simp; omega
        have hn0' : ¬ (n : Int) = 0 := by omega
        go_wp2_with fail
        go_loopw [13] (fun v wr => ∃ (j : Nat) (a : ImgA), j ≤ n ∧ v = .int .i64 j ∧ Except g8 w7 wr ∧ Blk wr g8 [.slice a.p (midR k c i j).ph.length a.pc, .slice a.f (midR k c i j).fg.length a.fc, .slice a.l (midR k c i j).lv.length a.lc, .slice a.e (midR k c i j).en.length a.ec] ∧ RdM wr (midR k c i j) a ∧ NeM g8 a ∧ RdX wr q1 (recCells L)) (fun v _ => n - (intOf v).toNat)
        case atStart => exact ⟨0, a, by omega, rfl, HE9.out, HI9.out, HM9.out, HN.out, HQ9.out⟩
        case round =>
          clear HE9 HI9 HM9 HN HQ9 hn0 hn0'
          obtain ⟨j, a2, hj, rfl, hE, hI, hM, hN, hQ⟩ := hrel
          have HE := Lib.hid hE; have HI := Lib.hid hI; have HM := Lib.hid hM; have HN := Lib.hid hN; have HQ := Lib.hid hQ
          clear hE hI hM hN hQ
          by_cases hjn : j < n
          · have hd : decide ((j : Int) < (n : Int)) = true := by simp; omega
            obtain ⟨r, hr⟩ : ∃ r, L[j]? = some r := ⟨_, List.getElem?_eq_getElem (by rw [HNL.out]; exact hjn)⟩
            have hap := mid_apply HVA.out HK.out HSK.out (show (recsR k c i)[j]? = some r by rw [HLL.out]; exact hr)
            have HAP := Lib.hid hap
            have HRJ := Lib.hid hr
            have hlm : (midR k c i j).ph.length ≤ 1000 ∧ (midR k c i j).en.length ≤ 1000 := by
              have h := mid_img HVA.out HK.out HSK.out j
              refine ⟨by have := (imgB_facts h).2.2.1; have := HK.out; omega, mid_en k c i j HSK.out⟩
            have HLM := Lib.hid hlm
            obtain ⟨D, hqD, _, x0, x1, x2, x3, x4⟩ := HQ.out.rc hr
            have HQD := Lib.hid hqD
            obtain ⟨mj, hmj⟩ : ∃ mj, midR k c i j = mj := ⟨_, rfl⟩
            obtain ⟨mk, hmk⟩ : ∃ mk, midR k c i (j + 1) = mk := ⟨_, rfl⟩
            rw [hmj] at HAP HLM HI HM
            rw [hmk] at HAP
            have HMK := Lib.hid hmk
            have hj0 : (0 : Int) ≤ (j : Int) := by omega
            have hjn' : (j : Int) < (n : Int) := by omega
            have hq1 : q1 = some D := hqD
            subst hq1
            have HSS : Hid (∀ W, Below wr.heap.size wr W → W.cell? ⟨g5, 0, none⟩ = some (.int .i64 b.fl) ∧ W.cell? ⟨g5, 1, none⟩ = some (.int .i64 b.deb) ∧ W.cell? ⟨g5, 2, none⟩ = some (.int .i64 b.room) ∧ W.cell? ⟨g5, 3, none⟩ = some (.int .i64 b.park) ∧ W.cell? ⟨g5, 4, none⟩ = some (.float .f64 b.em) ∧ W.cell? ⟨g5, 5, none⟩ = some (.float .f64 b.fu) ∧ W.cell? ⟨g5, 6, none⟩ = some (.float .f64 b.ov) ∧ W.cell? ⟨g5, 7, none⟩ = some (.slice (some ⟨g, 0, none⟩) b.cars.length cap) ∧ W.cell? ⟨g8, 0, none⟩ = some (.slice a2.p mj.ph.length a2.pc) ∧ W.cell? ⟨g8, 1, none⟩ = some (.slice a2.f mj.fg.length a2.fc) ∧ W.cell? ⟨g8, 2, none⟩ = some (.slice a2.l mj.lv.length a2.lc) ∧ W.cell? ⟨g8, 3, none⟩ = some (.slice a2.e mj.en.length a2.ec) ∧ W.cell? (D.add (j * 5)) = some (.int .i64 r.1) ∧ W.cell? ⟨(D.add (j * 5)).block, (D.add (j * 5)).off + 1, none⟩ = some (.int .i64 r.2.1) ∧ W.cell? ⟨(D.add (j * 5)).block, (D.add (j * 5)).off + 2, none⟩ = some (.int .i64 r.2.2.1) ∧ W.cell? ⟨(D.add (j * 5)).block, (D.add (j * 5)).off + 3, none⟩ = some (.int .i64 r.2.2.2.1) ∧ W.cell? ⟨(D.add (j * 5)).block, (D.add (j * 5)).off + 4, none⟩ = some (.int .i64 r.2.2.2.2)) := Lib.hid fun W h => by
              have X := (HALL.out W (HE.out.step h)).1
              have Y := HI.out.next h
              exact ⟨X.cell 0 _ rfl, X.cell 1 _ rfl, X.cell 2 _ rfl, X.cell 3 _ rfl, X.cell 4 _ rfl, X.cell 5 _ rfl, X.cell 6 _ rfl, X.cell 7 _ rfl, Y.cell 0 _ rfl, Y.cell 1 _ rfl, Y.cell 2 _ rfl, Y.cell 3 _ rfl, cell_later h x0, cell_later h x1, cell_later h x2, cell_later h x3, cell_later h x4⟩
            have HOC : Hid (∀ W, Below wr.heap.size wr W → Calls Try.prog 16 #[cvB b (some ⟨g, 0, none⟩) cap, cvM mj a2, cvR r] W fun e w' => ∃ a', e = .returned (.tuple #[cvM mk a', .int .i64 0]) ∧ OwnM w' W.heap.size mk a' ∧ Below W.heap.size W w') := Lib.hid fun W h => by
              have hh := apply_any b (some ⟨g, 0, none⟩) cap mj a2 r W (by rw [HK.out]; omega) HSL.out HLM.out.1 HLM.out.2 (HALL.out W (HE.out.step h)).2.1 (HM.out.next h)
              rw [HAP.out.1, HAP.out.2] at hh
              exact hh
            clear hap hr hlm hqD hmj hmk x0 x1 x2 x3 x4
            go_upto_region 18 with fail
            obtain ⟨t0, t1, t2, t3, t4, t5, t6, t7, t8, t9, t10, t11, t12, t13, t14, t15, t16⟩ := HSS.out wr (Below.refl _ _)
            clear hd
            go_cut [14, 15] from 96 to 105 (fun v14 v15 wx => impP wr mk v14 v15 wx)
            case first =>
              go_region_held3 (fun W : World => W.cell? ⟨g5, 0, none⟩ = some (.int .i64 b.fl) ∧ W.cell? ⟨g5, 1, none⟩ = some (.int .i64 b.deb) ∧ W.cell? ⟨g5, 2, none⟩ = some (.int .i64 b.room) ∧ W.cell? ⟨g5, 3, none⟩ = some (.int .i64 b.park) ∧ W.cell? ⟨g5, 4, none⟩ = some (.float .f64 b.em) ∧ W.cell? ⟨g5, 5, none⟩ = some (.float .f64 b.fu) ∧ W.cell? ⟨g5, 6, none⟩ = some (.float .f64 b.ov) ∧ W.cell? ⟨g5, 7, none⟩ = some (.slice (some ⟨g, 0, none⟩) b.cars.length cap) ∧ W.cell? ⟨g8, 0, none⟩ = some (.slice a2.p mj.ph.length a2.pc) ∧ W.cell? ⟨g8, 1, none⟩ = some (.slice a2.f mj.fg.length a2.fc) ∧ W.cell? ⟨g8, 2, none⟩ = some (.slice a2.l mj.lv.length a2.lc) ∧ W.cell? ⟨g8, 3, none⟩ = some (.slice a2.e mj.en.length a2.ec) ∧ W.cell? (D.add (j * 5)) = some (.int .i64 r.1) ∧ W.cell? ⟨(D.add (j * 5)).block, (D.add (j * 5)).off + 1, none⟩ = some (.int .i64 r.2.1) ∧ W.cell? ⟨(D.add (j * 5)).block, (D.add (j * 5)).off + 2, none⟩ = some (.int .i64 r.2.2.1) ∧ W.cell? ⟨(D.add (j * 5)).block, (D.add (j * 5)).off + 3, none⟩ = some (.int .i64 r.2.2.2.1) ∧ W.cell? ⟨(D.add (j * 5)).block, (D.add (j * 5)).off + 4, none⟩ = some (.int .i64 r.2.2.2.2))
                ((refine HSS.out _ ?_
                  repeat (with_reducible refine setB2 ?_ ?_; rotate_left; (first | exact Nat.le_refl _ | exact T6.out.size))
                  first
                    | with_reducible exact drewB2 wr
                    | with_reducible exact drewA2 wr _
                    | with_reducible exact T6.out
                    | with_reducible exact below_al2 T6.out (Nat.le_refl _) _
                    | with_reducible exact below_al2 (drewB2 wr) (Nat.le_refl _) _))
                (first
                  | (go_at_call 16
                     refine (HOC.out _ ?_).mono ?_
                     · first
                         | with_reducible exact drewB2 wr
                         | with_reducible exact drewA2 wr _
                         | with_reducible exact below_al2 (drewB2 wr) (Nat.le_refl _) _
                     rintro e w6' ⟨a', rfl, ho1, hb6⟩
                     have T6 : Hid (Below wr.heap.size wr w6') := Lib.hid (by first | with_reducible exact (drewB2 wr).trans (hb6.mono (drewB2 wr).size) | with_reducible exact (drewA2 wr _).trans (hb6.mono (drewA2 wr _).size))
                     have c6 := base_cell hb6
                     have z6 := base_frozen2 hb6))
              all_goals go_wp2_with fail
              all_goals go_meet
              all_goals
                first
                  | exact impA T6.out (by simp) ho1
                  | exact impB T6.out (Nat.le_refl _) (by simp) (blkQ hb6) ho1
                  | (trace_state; sorry)
            case rest =>
            obtain ⟨gx, a', rfl, rfl, hgx, hB8, ho8, hb8⟩ := hcut
            generalize hwc : wc = w10 at *
            have hg8r : g8 < wr.heap.size := HI.out.lt
            have hNA : NeM g8 a' := ho8.ge hg8r
            have HNA := Lib.hid hNA; have HGX := Lib.hid hB8; have HM10 := Lib.hid ho8.rd; have HI10 := Lib.hid (HI.out.next hb8); have HE10 := Lib.hid (HE.out.step hb8); have HQ10 := Lib.hid (HQ.out.next hb8)
            have hneD : D.block ≠ g8 := by
              have h := HQ10.out
              have h2 := HRJ.out
              cases L with
              | nil => simp at h2
              | cons r0 L0 => exact rec_off h HI10.out (img_slices mj a2)
            have HND := Lib.hid hneD
            clear hwc hNA hB8 ho8 hb8 hneD HI HE HQ HM HN HSS HOC t0 t1 t2 t3 t4 t5 t6 t7 t8 t9 t10 t11 t12 t13 t14 t15 t16
            have x0 := (HGX.out).cell 0 _ rfl
            have x1 := (HGX.out).cell 1 _ rfl
            have x2 := (HGX.out).cell 2 _ rfl
            have x3 := (HGX.out).cell 3 _ rfl
            have y0 := (HI10.out).cell 0 _ rfl
            have y1 := (HI10.out).cell 1 _ rfl
            have y2 := (HI10.out).cell 2 _ rfl
            have y3 := (HI10.out).cell 3 _ rfl
            have f0 := HI10.out.fr 0; have f1 := HI10.out.fr 1; have f2 := HI10.out.fr 2; have f3 := HI10.out.fr 3
            go_wp2_with fail
            exact ⟨⟨j + 1, a', by omega, by go_num, HE10.out.set1.set1.set1.set1, by rw [HMK.out]; exact (((HI10.out.set 0 _).set 1 _).set 2 _).set 3 _, by rw [HMK.out]; exact rdM_exc HM10.out HNA.out (fun k _ hk => by repeat rw [Below.heap_setCell _ _ _ _ hk]) (by simp [World.setCell]), HNA.out, rdX_exc HQ10.out (fun A hA => by cases hA; exact HND.out) (fun k _ hk => by repeat rw [Below.heap_setCell _ _ _ _ hk]) (by simp [World.setCell])⟩, by simp [intOf]; omega⟩
          · have hd : decide ((j : Int) < (n : Int)) = false := by simp; omega
            have hjn2 : j = n := by omega
            subst hjn2
            have hme : midR k c i j = stR k c (stOf (i + 1)) := by
              have h := mid_end HSK.out
              rw [HLL.out, HNL.out] at h
              exact h
            rw [hme] at HI HM
            have hph := step_ph hck HSK.out
            rw [HOP.out] at hph
            obtain ⟨E, hqE, _, cE⟩ := HM.out.1.it hph
            clear hme hph
            go_upto_region 22 with fail
            clear hd
            replace cE : ∀ W, Grow.Cl wr.drew W → _ := fun W h => cell_later (Grow.Cl.base h) cE
            have y0 := (HI.out).reg 0 _ rfl
            rw [hqE, (stR_len k c _).1] at y0
            clear hqE
            have s1 := (HALL.out wr HE.out).2.2.2.1.reg _ _ HP2.out
            (refine Grow.wp_region Grow.noPlan Grow.noPlan_stable (by kernel_rfl) (by kernel_rfl) ?_; intro opsq Hopsq)
            repeat (first | (refine Grow.lex_move rfl ?_ rfl ?_; (· first | exact Grow.wanted_none | (rw [Hopsq.out]; rfl)); intro K hK; simp only [Grow.put_lit, Grow.setAt, Grow.eval_lit, Grow.ev]; refine hK _ _ ?_; clear hK K) | (refine Grow.lex_assign rfl ?_ rfl ?_; (· first | exact Grow.wanted_none | (rw [Hopsq.out]; rfl)); intro K hK; simp only [Grow.put_lit, Grow.setAt, Grow.eval_lit, Grow.ev]; refine hK _ _ ?_; clear hK K) | (refine Grow.lex_plain rfl rfl ?_ rfl ?_; (· first | exact Grow.wanted_none | (rw [Hopsq.out]; rfl)); apply Exists.intro; refine ⟨fun wq hCq _ => ?_, ?_⟩; (· (go_wp2_with fail; refine ⟨rfl, Below.refl _ _, ?_⟩; simp only [Grow.getD_lit, Grow.nth]; rfl)); intro K hK; simp only [Grow.put_lit, Grow.setAt]; refine hK _ _ ?_; clear hK K) | (refine Grow.lex_nilCheck rfl rfl ?_ rfl ?_; (· first | exact Grow.wanted_none | (rw [Hopsq.out]; rfl)); intro K hK; simp only [Grow.put_lit, Grow.setAt]; refine hK _ _ ?_; clear hK K) | (refine Grow.lex_skip ?_ ?_; (· (rw [Hopsq.out]; rfl)); intro K hK; simp only [Grow.put_lit, Grow.setAt]; refine hK _ _ ?_; clear hK K))
            (refine Grow.lex_nil ?_; intro w11 hb11 _; replace hb11 := Grow.Cl.base hb11; clear Hopsq opsq)
            have HE11 := Lib.hid (HE.out.step hb11); have HI11 := Lib.hid (HI.out.next hb11); have HM11 := Lib.hid (HM.out.next hb11)
            clear hb11 HE HI HM cE y0 s1
            go_wp2_with fail
            exact ⟨⟨i + 1, a2, by omega, by go_num, HE11.out, HI11.out, HM11.out, HN.out⟩, by simp [intOf]; omega⟩
    · have hd : decide ((i : Int) < 16) = false := by simp; omega
      obtain rfl : i = 16 := by omega
      have hi2 := stR_img (c := c) (s := stOf 16) HVA.out HK.out rfl
      have HFE : Hid (freeF b (stR k c (stOf 16)) = true) := Lib.hid (by unfold freeF; rw [hi2, free_end k (by omega) c hck]; rfl)
      clear hi2
      have k0 := (HALL.out wr HE.out).1.cell 0 _ rfl; have k1 := (HALL.out wr HE.out).1.cell 1 _ rfl; have k2 := (HALL.out wr HE.out).1.cell 2 _ rfl; have k3 := (HALL.out wr HE.out).1.cell 3 _ rfl; have k4 := (HALL.out wr HE.out).1.cell 4 _ rfl; have k5 := (HALL.out wr HE.out).1.cell 5 _ rfl; have k6 := (HALL.out wr HE.out).1.cell 6 _ rfl; have k7 := (HALL.out wr HE.out).1.cell 7 _ rfl
      have y0 := (HI.out).cell 0 _ rfl
      have y1 := (HI.out).cell 1 _ rfl
      have y2 := (HI.out).cell 2 _ rfl
      have y3 := (HI.out).cell 3 _ rfl
      go_wp2_with fail
      have hh := pfree_any b (some ⟨g, 0, none⟩) cap (stR k c (stOf 16)) a wr (by rw [HK.out]; omega) HSL.out (by rw [(stR_len k c _).1]; omega) (by rw [(stR_len k c _).2]; omega) (HALL.out wr HE.out).2.1 HM.out
      rw [HFE.out] at hh
      refine hh.mono ?_
      clear hh
      rintro e w8 ⟨rfl, hb8⟩
      have HW8 := Lib.hid ((HALL.out wr HE.out).2.2.2.2.trans (hb8.mono (HALL.out wr HE.out).2.2.2.2.size))
      clear hb8 k0 k1 k2 k3 k4 k5 k6 k7 y0 y1 y2 y3
      go_wp2_with fail
      refine (sane25_any w8).mono ?_
      rintro e w9 ⟨rfl, hb9⟩
      have HW9 := Lib.hid (HW8.out.trans (hb9.mono HW8.out.size))
      clear hb9
      go_wp2_with fail
      go_ret
      exact ⟨rfl, HW9.out⟩
set_option maxHeartbeats 1000000 in
set_option maxRecDepth 100000 in
theorem phaseRound_lifted (os : Os) (started : os.Started) (H : Type) (enc : TypeId × Value → H) :
    ReturnsInHanded {} Try.checked os 6 .any (Rows.phaseRoundSpec.pre6 enc Try.prog Try.f6 Rows.phaseRoundRow.domain false) (Rows.phaseRoundSpec.post enc Try.prog Try.f6 false true false false) := by
  refine law_lifted (C := Try.checked) own laidOut started (by kernel_rfl) Try.func6 4 rfl Try.underlying4 (by kernel_rfl) rfl H enc
    (fun ds h => by match ds, h with | [d0, d1], _ => rfl)
    (ChangeSpec.witness6 (enc := enc) (C := Try.checked) false ⟨#[], #[.agg #[.int .u8 0, .int .u8 0], .int .u8 0], []⟩ 8 (by kernel_rfl) (by kernel_rfl) (by kernel_rfl) (by kernel_rfl)) ?_
  intro W base args ds ps hval hA hsz
  have hA' : DataW.TrodAll enc Try.prog W 0 (fun _ => true) true Try.f6.params.toList args.toList ds ps := hA
  have hval' : ∀ (j : Nat) t v, Try.f6.params[j]? = some t → args[j]? = some v → Value.okWide Try.prog W .any base t v := hval
  rw [Try.params6] at hA' hval'
  obtain ⟨v0, vs0, d0, ds0, p0, q0, hargs, rfl, rfl, h0, r0⟩ := trodAll_cons hA'
  obtain ⟨v1, vs1, d1, ds1, p1, q1, rfl, rfl, rfl, h1, r1⟩ := trodAll_cons r0
  obtain ⟨rfl, rfl, rfl⟩ := trodAll_nil r1
  obtain rfl : args = #[v0, v1] := by cases args; simp_all
  obtain ⟨m0, t0, rfl, hm0, ht0⟩ := open_b2 (hval' 0 24 v0 rfl rfl) h0
  obtain ⟨x1, rfl, rfl, rfl, wx1⟩ := open_int Try.underlying5 (hval' 1 5 v1 rfl rfl) h1
  (obtain ⟨c0, rfl, hc0⟩ := u8_wf wx1; exact phaseRound_walk m0 t0 c0 W hm0 ht0 hc0)

theorem phaseRound_over : Rows.phaseRoundRow.holds Try.pinned (OpenSpec.ofChange Rows.phaseRoundSpec) :=
  OpenClaim.holds_of_wide 6 Try.f6 rfl rfl rfl rfl rfl rfl rfl ⟨rfl, rfl, rfl, rfl, rfl⟩ rfl rfl rfl rfl rfl (by kernel_rfl) Try.func6 (by kernel_rfl)
    (of_decide_eq_true (by kernel_rfl)) (by unfold Func.isWrapper; first | (rw [if_pos (by decide +kernel)]; kernel_rfl) | (rw [if_neg (by decide +kernel)]; exact ⟨rfl, rfl⟩))
    (fun os started H enc _ => phaseRound_lifted os started H enc)

/-- THE STATEMENT. -/
theorem phaseRound_holds : Rows.PhaseRoundSaid := phaseRound_over
#print axioms phaseRound_holds
end Go.Proofs.Ytgoojlfpngmdlaa
