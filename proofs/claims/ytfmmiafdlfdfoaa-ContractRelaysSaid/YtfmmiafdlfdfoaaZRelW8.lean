/- The walks over overlayref05's Decode and overlayref17's Promise. Conditions: those of each theorem. -/
import Derived.Test.YtfmmiafdlfdfoaaZRelW7
import Derived.Test.YtfmmiafdlfdfoaaZRelD
namespace Go.Proofs.Ytfmmiafdlfdfoaa
namespace Rel
open Go.RowKit
set_option maxHeartbeats 4000000 in
theorem decode_any (n : Int) (x : BitVec 32) (fo dr dor : Int) (w : World) (HF : Hid (∀ W, Calls Try.prog 39 #[.int .i64 n, .int .u32 (x.toNat : Int)] W fun e w' => e = .returned (.int .i64 fo) ∧ Below W.heap.size W w')) (hdr : dr = 0 ∨ dr = 1 ∨ dr = 2) (hdo : dor = 0 ∨ dor = 1 ∨ dor = 2) :
    Calls Try.prog 26 #[.int .i64 n, .agg #[.int .u32 (x.toNat : Int), .bool (dr == 1), .bool (dr == 2), .bool (dor == 1), .bool (dor == 2)]] w fun e w' => e = .returned (.agg #[.int .i64 fo, .int .i64 dr, .int .i64 dor]) ∧ Below w.heap.size w w' := by
  obtain ⟨p1, hp1⟩ : ∃ y, (dr == 1) = y := ⟨_, rfl⟩
  obtain ⟨p2, hp2⟩ : ∃ y, (dr == 2) = y := ⟨_, rfl⟩
  obtain ⟨p3, hp3⟩ : ∃ y, (dor == 1) = y := ⟨_, rfl⟩
  obtain ⟨p4, hp4⟩ : ∃ y, (dor == 2) = y := ⟨_, rfl⟩
  rw [hp1, hp2, hp3, hp4]
  have H1 : Hid ((p1 = false ∧ p2 = false ∧ dr = 0) ∨ (p1 = true ∧ p2 = false ∧ dr = 1) ∨ (p1 = false ∧ p2 = true ∧ dr = 2)) := Lib.hid (by rcases hdr with rfl | rfl | rfl <;> simp at hp1 hp2 <;> simp [hp1, hp2])
  have H2 : Hid ((p3 = false ∧ p4 = false ∧ dor = 0) ∨ (p3 = true ∧ p4 = false ∧ dor = 1) ∨ (p3 = false ∧ p4 = true ∧ dor = 2)) := Lib.hid (by rcases hdo with rfl | rfl | rfl <;> simp at hp3 hp4 <;> simp [hp3, hp4])
  clear hp1 hp2 hp3 hp4 hdr hdo
  have X0 : Blk (w.alloc (.cells #[.int .u32 (x.toNat : Int), .bool p1, .bool p2, .bool p3, .bool p4] 64)) w.heap.size [.int .u32 (x.toNat : Int), .bool p1, .bool p2, .bool p3, .bool p4] := by
    have hx := Blk.new w [.int .u32 (x.toNat : Int), .bool p1, .bool p2, .bool p3, .bool p4] 64
    exact hx
  replace X0 : Blk ((w.alloc (.cells #[.int .u32 (x.toNat : Int), .bool p1, .bool p2, .bool p3, .bool p4] 64)).alloc (.cells #[.int .i64 0, .int .i64 0, .int .i64 0] 49)) w.heap.size [.int .u32 (x.toNat : Int), .bool p1, .bool p2, .bool p3, .bool p4] := X0.next (below1' _ _)
  have X1 : Blk ((w.alloc (.cells #[.int .u32 (x.toNat : Int), .bool p1, .bool p2, .bool p3, .bool p4] 64)).alloc (.cells #[.int .i64 0, .int .i64 0, .int .i64 0] 49)) (w.heap.size + 1) [.int .i64 0, .int .i64 0, .int .i64 0] := by
    have hx := Blk.new (w.alloc (.cells #[.int .u32 (x.toNat : Int), .bool p1, .bool p2, .bool p3, .bool p4] 64)) [.int .i64 0, .int .i64 0, .int .i64 0] 49
    rw [World.size_alloc] at hx
    exact hx
  have XW : Below w.heap.size w (w.alloc (.cells #[.int .u32 (x.toNat : Int), .bool p1, .bool p2, .bool p3, .bool p4] 64)) := below1' w _
  replace XW : Below w.heap.size w ((w.alloc (.cells #[.int .u32 (x.toNat : Int), .bool p1, .bool p2, .bool p3, .bool p4] 64)).alloc (.cells #[.int .i64 0, .int .i64 0, .int .i64 0] 49)) := XW.trans ((below1' _ _).mono XW.size)
  have HWW := Lib.hid XW; have HX0 := Lib.hid X0; have HX1 := Lib.hid X1
  clear XW X0 X1
  go_enter Try.func26, Try.ntmps26
  go_upto_region 1 with fail
  generalize ((w.alloc (.cells #[.int .u32 (x.toNat : Int), .bool p1, .bool p2, .bool p3, .bool p4] 64)).alloc (.cells #[.int .i64 0, .int .i64 0, .int .i64 0] 49)) = w0 at *
  generalize hg1 : w.heap.size + 1 = g1 at *
  have HG1 := Lib.hid hg1; have hq1 : w.heap.size + 1 ≤ g1 := by omega
  clear hg1
  have HW := Lib.hid (Below.refl w0.heap.size w0)
  have hz0 := HX0.out.lt; have hz1 := HX1.out.lt
  have hg01 : w.heap.size ≤ g1 := by omega
  have k0 := (HX0.out).cell 0 _ rfl
  have k1 := (HX0.out).cell 1 _ rfl
  have k2 := (HX0.out).cell 2 _ rfl
  have k3 := (HX0.out).cell 3 _ rfl
  have k4 := (HX0.out).cell 4 _ rfl
  go_wp2_with fail
  refine (HF.out w0).mono ?_
  rintro e w1 ⟨rfl, hb1⟩
  have HA1 := Lib.hid (HX0.out.next hb1); have HB1 := Lib.hid (HX1.out.next hb1); have HW1 := Lib.hid (HWW.out.trans (hb1.mono HWW.out.size))
  clear hb1 k0 k1 k2 k3 k4 HX0 HX1 HWW HW hz0 hz1
  go_upto_block 0 with fail
  have BT := Blk.new w1 [.int .i64 fo, .int .i64 0, .int .i64 0] 49
  have hbt := below1' w1 (.cells #[.int .i64 fo, .int .i64 0, .int .i64 0] 49)
  change Blk (w1.alloc (.cells #[.int .i64 fo, .int .i64 0, .int .i64 0] 49)) _ _ at BT
  have hgA : w.heap.size < w1.heap.size := HA1.out.lt
  have hgB : g1 < w1.heap.size := HB1.out.lt
  have HT := Lib.hid BT; have HA2 := Lib.hid (HA1.out.next hbt); have HB2 := Lib.hid (HB1.out.next hbt); have HW2 := Lib.hid (HW1.out.trans (hbt.mono HW1.out.size))
  clear BT hbt HA1 HB1 HW1
  generalize w1.alloc (.cells #[.int .i64 fo, .int .i64 0, .int .i64 0] 49) = w2 at *
  generalize w1.heap.size = gt at *
  have HB0 := Lib.hid (Below.refl gt w2)
  have HALL : Hid (∀ W, Below gt w2 W → Blk W w.heap.size [.int .u32 (x.toNat : Int), .bool p1, .bool p2, .bool p3, .bool p4] ∧ Blk W g1 [.int .i64 0, .int .i64 0, .int .i64 0] ∧ Below w.heap.size w W) := Lib.hid fun W h => ⟨HA2.out.later h hgA, HB2.out.later h hgB, HW2.out.trans (h.mono (Nat.le_of_lt hgA))⟩
  clear HA2 HB2 HW2
  go_cut [] from 11 to 26 (fun wx => Blk wx gt [.int .i64 fo, .int .i64 dr, .int .i64 0] ∧ Below gt w2 wx)
  case first =>
    have A2 := (HALL.out w2 HB0.out).1
    have k0 := (A2).cell 0 _ rfl
    have k1 := (A2).cell 1 _ rfl
    have k2 := (A2).cell 2 _ rfl
    have k3 := (A2).cell 3 _ rfl
    have k4 := (A2).cell 4 _ rfl
    clear A2
    have z1 := HT.out.cell 1 _ rfl
    have f1 := HT.out.fr 1
    rcases H1.out with ⟨rfl, rfl, hd⟩ | ⟨rfl, rfl, hd⟩ | ⟨rfl, rfl, hd⟩
    · have HD := Lib.hid hd
      clear hd H1
      go_wp2_with fail
      go_meet
      exact ⟨by rw [HD.out]; exact HT.out, HB0.out⟩
    · have HD := Lib.hid hd
      clear hd H1
      go_wp2_with fail
      go_meet
      exact ⟨by rw [HD.out]; exact HT.out.set 1 (.int .i64 1), HB0.out.setCell (p := ⟨gt, 1, none⟩) (Nat.le_refl _) (.int .i64 1)⟩
    · have HD := Lib.hid hd
      clear hd H1
      go_wp2_with fail
      go_meet
      exact ⟨by rw [HD.out]; exact HT.out.set 1 (.int .i64 2), HB0.out.setCell (p := ⟨gt, 1, none⟩) (Nat.le_refl _) (.int .i64 2)⟩
  case rest =>
  obtain ⟨hT, hB⟩ := hcut
  generalize wc = w3 at *
  have HT3 := Lib.hid hT; have HB3 := Lib.hid hB
  clear hT hB HT HB0 H1
  go_upto_block 1 with fail
  go_cut [] from 27 to 42 (fun wx => Blk wx gt [.int .i64 fo, .int .i64 dr, .int .i64 dor] ∧ Below gt w2 wx)
  case first =>
    have A2 := (HALL.out w3 HB3.out).1
    have k0 := (A2).cell 0 _ rfl
    have k1 := (A2).cell 1 _ rfl
    have k2 := (A2).cell 2 _ rfl
    have k3 := (A2).cell 3 _ rfl
    have k4 := (A2).cell 4 _ rfl
    clear A2
    have z2 := HT3.out.cell 2 _ rfl
    have f2 := HT3.out.fr 2
    rcases H2.out with ⟨rfl, rfl, hd⟩ | ⟨rfl, rfl, hd⟩ | ⟨rfl, rfl, hd⟩
    · have HD := Lib.hid hd
      clear hd H2
      go_wp2_with fail
      go_meet
      exact ⟨by rw [HD.out]; exact HT3.out, HB3.out⟩
    · have HD := Lib.hid hd
      clear hd H2
      go_wp2_with fail
      go_meet
      exact ⟨by rw [HD.out]; exact HT3.out.set 2 (.int .i64 1), HB3.out.setCell (p := ⟨gt, 2, none⟩) (Nat.le_refl _) (.int .i64 1)⟩
    · have HD := Lib.hid hd
      clear hd H2
      go_wp2_with fail
      go_meet
      exact ⟨by rw [HD.out]; exact HT3.out.set 2 (.int .i64 2), HB3.out.setCell (p := ⟨gt, 2, none⟩) (Nat.le_refl _) (.int .i64 2)⟩
  case rest =>
  obtain ⟨hT, hB⟩ := hcut
  generalize wc = w4 at *
  have HT4 := Lib.hid hT; have HB4 := Lib.hid (HALL.out w4 hB).2.1; have HW4 := Lib.hid (HALL.out w4 hB).2.2
  clear hT hB HT3 HB3 H2
  have z0 := (HT4.out).cell 0 _ rfl
  have z1 := (HT4.out).cell 1 _ rfl
  have z2 := (HT4.out).cell 2 _ rfl
  have f0 := HB4.out.fr 0; have f1 := HB4.out.fr 1; have f2 := HB4.out.fr 2
  have j0 := (HB4.out).cell 0 _ rfl
  have j1 := (HB4.out).cell 1 _ rfl
  have j2 := (HB4.out).cell 2 _ rfl
  go_wp2_with fail
  have R3 := ((HB4.out.set 0 (.int .i64 fo)).set 1 (.int .i64 dr)).set 2 (.int .i64 dor)
  have r0 := (R3).cell 0 _ rfl
  have r1 := (R3).cell 1 _ rfl
  have r2 := (R3).cell 2 _ rfl
  exact bodyPost_ret (v := .agg #[.int .i64 fo, .int .i64 dr, .int .i64 dor]) (by simp [results, Try.results26, go_sem, r0, r1, r2]) rfl ⟨rfl, low3 HW4.out hg01 _ _ _⟩
theorem rdC_zero {w : World} {g : Nat} {l : List CarV} {c : CarV} (h : RdC w (some ⟨g, 0, none⟩) l) (hc : l[0]? = some c) : ∀ j u, c.cells[j]? = some u → w.cell? ⟨g, j, none⟩ = some u := by
  intro j u hu
  obtain ⟨A, hA, _, hcell⟩ := h 0 c hc
  obtain rfl : (⟨g, 0, none⟩ : Addr) = A := by simpa using hA
  have := hcell j u hu
  by_cases hj : j = 0
  · subst hj; simpa [Addr.add] using this
  · simpa [Addr.add, hj] using this
set_option maxHeartbeats 4000000 in
theorem promise_any (b : BldV) (g : Nat) (cap : Nat) (c : CarV) (w : World) (hv : validN b = 0) (hc0 : b.cars[0]? = some c) (hc : (1 ≤ c.st ∧ c.st ≤ 10000) ∧ (1 ≤ c.tr ∧ c.tr ≤ 10000) ∧ (1 ≤ c.dw ∧ c.dw ≤ 10000)) (hlen : b.cars.length ≤ 1000) (hsl : ∀ c ∈ b.cars, -9223372036854775808 ≤ c.sl ∧ c.sl < 9223372036854775807) (hf : 2 ≤ b.fl ∧ b.fl ≤ 31) (hr : RdC w (some ⟨g, 0, none⟩) b.cars) :
    Calls Try.prog 24 #[cvB b (some ⟨g, 0, none⟩) cap, .int .i64 0] w fun e w' => e = .returned (.int .i64 (promise b.fl ⟨c.st, c.tr, c.dw⟩)) ∧ Below w.heap.size w w' := by
  have HVA : Hid (∀ W, RdC W (some ⟨g, 0, none⟩) b.cars → Calls Try.prog 38 #[cvB b (some ⟨g, 0, none⟩) cap] W fun e w' => e = .returned (.int .i64 0) ∧ Below W.heap.size W w') := Lib.hid fun W h => by
    have hh := refValid_any b (some ⟨g, 0, none⟩) cap W (by unfold maxLen; omega) hsl h
    rw [hv] at hh
    exact hh
  obtain ⟨⟨a1, a2⟩, ⟨a3, a4⟩, a5, a6⟩ := hc
  obtain ⟨hf1, hf2⟩ := hf
  have HP : Hid (promise b.fl ⟨c.st, c.tr, c.dw⟩ = (3 * b.fl + 1) * (3 * (2 * c.tr + c.dw) + c.st + 2)) := Lib.hid rfl
  obtain ⟨P, hP⟩ : ∃ P, promise b.fl ⟨c.st, c.tr, c.dw⟩ = P := ⟨_, rfl⟩
  rw [hP] at HP ⊢
  clear hP
  have hcl : 0 < b.cars.length := (List.getElem?_eq_some_iff.1 hc0).1
  have hm1 : 0 ≤ (3 * b.fl + 1) * (3 * (2 * c.tr + c.dw) + c.st + 2) := Int.mul_nonneg (by omega) (by omega)
  have hm2 : (3 * b.fl + 1) * (3 * (2 * c.tr + c.dw) + c.st + 2) ≤ 94 * 100002 := Int.le_trans (Int.mul_le_mul_of_nonneg_right (show 3 * b.fl + 1 ≤ 94 by omega) (by omega)) (Int.mul_le_mul_of_nonneg_left (by omega) (by decide))
  have HC0 := Lib.hid hc0
  have X0 : Blk (w.alloc (.cells #[.int .i64 b.fl, .int .i64 b.deb, .int .i64 b.room, .int .i64 b.park, .float .f64 b.em, .float .f64 b.fu, .float .f64 b.ov, .slice (some ⟨g, 0, none⟩) b.cars.length cap] 29)) w.heap.size [.int .i64 b.fl, .int .i64 b.deb, .int .i64 b.room, .int .i64 b.park, .float .f64 b.em, .float .f64 b.fu, .float .f64 b.ov, .slice (some ⟨g, 0, none⟩) b.cars.length cap] := by
    have hx := Blk.new w [.int .i64 b.fl, .int .i64 b.deb, .int .i64 b.room, .int .i64 b.park, .float .f64 b.em, .float .f64 b.fu, .float .f64 b.ov, .slice (some ⟨g, 0, none⟩) b.cars.length cap] 29
    exact hx
  have XW : Below w.heap.size w (w.alloc (.cells #[.int .i64 b.fl, .int .i64 b.deb, .int .i64 b.room, .int .i64 b.park, .float .f64 b.em, .float .f64 b.fu, .float .f64 b.ov, .slice (some ⟨g, 0, none⟩) b.cars.length cap] 29)) := below1' w _
  have HWW := Lib.hid XW; have HX0 := Lib.hid X0
  clear XW X0
  have HR := Lib.hid (hr.next HWW.out)
  clear hr hv hlen hsl hc0
  go_enter Try.func24, Try.ntmps24
  go_upto_region 1 with fail
  generalize (w.alloc (.cells #[.int .i64 b.fl, .int .i64 b.deb, .int .i64 b.room, .int .i64 b.park, .float .f64 b.em, .float .f64 b.fu, .float .f64 b.ov, .slice (some ⟨g, 0, none⟩) b.cars.length cap] 29)) = w0 at *
  have HW := Lib.hid (Below.refl w0.heap.size w0)
  have hz0 := HX0.out.lt
  have k0 := (HX0.out).cell 0 _ rfl
  have k1 := (HX0.out).cell 1 _ rfl
  have k2 := (HX0.out).cell 2 _ rfl
  have k3 := (HX0.out).cell 3 _ rfl
  have k4 := (HX0.out).cell 4 _ rfl
  have k5 := (HX0.out).cell 5 _ rfl
  have k6 := (HX0.out).cell 6 _ rfl
  have k7 := (HX0.out).cell 7 _ rfl
  have HVA0 := HVA.out w0 HR.out
  dsimp only [cvB] at HVA0
  have HVA1 := Lib.hid HVA0
  clear HVA0 HVA
  obtain ⟨nc, hnc⟩ : ∃ nc, b.cars.length = nc := ⟨_, rfl⟩
  rw [hnc] at hcl k7 HX0 HVA1
  have HNC := Lib.hid hnc
  clear hnc
  have hd2 : decide ((nc : Int) ≤ 0) = false := decide_eq_false (by omega)
  have hnc0 : (0 : Int) < (nc : Int) := by omega
  go_wp2_with fail
  refine HVA1.out.mono ?_
  rintro e w1 ⟨rfl, hb1⟩
  have HA1 := Lib.hid (HX0.out.next hb1); have HR1 := Lib.hid (HR.out.next hb1); have HW1 := Lib.hid (HWW.out.trans (hb1.mono HWW.out.size))
  clear hb1 k0 k1 k2 k3 k4 k5 k6 k7 HX0 HR HWW HW hz0
  have hcl2 := rdC_zero HR1.out HC0.out
  have e0 := hcl2 0 _ rfl; have e1 := hcl2 1 _ rfl; have e2 := hcl2 2 _ rfl; have e3 := hcl2 3 _ rfl; have e4 := hcl2 4 _ rfl; have e5 := hcl2 5 _ rfl; have e6 := hcl2 6 _ rfl; have e7 := hcl2 7 _ rfl; have e8 := hcl2 8 _ rfl
  clear hcl2
  have hgW : w.heap.size < w1.heap.size := HA1.out.lt
  have k0 := (HA1.out).cell 0 _ rfl
  have k1 := (HA1.out).cell 1 _ rfl
  have k2 := (HA1.out).cell 2 _ rfl
  have k3 := (HA1.out).cell 3 _ rfl
  have k4 := (HA1.out).cell 4 _ rfl
  have k5 := (HA1.out).cell 5 _ rfl
  have k6 := (HA1.out).cell 6 _ rfl
  have k7 := (HA1.out).cell 7 _ rfl
  have hwc := rdC_zero HR1.out HC0.out
  go_upto_region 4 with fail
  clear e0 e1 e2 e3 e4 e5 e6 e7 e8 k0 k1 k2 k3 k4 k5 k6 k7 hwc
  have BT := Blk.new w1 c.cells 40
  have hbt := below1' w1 (.cells c.cells.toArray 40)
  have HT := Lib.hid BT; have HA2 := Lib.hid (HA1.out.next hbt); have HW2 := Lib.hid (HW1.out.trans (hbt.mono HW1.out.size))
  clear BT hbt HA1 HW1
  change Hid (Blk (w1.alloc (.cells #[.int .i64 c.dl, .int .i64 c.pu, .int .i64 c.qu, .int .i64 c.sl, .int .i64 c.st, .int .i64 c.tr, .int .i64 c.dw, .int .i64 c.ho, .int .i64 c.hm] 40)) _ _) at HT
  change Hid (Blk (w1.alloc (.cells #[.int .i64 c.dl, .int .i64 c.pu, .int .i64 c.qu, .int .i64 c.sl, .int .i64 c.st, .int .i64 c.tr, .int .i64 c.dw, .int .i64 c.ho, .int .i64 c.hm] 40)) _ _) at HA2
  change Hid (Below _ _ (w1.alloc (.cells #[.int .i64 c.dl, .int .i64 c.pu, .int .i64 c.qu, .int .i64 c.sl, .int .i64 c.st, .int .i64 c.tr, .int .i64 c.dw, .int .i64 c.ho, .int .i64 c.hm] 40))) at HW2
  generalize w1.alloc (.cells #[.int .i64 c.dl, .int .i64 c.pu, .int .i64 c.qu, .int .i64 c.sl, .int .i64 c.st, .int .i64 c.tr, .int .i64 c.dw, .int .i64 c.ho, .int .i64 c.hm] 40) = w2 at *
  generalize w1.heap.size = gt at *
  have e0 := (HT.out).cell 0 _ rfl
  have e1 := (HT.out).cell 1 _ rfl
  have e2 := (HT.out).cell 2 _ rfl
  have e3 := (HT.out).cell 3 _ rfl
  have e4 := (HT.out).cell 4 _ rfl
  have e5 := (HT.out).cell 5 _ rfl
  have e6 := (HT.out).cell 6 _ rfl
  have e7 := (HT.out).cell 7 _ rfl
  have e8 := (HT.out).cell 8 _ rfl
  have k0 := (HA2.out).cell 0 _ rfl
  have k1 := (HA2.out).cell 1 _ rfl
  have k2 := (HA2.out).cell 2 _ rfl
  have k3 := (HA2.out).cell 3 _ rfl
  have k4 := (HA2.out).cell 4 _ rfl
  have k5 := (HA2.out).cell 5 _ rfl
  have k6 := (HA2.out).cell 6 _ rfl
  have k7 := (HA2.out).cell 7 _ rfl
  go_wp2_with fail
  go_ret
  exact ⟨by rw [HP.out]; go_num, HW2.out⟩
end Rel
end Go.Proofs.Ytfmmiafdlfdfoaa
