/- The sanity check of chapter 25 answers true. Conditions: none. -/
import Derived.Test.YtgoojlfpngmdlaaZOrder
import Derived.Test.YtgoojlfpngmdlaaZAutoR
import Derived.Test.YtgoojlfpngmdlaaZBld10
import Derived.Test.YtgoojlfpngmdlaaZOwnM
import Derived.Test.YtgoojlfpngmdlaaZImage
import Derived.Test.YtgoojlfpngmdlaaZEdge
namespace Go.Proofs.Ytgoojlfpngmdlaa
open Go.RowKit
attribute [local go_sem] run_store_float
def m25 : ImgV := { imgI (b10 9 90) with ph := [1, 0] }
theorem s25_order : orderF (b10 9 90) (imgI (b10 9 90)) 1 0 [true, true] = ([recP 0 1], 0) := by decide +kernel
theorem s25_busy : orderF (b10 9 90) m25 1 1 [true, true] = ([], 261) := by decide +kernel
theorem s25_auto : autoF (b10 9 90) m25 [true, true] = [recP 0 2] := by decide +kernel
theorem s25_ready : readyB m25 0 = false ∧ servB m25 0 = true := by decide +kernel
theorem s25_len : (imgI (b10 9 90)).ph.length = 2 ∧ (imgI (b10 9 90)).fg.length = 2 ∧ (imgI (b10 9 90)).lv.length = 2 ∧ (imgI (b10 9 90)).en.length = 0 ∧ m25.ph.length = 2 := by decide +kernel
/-- Records do not lie where an image lies. -/
theorem rec_off {w : World} {A : Addr} {r : R5} {L : List R5} {g : Nat} {xs : List Value} (h : RdX w (some A) (recCells (r :: L))) (hB : Blk w g xs) (hx : ∀ v ∈ xs, ∀ n, v ≠ .int .i64 n) : A.block ≠ g := by
  intro e
  obtain ⟨A', hA, _, hc⟩ := h 0 (.int .i64 r.1) rfl
  obtain rfl : A = A' := by simpa using hA
  obtain ⟨t, hB⟩ := hB
  simp only [Addr.add, if_true, World.cell?, e, hB] at hc
  split at hc
  · cases hc
  · have hm := List.mem_of_getElem? (l := xs) (by simpa using hc)
    exact hx _ hm _ rfl
theorem img_slices (m : ImgV) (a : ImgA) : ∀ v ∈ ([.slice a.p m.ph.length a.pc, .slice a.f m.fg.length a.fc, .slice a.l m.lv.length a.lc, .slice a.e m.en.length a.ec] : List Value), ∀ n, v ≠ .int .i64 n := by
  intro v hv n
  simp only [List.mem_cons, List.not_mem_nil, or_false] at hv
  rcases hv with rfl | rfl | rfl | rfl <;> simp
set_option maxHeartbeats 4000000 in
set_option maxRecDepth 100000 in
theorem sane25_any (w : World) :
    Calls Try.prog 9 #[] w fun e w' => e = .returned (.bool true) ∧ Below w.heap.size w w' := by
  go_enter Try.func9, Try.ntmps9
  go_wp2_with fail
  have hB := b10_any 9 90 w (by omega) (by omega)
  change Calls _ _ #[.int .u8 9, .int .u8 90] _ _ at hB
  refine hB.mono ?_
  clear hB
  rintro e w1 ⟨g, cap, rfl, hg0, hg1, hr, hb⟩
  have HSL := Lib.hid (slack10 9 90)
  have HLC : Hid ((b10 9 90).cars.length = 2) := Lib.hid (by rw [cars10_len]; rfl)
  have HO1 := Lib.hid s25_order; have HO2 := Lib.hid s25_busy; have HA := Lib.hid s25_auto; have HRS := Lib.hid s25_ready; have HLEN := Lib.hid s25_len
  have HMM : Hid (m25 = { imgI (b10 9 90) with ph := [1, 0] }) := Lib.hid rfl
  have HR1 := Lib.hid hr; have HB1 := Lib.hid hb
  clear hr hb
  generalize hmi : imgI (b10 9 90) = mI at *
  generalize m25 = m2 at *
  have HMI := Lib.hid hmi
  clear hmi
  generalize b10 9 90 = b at *
  go_upto_region 2 with fail
  have B5 := Blk.new w1 [.int .i64 b.fl, .int .i64 b.deb, .int .i64 b.room, .int .i64 b.park, .float .f64 b.em, .float .f64 b.fu, .float .f64 b.ov, .slice (some ⟨g, 0, none⟩) b.cars.length cap] 29
  have hb5 := below1' w1 (.cells #[.int .i64 b.fl, .int .i64 b.deb, .int .i64 b.room, .int .i64 b.park, .float .f64 b.em, .float .f64 b.fu, .float .f64 b.ov, .slice (some ⟨g, 0, none⟩) b.cars.length cap] 29)
  change Blk (w1.alloc (.cells #[.int .i64 b.fl, .int .i64 b.deb, .int .i64 b.room, .int .i64 b.park, .float .f64 b.em, .float .f64 b.fu, .float .f64 b.ov, .slice (some ⟨g, 0, none⟩) b.cars.length cap] 29)) _ _ at B5
  have HW2 := Lib.hid (HB1.out.trans (hb5.mono HB1.out.size))
  have HR2 := Lib.hid (HR1.out.next hb5)
  have HX2 := Lib.hid B5
  clear B5 hb5 HB1 HR1
  generalize w1.alloc (.cells #[.int .i64 b.fl, .int .i64 b.deb, .int .i64 b.room, .int .i64 b.park, .float .f64 b.em, .float .f64 b.fu, .float .f64 b.ov, .slice (some ⟨g, 0, none⟩) b.cars.length cap] 29) = w2 at *
  generalize w1.heap.size = g5 at *
  have k0 := (HX2.out).cell 0 _ rfl
  have k1 := (HX2.out).cell 1 _ rfl
  have k2 := (HX2.out).cell 2 _ rfl
  have k3 := (HX2.out).cell 3 _ rfl
  have k4 := (HX2.out).cell 4 _ rfl
  have k5 := (HX2.out).cell 5 _ rfl
  have k6 := (HX2.out).cell 6 _ rfl
  have k7 := (HX2.out).cell 7 _ rfl
  go_wp2_with fail
  refine (initial_any b (some ⟨g, 0, none⟩) cap w2 (by rw [HLC.out]; decide) HSL.out HR2.out).mono ?_
  rw [HMI.out]
  rintro e w3 ⟨a, rfl, hM, hb3⟩
  have HM3 := Lib.hid hM.rd; have HX3 := Lib.hid (HX2.out.next hb3); have HR3 := Lib.hid (HR2.out.next hb3); have HW3 := Lib.hid (HW2.out.trans (hb3.mono HW2.out.size))
  clear hM hb3 HX2 HR2 HW2 k0 k1 k2 k3 k4 k5 k6 k7
  have HALL : Hid (∀ W, Below w3.heap.size w3 W → Blk W g5 [.int .i64 b.fl, .int .i64 b.deb, .int .i64 b.room, .int .i64 b.park, .float .f64 b.em, .float .f64 b.fu, .float .f64 b.ov, .slice (some ⟨g, 0, none⟩) b.cars.length cap] ∧ RdC W (some ⟨g, 0, none⟩) b.cars ∧ RdM W mI a ∧ Below w.heap.size w W) := Lib.hid fun W h => ⟨HX3.out.next h, HR3.out.next h, HM3.out.next h, HW3.out.trans (h.mono HW3.out.size)⟩
  clear HM3 HX3 HR3 HW3
  go_upto_region 3 with fail
  have BI := Blk.new w3 [.slice a.p mI.ph.length a.pc, .slice a.f mI.fg.length a.fc, .slice a.l mI.lv.length a.lc, .slice a.e mI.en.length a.ec] 35
  have hb4 := below1' w3 (.cells #[.slice a.p mI.ph.length a.pc, .slice a.f mI.fg.length a.fc, .slice a.l mI.lv.length a.lc, .slice a.e mI.en.length a.ec] 35)
  change Blk (w3.alloc (.cells #[.slice a.p mI.ph.length a.pc, .slice a.f mI.fg.length a.fc, .slice a.l mI.lv.length a.lc, .slice a.e mI.en.length a.ec] 35)) _ _ at BI
  have HI4 := Lib.hid BI; have HB4 := Lib.hid hb4
  clear BI hb4
  generalize w3.alloc (.cells #[.slice a.p mI.ph.length a.pc, .slice a.f mI.fg.length a.fc, .slice a.l mI.lv.length a.lc, .slice a.e mI.en.length a.ec] 35) = w4 at *
  obtain ⟨g4, hg4⟩ : ∃ g4, w3.heap.size = g4 := ⟨_, rfl⟩
  rw [hg4] at HI4
  go_upto_region 4 with fail
  have BC := Blk.new w4 [.bool true, .bool true] 4
  have hb5 := below1' w4 (.cells #[.bool true, .bool true] 4)
  change Blk (w4.alloc (.cells #[.bool true, .bool true] 4)) _ _ at BC
  have HC5 := Lib.hid BC; have HI5 := Lib.hid (HI4.out.next hb5); have HB5 := Lib.hid (HB4.out.trans (hb5.mono HB4.out.size))
  have hg64 : w3.heap.size < w4.heap.size := by have := HI4.out.lt; omega
  clear BC hb5 HI4 HB4
  generalize w4.alloc (.cells #[.bool true, .bool true] 4) = w5 at *
  generalize w4.heap.size = g6 at *
  rw [hg4]
  have hne : g6 ≠ g4 := by omega
  have HG4 := Lib.hid hg4
  clear hg4
  have k0 := (HALL.out w5 HB5.out).1.cell 0 _ rfl; have k1 := (HALL.out w5 HB5.out).1.cell 1 _ rfl; have k2 := (HALL.out w5 HB5.out).1.cell 2 _ rfl; have k3 := (HALL.out w5 HB5.out).1.cell 3 _ rfl; have k4 := (HALL.out w5 HB5.out).1.cell 4 _ rfl; have k5 := (HALL.out w5 HB5.out).1.cell 5 _ rfl; have k6 := (HALL.out w5 HB5.out).1.cell 6 _ rfl; have k7 := (HALL.out w5 HB5.out).1.cell 7 _ rfl
  have y0 := (HI5.out).cell 0 _ rfl
  have y1 := (HI5.out).cell 1 _ rfl
  have y2 := (HI5.out).cell 2 _ rfl
  have y3 := (HI5.out).cell 3 _ rfl
  go_wp2_with fail
  have hh := order_any b (some ⟨g, 0, none⟩) cap mI a 1 0 [true, true] (some ⟨g6, 0, none⟩) 2 w5 (by rw [HLC.out]; decide) HSL.out (by rw [HLEN.out.1]; decide) (by rw [HLEN.out.2.2.2.1]; decide) (HALL.out w5 HB5.out).2.1 (HALL.out w5 HB5.out).2.2.1 (rdX_of_blk HC5.out)
  rw [HO1.out] at hh
  refine hh.mono ?_
  clear hh
  rintro e w6 ⟨v, rfl, hb6, q1, c1, rfl, hr1⟩
  obtain ⟨A1, hA1, _, _⟩ := hr1 0 _ rfl
  subst hA1
  have HQ1 := Lib.hid hr1; have HI6 := Lib.hid (HI5.out.next hb6); have HC6 := Lib.hid (HC5.out.next hb6); have HB6 := Lib.hid (HB5.out.trans (hb6.mono HB5.out.size))
  clear hr1 hb6 HI5 HC5 HB5 k0 k1 k2 k3 k4 k5 k6 k7 y0 y1 y2 y3
  have hg7 : g4 < w6.heap.size := HI6.out.lt
  have y0 := HI6.out.cell 0 _ rfl
  have f0 := HI6.out.fr 0
  go_upto_region 6 with fail
  clear y0 f0
  have hq0 : ((w6.setCell ⟨g4, 0, none⟩ (.slice (some ⟨w6.heap.size, 0, none⟩) 2 2)).heap.size) = w6.heap.size := by simp [World.setCell]
  have hb8 := below1' (w6.setCell ⟨g4, 0, none⟩ (.slice (some ⟨w6.heap.size, 0, none⟩) 2 2)) (.cells #[.int .i64 1, .int .i64 0] 3)
  have hP8 := Blk.new (w6.setCell ⟨g4, 0, none⟩ (.slice (some ⟨w6.heap.size, 0, none⟩) 2 2)) [.int .i64 1, .int .i64 0] 3
  rw [hq0] at hP8
  change Blk ((w6.setCell ⟨g4, 0, none⟩ (.slice (some ⟨w6.heap.size, 0, none⟩) 2 2)).alloc (.cells #[.int .i64 1, .int .i64 0] 3)) _ _ at hP8
  have hI8 := (HI6.out.set 0 (.slice (some ⟨w6.heap.size, 0, none⟩) 2 2)).next hb8
  have hC8 := (HC6.out.other hne (i := 0) (.slice (some ⟨w6.heap.size, 0, none⟩) 2 2)).next hb8
  have hQ8 := (rdX_exc (w' := w6.setCell ⟨g4, 0, none⟩ (.slice (some ⟨w6.heap.size, 0, none⟩) 2 2)) HQ1.out (fun A hA => by cases hA; exact rec_off HQ1.out HI6.out (img_slices mI a)) (fun k _ hk => Below.heap_setCell _ _ _ _ hk) (by simp [World.setCell])).next hb8
  have hB7 := HB6.out.setCell (p := ⟨g4, 0, none⟩) (by rw [HG4.out]; exact Nat.le_refl _) (.slice (some ⟨w6.heap.size, 0, none⟩) 2 2)
  have hB8 := hB7.trans (hb8.mono hB7.size)
  clear hb8 hB7 hq0
  generalize (w6.setCell ⟨g4, 0, none⟩ (.slice (some ⟨w6.heap.size, 0, none⟩) 2 2)).alloc (.cells #[.int .i64 1, .int .i64 0] 3) = w8 at *
  generalize w6.heap.size = g7 at *
  obtain rfl := HMM.out
  have HALL2 : Hid (∀ W, Below w8.heap.size w8 W → Blk W g5 [.int .i64 b.fl, .int .i64 b.deb, .int .i64 b.room, .int .i64 b.park, .float .f64 b.em, .float .f64 b.fu, .float .f64 b.ov, .slice (some ⟨g, 0, none⟩) b.cars.length cap] ∧ RdC W (some ⟨g, 0, none⟩) b.cars ∧ Blk W g4 [.slice (some ⟨g7, 0, none⟩) 2 2, .slice a.f mI.fg.length a.fc, .slice a.l mI.lv.length a.lc, .slice a.e mI.en.length a.ec] ∧ RdM W ⟨[1, 0], mI.fg, mI.lv, mI.en⟩ ⟨some ⟨g7, 0, none⟩, 2, a.f, a.fc, a.l, a.lc, a.e, a.ec⟩ ∧ Blk W g6 [.bool true, .bool true] ∧ RdX W (some A1) (recCells [recP 0 1]) ∧ Below w.heap.size w W) := Lib.hid fun W h => by
    obtain ⟨a1, a2, a3, a4⟩ := HALL.out W (hB8.trans (h.mono hB8.size))
    exact ⟨a1, a2, hI8.next h, ⟨(rdX_of_blk hP8).next h, a3.2⟩, hC8.next h, hQ8.next h, a4⟩
  have HW8 := Lib.hid (Below.refl w8.heap.size w8)
  clear HALL hI8 hC8 hP8 hQ8 hB8 HI6 HC6 HQ1 HB6 HMM HG4 HO1
  have k0 := (HALL2.out w8 HW8.out).1.cell 0 _ rfl; have k1 := (HALL2.out w8 HW8.out).1.cell 1 _ rfl; have k2 := (HALL2.out w8 HW8.out).1.cell 2 _ rfl; have k3 := (HALL2.out w8 HW8.out).1.cell 3 _ rfl; have k4 := (HALL2.out w8 HW8.out).1.cell 4 _ rfl; have k5 := (HALL2.out w8 HW8.out).1.cell 5 _ rfl; have k6 := (HALL2.out w8 HW8.out).1.cell 6 _ rfl; have k7 := (HALL2.out w8 HW8.out).1.cell 7 _ rfl
  have y0 := (HALL2.out w8 HW8.out).2.2.1.cell 0 _ rfl; have y1 := (HALL2.out w8 HW8.out).2.2.1.cell 1 _ rfl; have y2 := (HALL2.out w8 HW8.out).2.2.1.cell 2 _ rfl; have y3 := (HALL2.out w8 HW8.out).2.2.1.cell 3 _ rfl
  go_wp2_with fail
  have hh := order_any b (some ⟨g, 0, none⟩) cap ⟨[1, 0], mI.fg, mI.lv, mI.en⟩ ⟨some ⟨g7, 0, none⟩, 2, a.f, a.fc, a.l, a.lc, a.e, a.ec⟩ 1 1 [true, true] (some ⟨g6, 0, none⟩) 2 w8 (by rw [HLC.out]; decide) HSL.out (by show (2 : Nat) ≤ 1000; omega) (by rw [HLEN.out.2.2.2.1]; decide) (HALL2.out w8 HW8.out).2.1 (HALL2.out w8 HW8.out).2.2.2.1 (rdX_of_blk (HALL2.out w8 HW8.out).2.2.2.2.1)
  rw [HO2.out] at hh
  refine hh.mono ?_
  clear hh
  rintro e w9 ⟨v, rfl, hb9, q2, c2, rfl, _⟩
  have HW9 := Lib.hid hb9
  clear hb9 HW8 HO2 k0 k1 k2 k3 k4 k5 k6 k7 y0 y1 y2 y3
  have k0 := (HALL2.out w9 HW9.out).1.cell 0 _ rfl; have k1 := (HALL2.out w9 HW9.out).1.cell 1 _ rfl; have k2 := (HALL2.out w9 HW9.out).1.cell 2 _ rfl; have k3 := (HALL2.out w9 HW9.out).1.cell 3 _ rfl; have k4 := (HALL2.out w9 HW9.out).1.cell 4 _ rfl; have k5 := (HALL2.out w9 HW9.out).1.cell 5 _ rfl; have k6 := (HALL2.out w9 HW9.out).1.cell 6 _ rfl; have k7 := (HALL2.out w9 HW9.out).1.cell 7 _ rfl
  have y0 := (HALL2.out w9 HW9.out).2.2.1.cell 0 _ rfl; have y1 := (HALL2.out w9 HW9.out).2.2.1.cell 1 _ rfl; have y2 := (HALL2.out w9 HW9.out).2.2.1.cell 2 _ rfl; have y3 := (HALL2.out w9 HW9.out).2.2.1.cell 3 _ rfl
  go_wp2_with fail
  have hh := auto_any b (some ⟨g, 0, none⟩) cap ⟨[1, 0], mI.fg, mI.lv, mI.en⟩ ⟨some ⟨g7, 0, none⟩, 2, a.f, a.fc, a.l, a.lc, a.e, a.ec⟩ [true, true] (some ⟨g6, 0, none⟩) 2 w9 (by rw [HLC.out]; decide) HSL.out (by show (2 : Nat) ≤ 1000; omega) (by rw [HLEN.out.2.2.2.1]; decide) (HALL2.out w9 HW9.out).2.1 (HALL2.out w9 HW9.out).2.2.2.1 (rdX_of_blk (HALL2.out w9 HW9.out).2.2.2.2.1)
  rw [HA.out] at hh
  refine hh.mono ?_
  clear hh
  rintro e w10 ⟨v, rfl, hb10, q3, c3, rfl, hr3⟩
  have HW10 := Lib.hid (HW9.out.trans (hb10.mono HW9.out.size))
  clear hb10 HW9 HA k0 k1 k2 k3 k4 k5 k6 k7 y0 y1 y2 y3
  obtain ⟨A, hqA, _, x0, x1, x2, x3, x4⟩ := (HALL2.out w10 HW10.out).2.2.2.2.2.1.rc (i := 0) rfl
  obtain ⟨A3, hqA3, _, z0, z1, z2, z3, z4⟩ := hr3.rc (i := 0) rfl
  obtain rfl : A1 = A := by simpa using hqA
  subst hqA3
  simp only [Nat.zero_mul] at x0 x1 x2 x3 x4 z0 z1 z2 z3 z4
  change w10.cell? A1 = some (.int .i64 4) at x0
  change w10.cell? ⟨A1.block, A1.off + 1, none⟩ = some (.int .i64 0) at x1
  change w10.cell? ⟨A1.block, A1.off + 2, none⟩ = some (.int .i64 0) at x2
  change w10.cell? ⟨A1.block, A1.off + 3, none⟩ = some (.int .i64 0) at x3
  change w10.cell? ⟨A1.block, A1.off + 4, none⟩ = some (.int .i64 1) at x4
  change w10.cell? A3 = some (.int .i64 4) at z0
  change w10.cell? ⟨A3.block, A3.off + 1, none⟩ = some (.int .i64 0) at z1
  change w10.cell? ⟨A3.block, A3.off + 2, none⟩ = some (.int .i64 0) at z2
  change w10.cell? ⟨A3.block, A3.off + 3, none⟩ = some (.int .i64 0) at z3
  change w10.cell? ⟨A3.block, A3.off + 4, none⟩ = some (.int .i64 2) at z4
  clear hqA hr3
  go_wp2_with fail
  refine (edge_any 4 2 w10).mono ?_
  rw [show edgeB 4 2 = true from rfl]
  rintro e w11 ⟨rfl, hb11⟩
  have HW11 := Lib.hid (HW10.out.trans (hb11.mono HW10.out.size))
  clear hb11 HW10 x0 x1 x2 x3 x4 z0 z1 z2 z3 z4
  have y0 := (HALL2.out w11 HW11.out).2.2.1.cell 0 _ rfl; have y1 := (HALL2.out w11 HW11.out).2.2.1.cell 1 _ rfl; have y2 := (HALL2.out w11 HW11.out).2.2.1.cell 2 _ rfl; have y3 := (HALL2.out w11 HW11.out).2.2.1.cell 3 _ rfl
  go_wp2_with fail
  refine (ready_any ⟨[1, 0], mI.fg, mI.lv, mI.en⟩ ⟨some ⟨g7, 0, none⟩, 2, a.f, a.fc, a.l, a.lc, a.e, a.ec⟩ 0 w11 (HALL2.out w11 HW11.out).2.2.2.1).mono ?_
  rw [HRS.out.1]
  rintro e w12 ⟨rfl, hb12⟩
  have HW12 := Lib.hid (HW11.out.trans (hb12.mono HW11.out.size))
  clear hb12 HW11 y0 y1 y2 y3
  have y0 := (HALL2.out w12 HW12.out).2.2.1.cell 0 _ rfl; have y1 := (HALL2.out w12 HW12.out).2.2.1.cell 1 _ rfl; have y2 := (HALL2.out w12 HW12.out).2.2.1.cell 2 _ rfl; have y3 := (HALL2.out w12 HW12.out).2.2.1.cell 3 _ rfl
  go_wp2_with fail
  refine (serving_any ⟨[1, 0], mI.fg, mI.lv, mI.en⟩ ⟨some ⟨g7, 0, none⟩, 2, a.f, a.fc, a.l, a.lc, a.e, a.ec⟩ 0 w12 (HALL2.out w12 HW12.out).2.2.2.1).mono ?_
  rw [HRS.out.2]
  rintro e w13 ⟨rfl, hb13⟩
  have HW13 := Lib.hid (HW12.out.trans (hb13.mono HW12.out.size))
  clear hb13 HW12 y0 y1 y2 y3
  go_wp2_with fail
  go_ret
  exact ⟨rfl, (HALL2.out w13 HW13.out).2.2.2.2.2.2⟩
end Go.Proofs.Ytgoojlfpngmdlaa
