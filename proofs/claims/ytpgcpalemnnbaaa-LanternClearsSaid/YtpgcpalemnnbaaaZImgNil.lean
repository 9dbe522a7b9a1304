/- The walk over overlaylaw10.Image at no numbers. Conditions: a building of 2 to 32 floors with 1 to 100 cars that can be read. -/
import Derived.Test.YtpgcpalemnnbaaaZInit
import Derived.Test.YtpgcpalemnnbaaaZRecs
namespace Go.Proofs.Ytpgcpalemnnbaaa
open Go.RowKit
set_option maxHeartbeats 4000000 in
set_option maxRecDepth 100000 in
theorem imageNil_any (b : BldV) (q : Option Addr) (cap : Nat) (w : World) (hc0 : 1 ≤ b.cars.length) (hlen : b.cars.length ≤ 100) (h2 : 2 ≤ b.fl) (h32 : b.fl ≤ 32) (hsl : ∀ c ∈ b.cars, -9223372036854775808 ≤ c.sl ∧ c.sl < 9223372036854775807) (hr : RdC w q b.cars) :
    Calls Try.prog 18 #[cvB b q cap, .slice none 0 0] w fun r w' => ∃ a, r = .returned (cvM (imgI b) a) ∧ OwnM w' w.heap.size (imgI b) a ∧ Below w.heap.size w w' := by
  have X0 : Blk (w.alloc (.cells #[.int .i64 b.fl, .int .i64 b.deb, .int .i64 b.room, .int .i64 b.park, .float .f64 b.em, .float .f64 b.fu, .float .f64 b.ov, .slice q b.cars.length cap] 28)) w.heap.size [.int .i64 b.fl, .int .i64 b.deb, .int .i64 b.room, .int .i64 b.park, .float .f64 b.em, .float .f64 b.fu, .float .f64 b.ov, .slice q b.cars.length cap] := by
    have hx := Blk.new w [.int .i64 b.fl, .int .i64 b.deb, .int .i64 b.room, .int .i64 b.park, .float .f64 b.em, .float .f64 b.fu, .float .f64 b.ov, .slice q b.cars.length cap] 28
    exact hx
  replace X0 : Blk ((w.alloc (.cells #[.int .i64 b.fl, .int .i64 b.deb, .int .i64 b.room, .int .i64 b.park, .float .f64 b.em, .float .f64 b.fu, .float .f64 b.ov, .slice q b.cars.length cap] 28)).alloc (.cells #[.slice none 0 0, .slice none 0 0, .slice none 0 0, .slice none 0 0] 56)) w.heap.size [.int .i64 b.fl, .int .i64 b.deb, .int .i64 b.room, .int .i64 b.park, .float .f64 b.em, .float .f64 b.fu, .float .f64 b.ov, .slice q b.cars.length cap] := X0.next (below1' _ _)
  have X1 : Blk ((w.alloc (.cells #[.int .i64 b.fl, .int .i64 b.deb, .int .i64 b.room, .int .i64 b.park, .float .f64 b.em, .float .f64 b.fu, .float .f64 b.ov, .slice q b.cars.length cap] 28)).alloc (.cells #[.slice none 0 0, .slice none 0 0, .slice none 0 0, .slice none 0 0] 56)) (w.heap.size + 1) [.slice none 0 0, .slice none 0 0, .slice none 0 0, .slice none 0 0] := by
    have hx := Blk.new (w.alloc (.cells #[.int .i64 b.fl, .int .i64 b.deb, .int .i64 b.room, .int .i64 b.park, .float .f64 b.em, .float .f64 b.fu, .float .f64 b.ov, .slice q b.cars.length cap] 28)) [.slice none 0 0, .slice none 0 0, .slice none 0 0, .slice none 0 0] 56
    rw [World.size_alloc] at hx
    exact hx
  have XW : Below w.heap.size w (w.alloc (.cells #[.int .i64 b.fl, .int .i64 b.deb, .int .i64 b.room, .int .i64 b.park, .float .f64 b.em, .float .f64 b.fu, .float .f64 b.ov, .slice q b.cars.length cap] 28)) := below1' w _
  replace XW : Below w.heap.size w ((w.alloc (.cells #[.int .i64 b.fl, .int .i64 b.deb, .int .i64 b.room, .int .i64 b.park, .float .f64 b.em, .float .f64 b.fu, .float .f64 b.ov, .slice q b.cars.length cap] 28)).alloc (.cells #[.slice none 0 0, .slice none 0 0, .slice none 0 0, .slice none 0 0] 56)) := XW.trans ((below1' _ _).mono XW.size)
  have HWW := Lib.hid XW; have HX0 := Lib.hid X0; have HX1 := Lib.hid X1
  clear XW X0 X1
  have HR := Lib.hid (hr.next HWW.out)
  have HL := Lib.hid hlen; have HSL := Lib.hid hsl; have HC0 := Lib.hid hc0; have HF := Lib.hid h2; have HF3 := Lib.hid h32
  clear hr hsl hlen hc0 h2 h32
  go_enter Try.func18, Try.ntmps18
  go_upto_region 1 with fail
  generalize ((w.alloc (.cells #[.int .i64 b.fl, .int .i64 b.deb, .int .i64 b.room, .int .i64 b.park, .float .f64 b.em, .float .f64 b.fu, .float .f64 b.ov, .slice q b.cars.length cap] 28)).alloc (.cells #[.slice none 0 0, .slice none 0 0, .slice none 0 0, .slice none 0 0] 56)) = w0 at *
  generalize hg1 : w.heap.size + 1 = g1 at *
  have HG1 := Lib.hid hg1; have hq1 : w.heap.size + 1 ≤ g1 := by omega
  clear hg1
  have HW := Lib.hid (Below.refl w0.heap.size w0)
  have hz0 := HX0.out.lt; have hz1 := HX1.out.lt
  have k0 := (HX0.out).cell 0 _ rfl
  have k1 := (HX0.out).cell 1 _ rfl
  have k2 := (HX0.out).cell 2 _ rfl
  have k3 := (HX0.out).cell 3 _ rfl
  have k4 := (HX0.out).cell 4 _ rfl
  have k5 := (HX0.out).cell 5 _ rfl
  have k6 := (HX0.out).cell 6 _ rfl
  have k7 := (HX0.out).cell 7 _ rfl
  go_wp2_with fail
  refine (initial_any b q cap _ (by have := HL.out; omega) HSL.out HR.out).mono ?_
  rintro r w1 ⟨a, rfl, hown, hb1⟩
  obtain ⟨m, hm⟩ : ∃ m, imgI b = m := ⟨_, rfl⟩
  rw [hm] at hown ⊢
  have HM := Lib.hid hm
  clear hm
  have HO1 := Lib.hid hown
  have HY0 := Lib.hid (HX0.out.next hb1); have HY1 := Lib.hid (HX1.out.next hb1); have HR1 := Lib.hid (HR.out.next hb1)
  have HW1 := Lib.hid (HWW.out.trans (hb1.mono HWW.out.size))
  have hsz : w.heap.size ≤ w0.heap.size := HWW.out.size
  have hg1 : g1 < w0.heap.size := HX1.out.lt
  clear HX0 HX1 HWW HR hb1 k0 k1 k2 k3 k4 k5 k6 k7 HW hz0 hz1 hown
  go_upto_region 2 with fail
  have BG := Blk.new w1 [.slice a.p m.ph.length a.pc, .slice a.f m.fg.length a.fc, .slice a.l m.lv.length a.lc, .slice a.e m.en.length a.ec] 56
  have hbg := below1' w1 (.cells #[.slice a.p m.ph.length a.pc, .slice a.f m.fg.length a.fc, .slice a.l m.lv.length a.lc, .slice a.e m.en.length a.ec] 56)
  change Blk (w1.alloc (.cells #[.slice a.p m.ph.length a.pc, .slice a.f m.fg.length a.fc, .slice a.l m.lv.length a.lc, .slice a.e m.en.length a.ec] 56)) _ _ at BG
  have HG := Lib.hid BG
  have HZ0 := Lib.hid (HY0.out.next hbg); have HZ1 := Lib.hid (HY1.out.next hbg); have HR2 := Lib.hid (HR1.out.next hbg)
  have HO2 := Lib.hid (HO1.out.later hbg)
  have HW2 := Lib.hid (HW1.out.trans (hbg.mono HW1.out.size))
  clear BG hbg HY0 HY1 HR1 HO1 HW1
  generalize w1.alloc (.cells #[.slice a.p m.ph.length a.pc, .slice a.f m.fg.length a.fc, .slice a.l m.lv.length a.lc, .slice a.e m.en.length a.ec] 56) = w2 at *
  generalize w1.heap.size = gi at *
  have k0 := (HZ0.out).cell 0 _ rfl
  have k1 := (HZ0.out).cell 1 _ rfl
  have k2 := (HZ0.out).cell 2 _ rfl
  have k3 := (HZ0.out).cell 3 _ rfl
  have k4 := (HZ0.out).cell 4 _ rfl
  have k5 := (HZ0.out).cell 5 _ rfl
  have k6 := (HZ0.out).cell 6 _ rfl
  have k7 := (HZ0.out).cell 7 _ rfl
  go_wp2_with fail
  refine (records_any b q cap [] none 0 60 _ HC0.out HL.out (by unfold maxLen; simp) HF.out HF3.out (by omega) (fun i x h => by simp at h)).mono ?_
  rintro r w3 ⟨v, rfl, hown, hb3⟩
  obtain ⟨qr, cr, rfl⟩ := row_form hown
  have hz : (recL b [] 60).length = 0 := by simp [recL, recT]
  rw [hz]
  have HG3 := Lib.hid (HG.out.next hb3); have HZ3 := Lib.hid (HZ1.out.next hb3)
  have HO3 := Lib.hid (HO2.out.later hb3)
  have HW3 := Lib.hid (HW2.out.trans (hb3.mono HW2.out.size))
  clear hown hb3 HG HZ0 HZ1 HR2 HO2 HW2 k0 k1 k2 k3 k4 k5 k6 k7 hz
  have x0 := (HG3.out).cell 0 _ rfl
  have x1 := (HG3.out).cell 1 _ rfl
  have x2 := (HG3.out).cell 2 _ rfl
  have x3 := (HG3.out).cell 3 _ rfl
  have y0 := (HZ3.out).cell 0 _ rfl
  have y1 := (HZ3.out).cell 1 _ rfl
  have y2 := (HZ3.out).cell 2 _ rfl
  have y3 := (HZ3.out).cell 3 _ rfl
  have f0 := HZ3.out.fr 0; have f1 := HZ3.out.fr 1; have f2 := HZ3.out.fr 2; have f3 := HZ3.out.fr 3
  go_wp2_with fail
  go_loopw [7] (fun v wr => v = .int .i64 0 ∧ wr = w3) (fun _ _ => 0)
  case atStart => exact ⟨rfl, rfl⟩
  case round =>
    obtain ⟨rfl, rfl⟩ := hrel
    go_wp2_with fail
    have R3 := (((HZ3.out.set 0 (.slice a.p m.ph.length a.pc)).set 1 (.slice a.f m.fg.length a.fc)).set 2 (.slice a.l m.lv.length a.lc)).set 3 (.slice a.e m.en.length a.ec)
    have r0 := (R3).cell 0 _ rfl
    have r1 := (R3).cell 1 _ rfl
    have r2 := (R3).cell 2 _ rfl
    have r3 := (R3).cell 3 _ rfl
    exact bodyPost_ret (v := cvM m a) (by simp [results, Try.results18, go_sem, r0, r1, r2, r3]) rfl ⟨a, by rw [HM.out], by rw [HM.out]; exact (OwnM.set (OwnM.set (OwnM.set (OwnM.set HO3.out hg1) hg1) hg1) hg1).base hsz, (((HW3.out.setCell (p := ⟨g1, 0, none⟩) (by show w.heap.size ≤ g1; omega) _).setCell (p := ⟨g1, 1, none⟩) (by show w.heap.size ≤ g1; omega) _).setCell (p := ⟨g1, 2, none⟩) (by show w.heap.size ≤ g1; omega) _).setCell (p := ⟨g1, 3, none⟩) (by show w.heap.size ≤ g1; omega) _⟩
end Go.Proofs.Ytpgcpalemnnbaaa
