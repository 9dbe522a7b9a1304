/- The walk over building.Hall. Conditions: cars that can be read. -/
import Derived.Test.YtpgcpalemnnbaaaZHall
import Derived.IntWalk
namespace Go.Proofs.Ytpgcpalemnnbaaa
open Go.RowKit
def hPure (n : Nat) (d : Int) : Nat → BitVec 32
  | 0 => 0#32
  | k + 1 => if isCallB (n : Int) (k : Int) d then hPure n d k ||| bit k else hPure n d k
theorem hUp_bad (b : BldV) (d : Int) (h : validN b ≠ 0) : ∀ k, hUp b d k = 0#32
  | 0 => rfl
  | k + 1 => by
    have e : callB b k d = false := by unfold callB; simp [h]
    unfold hUp; rw [e, hUp_bad b d h k]; rfl
theorem hUp_pure (b : BldV) (d : Int) (n : Nat) (hn : (n : Int) = b.fl) (h : validN b = 0) : ∀ k, hUp b d k = hPure n d k
  | 0 => rfl
  | k + 1 => by
    have e : callB b k d = isCallB (n : Int) k d := by unfold callB; rw [h, hn]; simp
    unfold hUp hPure; rw [e, hUp_pure b d n hn h k]
theorem hPure_val : ∀ n : Nat, n < 33 → 2 ≤ n → ((2 : Int) ^ (n - 1) - 1) % 4294967296 = ((hPure n 1 32).toNat : Int) ∧ ((2 : Int) ^ (n - 1) - 1) % 4294967296 * 2 % 4294967296 = ((hPure n 2 32).toNat : Int) := by decide +kernel
theorem hall_val (b : BldV) (h : validN b = 0) (h2 : 2 ≤ b.fl) (h32 : b.fl ≤ 32) : ((2 : Int) ^ (b.fl.toNat - 1) - 1) % 4294967296 = ((hallC b).1.toNat : Int) ∧ ((2 : Int) ^ (b.fl.toNat - 1) - 1) % 4294967296 * 2 % 4294967296 = ((hallC b).2.toNat : Int) := by
  have := hPure_val b.fl.toNat (by omega) (by omega)
  show _ = ((hUp b 1 32).toNat : Int) ∧ _ = ((hUp b 2 32).toNat : Int)
  rw [hUp_pure b 1 b.fl.toNat (by omega) h, hUp_pure b 2 b.fl.toNat (by omega) h]
  exact this
set_option maxHeartbeats 4000000 in
theorem hall_any (b : BldV) (q : Option Addr) (cap : Nat) (w : World) (hlen : b.cars.length ≤ 1000) (hr : RdC w q b.cars) :
    Calls Try.prog 50 #[cvB b q cap] w fun e w' => e = .returned (cv (hallC b)) ∧ Below w.heap.size w w' := by
  have X0 : Blk (w.alloc (.cells #[.int .i64 b.fl, .int .i64 b.deb, .int .i64 b.room, .int .i64 b.park, .float .f64 b.em, .float .f64 b.fu, .float .f64 b.ov, .slice q b.cars.length cap] 28)) w.heap.size [.int .i64 b.fl, .int .i64 b.deb, .int .i64 b.room, .int .i64 b.park, .float .f64 b.em, .float .f64 b.fu, .float .f64 b.ov, .slice q b.cars.length cap] := by
    have hx := Blk.new w [.int .i64 b.fl, .int .i64 b.deb, .int .i64 b.room, .int .i64 b.park, .float .f64 b.em, .float .f64 b.fu, .float .f64 b.ov, .slice q b.cars.length cap] 28
    exact hx
  replace X0 : Blk ((w.alloc (.cells #[.int .i64 b.fl, .int .i64 b.deb, .int .i64 b.room, .int .i64 b.park, .float .f64 b.em, .float .f64 b.fu, .float .f64 b.ov, .slice q b.cars.length cap] 28)).alloc (.cells #[.int .u32 0, .int .u32 0] 33)) w.heap.size [.int .i64 b.fl, .int .i64 b.deb, .int .i64 b.room, .int .i64 b.park, .float .f64 b.em, .float .f64 b.fu, .float .f64 b.ov, .slice q b.cars.length cap] := X0.next (below1' _ _)
  have X1 : Blk ((w.alloc (.cells #[.int .i64 b.fl, .int .i64 b.deb, .int .i64 b.room, .int .i64 b.park, .float .f64 b.em, .float .f64 b.fu, .float .f64 b.ov, .slice q b.cars.length cap] 28)).alloc (.cells #[.int .u32 0, .int .u32 0] 33)) (w.heap.size + 1) [.int .u32 0, .int .u32 0] := by
    have hx := Blk.new (w.alloc (.cells #[.int .i64 b.fl, .int .i64 b.deb, .int .i64 b.room, .int .i64 b.park, .float .f64 b.em, .float .f64 b.fu, .float .f64 b.ov, .slice q b.cars.length cap] 28)) [.int .u32 0, .int .u32 0] 33
    rw [World.size_alloc] at hx
    exact hx
  have XW : Below w.heap.size w (w.alloc (.cells #[.int .i64 b.fl, .int .i64 b.deb, .int .i64 b.room, .int .i64 b.park, .float .f64 b.em, .float .f64 b.fu, .float .f64 b.ov, .slice q b.cars.length cap] 28)) := below1' w _
  replace XW : Below w.heap.size w ((w.alloc (.cells #[.int .i64 b.fl, .int .i64 b.deb, .int .i64 b.room, .int .i64 b.park, .float .f64 b.em, .float .f64 b.fu, .float .f64 b.ov, .slice q b.cars.length cap] 28)).alloc (.cells #[.int .u32 0, .int .u32 0] 33)) := XW.trans ((below1' _ _).mono XW.size)
  have HWW := Lib.hid XW; have HX0 := Lib.hid X0; have HX1 := Lib.hid X1
  clear XW X0 X1
  have HR := Lib.hid (hr.next HWW.out)
  have HL := Lib.hid (show b.cars.length ≤ maxLen by unfold maxLen; omega)
  clear hr hlen
  go_enter Try.func50, Try.ntmps50
  go_wp2_with fail
  generalize ((w.alloc (.cells #[.int .i64 b.fl, .int .i64 b.deb, .int .i64 b.room, .int .i64 b.park, .float .f64 b.em, .float .f64 b.fu, .float .f64 b.ov, .slice q b.cars.length cap] 28)).alloc (.cells #[.int .u32 0, .int .u32 0] 33)) = w0 at *
  generalize hg1 : w.heap.size + 1 = g1 at *
  have HG1 := Lib.hid hg1; have hq1 : w.heap.size + 1 ≤ g1 := by omega
  clear hg1
  have HW := Lib.hid (Below.refl w0.heap.size w0)
  have hz0 := HX0.out.lt; have hz1 := HX1.out.lt
  have k0 := (HX0.out).cell 0 _ rfl
  have k1 := (HX0.out).cell 1 _ rfl
  have k2 := (HX0.out).cell 2 _ rfl
  have k3 := (HX0.out).cell 3 _ rfl
  have k4 := (HX0.out).cell 4 _ rfl
  have k5 := (HX0.out).cell 5 _ rfl
  have k6 := (HX0.out).cell 6 _ rfl
  have k7 := (HX0.out).cell 7 _ rfl
  refine (valid_any b q cap _ HL.out HR.out).mono ?_
  rintro e w1 ⟨rfl, hbn⟩
  have HWn := Lib.hid (HW.out.trans (hbn.mono HW.out.size))
  try clear c0
  clear HW hbn
  have HW := HWn
  clear HWn
  have c0 := base_cell HW.out
  have hfin : ∀ (wr : World) (x y : Int), Below w0.heap.size w0 wr → Blk ((wr.setCell ⟨g1, 0, none⟩ (.int .u32 x)).setCell ⟨g1, 1, none⟩ (.int .u32 y)) g1 [.int .u32 x, .int .u32 y] ∧ Below w.heap.size w ((wr.setCell ⟨g1, 0, none⟩ (.int .u32 x)).setCell ⟨g1, 1, none⟩ (.int .u32 y)) := by
    intro wr x y hb
    exact ⟨((HX1.out.later hb hz1).set 0 _).set 1 _, ((HWW.out.trans (hb.mono HWW.out.size)).setCell (p := ⟨g1, 0, none⟩) (by show w.heap.size ≤ g1; omega) _).setCell (p := ⟨g1, 1, none⟩) (by show w.heap.size ≤ g1; omega) _⟩
  have HF := Lib.hid hfin
  clear hfin
  have R1 := HX1.out.later HW.out hz1
  have z0 := (HX1.out).cell 0 _ rfl
  have z1 := (HX1.out).cell 1 _ rfl
  have f0 := R1.fr 0; have f1 := R1.fr 1
  clear R1
  by_cases hv : ¬ validN b = 0
  · have HV := Lib.hid hv
    have e1 : (validN b != 0) = true := by simpa using hv
    clear hv
    go_wp2_with fail
    obtain ⟨R8, hbf⟩ := HF.out w1 0 0 HW.out
    have r0 := (R8).cell 0 _ rfl
    have r1 := (R8).cell 1 _ rfl
    exact bodyPost_ret (v := cv (0#32, 0#32)) (by simp [results, Try.results50, go_sem, r0, r1]) rfl ⟨by have h1 := hUp_bad b 1 HV.out 32; have h2 := hUp_bad b 2 HV.out 32; unfold hallC; rw [h1, h2], hbf⟩
  · replace hv := Classical.not_not.1 hv
    obtain ⟨hf2, hf32⟩ := valid_fl b hv
    have HV := Lib.hid hv
    have e1 : (validN b != 0) = false := by simpa using hv
    clear hv
    go_wp2_with fail
    obtain ⟨hx, hy⟩ := hall_val b HV.out hf2 hf32
    simp only [hy]
    simp only [hx]
    obtain ⟨R8, hbf⟩ := HF.out w1 ((hallC b).1.toNat : Int) ((hallC b).2.toNat : Int) HW.out
    have r0 := (R8).cell 0 _ rfl
    have r1 := (R8).cell 1 _ rfl
    exact bodyPost_ret (v := cv (hallC b)) (by simp [results, Try.results50, go_sem, r0, r1]) rfl ⟨rfl, hbf⟩
end Go.Proofs.Ytpgcpalemnnbaaa
