/- The walk over belief.Same. Conditions: duties that can be read, at most 1000 of the first. -/
import Derived.Test.YtnnkldidlgiipaaEqual
namespace Go.Proofs.Ytnnkldidlgiipaa
open Go.RowKit
set_option maxHeartbeats 4000000 in
set_option maxRecDepth 100000 in
theorem same_any (s : BelV) (q : Option Addr) (cap : Nat) (u : BelV) (q' : Option Addr) (cap' : Nat) (w : World) (hlen : s.du.length ≤ 1000) (hd : RdD w q s.du) (hd' : RdD w q' u.du) :
    Calls Try.prog 16 #[cvS s q cap, cvS u q' cap'] w fun e w' => e = .returned (.bool (sameB s u)) ∧ Below w.heap.size w w' := by
  have X0 : Blk (w.alloc (.cells #[.int .i64 s.fl, .int .i64 s.dir, .int .i64 s.door, .slice q s.du.length cap, .int .i64 s.still, .bool s.late] 35)) w.heap.size [.int .i64 s.fl, .int .i64 s.dir, .int .i64 s.door, .slice q s.du.length cap, .int .i64 s.still, .bool s.late] := by
    have hx := Blk.new w [.int .i64 s.fl, .int .i64 s.dir, .int .i64 s.door, .slice q s.du.length cap, .int .i64 s.still, .bool s.late] 35
    exact hx
  replace X0 : Blk ((w.alloc (.cells #[.int .i64 s.fl, .int .i64 s.dir, .int .i64 s.door, .slice q s.du.length cap, .int .i64 s.still, .bool s.late] 35)).alloc (.cells #[.int .i64 u.fl, .int .i64 u.dir, .int .i64 u.door, .slice q' u.du.length cap', .int .i64 u.still, .bool u.late] 35)) w.heap.size [.int .i64 s.fl, .int .i64 s.dir, .int .i64 s.door, .slice q s.du.length cap, .int .i64 s.still, .bool s.late] := X0.next (below1' _ _)
  have X1 : Blk ((w.alloc (.cells #[.int .i64 s.fl, .int .i64 s.dir, .int .i64 s.door, .slice q s.du.length cap, .int .i64 s.still, .bool s.late] 35)).alloc (.cells #[.int .i64 u.fl, .int .i64 u.dir, .int .i64 u.door, .slice q' u.du.length cap', .int .i64 u.still, .bool u.late] 35)) (w.heap.size + 1) [.int .i64 u.fl, .int .i64 u.dir, .int .i64 u.door, .slice q' u.du.length cap', .int .i64 u.still, .bool u.late] := by
    have hx := Blk.new (w.alloc (.cells #[.int .i64 s.fl, .int .i64 s.dir, .int .i64 s.door, .slice q s.du.length cap, .int .i64 s.still, .bool s.late] 35)) [.int .i64 u.fl, .int .i64 u.dir, .int .i64 u.door, .slice q' u.du.length cap', .int .i64 u.still, .bool u.late] 35
    rw [World.size_alloc] at hx
    exact hx
  have XW : Below w.heap.size w (w.alloc (.cells #[.int .i64 s.fl, .int .i64 s.dir, .int .i64 s.door, .slice q s.du.length cap, .int .i64 s.still, .bool s.late] 35)) := below1' w _
  replace XW : Below w.heap.size w ((w.alloc (.cells #[.int .i64 s.fl, .int .i64 s.dir, .int .i64 s.door, .slice q s.du.length cap, .int .i64 s.still, .bool s.late] 35)).alloc (.cells #[.int .i64 u.fl, .int .i64 u.dir, .int .i64 u.door, .slice q' u.du.length cap', .int .i64 u.still, .bool u.late] 35)) := XW.trans ((below1' _ _).mono XW.size)
  have HWW := Lib.hid XW; have HX0 := Lib.hid X0; have HX1 := Lib.hid X1
  clear XW X0 X1
  have HD := Lib.hid (hd.next HWW.out); have HD' := Lib.hid (hd'.next HWW.out)
  have HL := Lib.hid hlen
  clear hd hd' hlen
  go_enter Try.func16, Try.ntmps16
  go_upto_region 1 with fail
  generalize ((w.alloc (.cells #[.int .i64 s.fl, .int .i64 s.dir, .int .i64 s.door, .slice q s.du.length cap, .int .i64 s.still, .bool s.late] 35)).alloc (.cells #[.int .i64 u.fl, .int .i64 u.dir, .int .i64 u.door, .slice q' u.du.length cap', .int .i64 u.still, .bool u.late] 35)) = w0 at *
  generalize hg1 : w.heap.size + 1 = g1 at *
  have HG1 := Lib.hid hg1; have hq1 : w.heap.size + 1 ≤ g1 := by omega
  clear hg1
  have HW := Lib.hid (Below.refl w0.heap.size w0)
  have hz0 := HX0.out.lt; have hz1 := HX1.out.lt
  have j0 := (HX0.out).cell 0 _ rfl
  have j1 := (HX0.out).cell 1 _ rfl
  have j2 := (HX0.out).cell 2 _ rfl
  have j3 := (HX0.out).cell 3 _ rfl
  have j4 := (HX0.out).cell 4 _ rfl
  have j5 := (HX0.out).cell 5 _ rfl
  have y0 := (HX1.out).cell 0 _ rfl
  have y1 := (HX1.out).cell 1 _ rfl
  have y2 := (HX1.out).cell 2 _ rfl
  have y3 := (HX1.out).cell 3 _ rfl
  have y4 := (HX1.out).cell 4 _ rfl
  have y5 := (HX1.out).cell 5 _ rfl
  cases c0 : s.fl == u.fl
  · have HC := Lib.hid c0
    go_wp2_with fail
    go_ret
    exact ⟨by unfold sameB; rw [HC.out]; simp, HWW.out⟩
  cases c1 : s.dir == u.dir
  · have HC := Lib.hid c1
    go_wp2_with fail
    go_ret
    exact ⟨by unfold sameB; rw [HC.out]; simp, HWW.out⟩
  cases c2 : s.door == u.door
  · have HC := Lib.hid c2
    go_wp2_with fail
    go_ret
    exact ⟨by unfold sameB; rw [HC.out]; simp, HWW.out⟩
  have C0 := Lib.hid c0; have C1 := Lib.hid c1; have C2 := Lib.hid c2
  go_wp2_with fail
  refine (equal_any s.du q cap u.du q' cap' _ HL.out (HD.out.next HW.out) (HD'.out.next HW.out)).mono ?_
  rintro e w1 ⟨rfl, hb1⟩
  have HW1 := Lib.hid (HW.out.trans (hb1.mono HW.out.size))
  clear hb1 j0 j1 j2 j3 j4 j5 y0 y1 y2 y3 y4 y5 c0 c1 c2
  have JJ := HX0.out.later HW1.out hz0
  have YY := HX1.out.later HW1.out hz1
  have j4 := (JJ).cell 4 _ rfl
  have j5 := (JJ).cell 5 _ rfl
  have y4 := (YY).cell 4 _ rfl
  have y5 := (YY).cell 5 _ rfl
  clear JJ YY
  by_cases hK : s.du = u.du
  · have hk : decide (s.du = u.du) = true := decide_eq_true hK
    have HK := Lib.hid hk
    clear hK
    cases c4 : s.still == u.still
    · have HC := Lib.hid c4
      go_wp2_with fail
      go_ret
      exact ⟨by unfold sameB; rw [HC.out]; simp, HWW.out.trans (HW1.out.mono HWW.out.size)⟩
    have C4 := Lib.hid c4
    cases c5 : s.late == u.late
    · have HC := Lib.hid c5
      go_wp2_with fail
      go_ret
      exact ⟨by unfold sameB; rw [HC.out]; simp, HWW.out.trans (HW1.out.mono HWW.out.size)⟩
    · have C5 := Lib.hid c5
      go_wp2_with fail
      go_ret
      exact ⟨by unfold sameB; rw [C0.out, C1.out, C2.out, C4.out, C5.out, HK.out]; rfl, HWW.out.trans (HW1.out.mono HWW.out.size)⟩
  · have hk : decide (s.du = u.du) = false := decide_eq_false hK
    have HK := Lib.hid hk
    clear hK
    go_wp2_with fail
    go_ret
    exact ⟨by unfold sameB; rw [HK.out]; simp, HWW.out.trans (HW1.out.mono HWW.out.size)⟩
end Go.Proofs.Ytnnkldidlgiipaa
