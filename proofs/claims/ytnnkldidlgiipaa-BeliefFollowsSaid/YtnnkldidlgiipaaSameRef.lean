/- The walk over overlayref19.Same. Conditions: duties that can be read, at most 1000 of the first. -/
import Derived.Test.YtnnkldidlgiipaaObsC
namespace Go.Proofs.Ytnnkldidlgiipaa
open Go.RowKit
theorem run_neq_d (x y z a b c : Int) (w : World) : (binOp .neq 71 (.agg #[.int .i64 x, .int .i64 y, .int .i64 z]) (.agg #[.int .i64 a, .int .i64 b, .int .i64 c])).run Try.prog w = .ok (.bool (!(x == a && y == b && z == c))) w := by
  rw [run_neq_struct, run_equalIn_agg w 9999 71 _ _ (by kernel_rfl) (by kernel_rfl)]
  cases h1 : x == a <;> cases h2 : y == b <;> cases h3 : z == c <;> simp [go_sem, h1, h2, h3]
attribute [local go_sem ↓] run_neq_d
def sameB (s u : BelV) : Bool := (s.fl == u.fl) && (s.dir == u.dir) && (s.door == u.door) && (s.still == u.still) && (s.late == u.late) && decide (s.du = u.du)
theorem same_upto (a b : List Duty) (h : a.length = b.length) (hk : ∀ (i : Nat) x y, a[i]? = some x → b[i]? = some y → x = y) : a = b := by
  apply List.ext_getElem?
  intro i
  by_cases hi : i < a.length
  · rw [List.getElem?_eq_getElem hi, List.getElem?_eq_getElem (by omega)]
    exact congrArg some (hk i _ _ (List.getElem?_eq_getElem hi) (List.getElem?_eq_getElem (by omega)))
  · rw [List.getElem?_eq_none (by omega), List.getElem?_eq_none (by omega)]
set_option maxHeartbeats 4000000 in
set_option maxRecDepth 100000 in
theorem refSame_any (s : BelV) (q : Option Addr) (cap : Nat) (u : BelV) (q' : Option Addr) (cap' : Nat) (w : World) (hlen : s.du.length ≤ 1000) (hd : RdD w q s.du) (hd' : RdD w q' u.du) :
    Calls Try.prog 17 #[cvS s q cap, cvS u q' cap'] w fun e w' => e = .returned (.bool (sameB s u)) ∧ Below w.heap.size w w' := by
  have X0 : Blk (w.alloc (.cells #[.int .i64 s.fl, .int .i64 s.dir, .int .i64 s.door, .slice q s.du.length cap, .int .i64 s.still, .bool s.late] 35)) w.heap.size [.int .i64 s.fl, .int .i64 s.dir, .int .i64 s.door, .slice q s.du.length cap, .int .i64 s.still, .bool s.late] := by
    have hx := Blk.new w [.int .i64 s.fl, .int .i64 s.dir, .int .i64 s.door, .slice q s.du.length cap, .int .i64 s.still, .bool s.late] 35
    exact hx
  replace X0 : Blk ((w.alloc (.cells #[.int .i64 s.fl, .int .i64 s.dir, .int .i64 s.door, .slice q s.du.length cap, .int .i64 s.still, .bool s.late] 35)).alloc (.cells #[.int .i64 u.fl, .int .i64 u.dir, .int .i64 u.door, .slice q' u.du.length cap', .int .i64 u.still, .bool u.late] 35)) w.heap.size [.int .i64 s.fl, .int .i64 s.dir, .int .i64 s.door, .slice q s.du.length cap, .int .i64 s.still, .bool s.late] := X0.next (below1' _ _)
  have X1 : Blk ((w.alloc (.cells #[.int .i64 s.fl, .int .i64 s.dir, .int .i64 s.door, .slice q s.du.length cap, .int .i64 s.still, .bool s.late] 35)).alloc (.cells #[.int .i64 u.fl, .int .i64 u.dir, .int .i64 u.door, .slice q' u.du.length cap', .int .i64 u.still, .bool u.late] 35)) (w.heap.size + 1) [.int .i64 u.fl, .int .i64 u.dir, .int .i64 u.door, .slice q' u.du.length cap', .int .i64 u.still, .bool u.late] := by
    have hx := Blk.new (w.alloc (.cells #[.int .i64 s.fl, .int .i64 s.dir, .int .i64 s.door, .slice q s.du.length cap, .int .i64 s.still, .bool s.late] 35)) [.int .i64 u.fl, .int .i64 u.dir, .int .i64 u.door, .slice q' u.du.length cap', .int .i64 u.still, .bool u.late] 35
    rw [World.size_alloc] at hx
    exact hx
  have XW : Below w.heap.size w (w.alloc (.cells #[.int .i64 s.fl, .int .i64 s.dir, .int .i64 s.door, .slice q s.du.length cap, .int .i64 s.still, .bool s.late] 35)) := below1' w _
  replace XW : Below w.heap.size w ((w.alloc (.cells #[.int .i64 s.fl, .int .i64 s.dir, .int .i64 s.door, .slice q s.du.length cap, .int .i64 s.still, .bool s.late] 35)).alloc (.cells #[.int .i64 u.fl, .int .i64 u.dir, .int .i64 u.door, .slice q' u.du.length cap', .int .i64 u.still, .bool u.late] 35)) := XW.trans ((below1' _ _).mono XW.size)
  have HWW := Lib.hid XW; have HX0 := Lib.hid X0; have HX1 := Lib.hid X1
  clear XW X0 X1
  have HD := Lib.hid (hd.next HWW.out); have HD' := Lib.hid (hd'.next HWW.out)
  clear hd hd'
  obtain ⟨n, hn⟩ : ∃ n, n = s.du.length := ⟨_, rfl⟩
  have HN := Lib.hid hn
  obtain ⟨n', hn'⟩ : ∃ n', n' = u.du.length := ⟨_, rfl⟩
  have HN' := Lib.hid hn'
  rw [← hn] at hlen
  clear hn hn'
  go_enter Try.func17, Try.ntmps17
  go_upto_region 1 with fail
  generalize ((w.alloc (.cells #[.int .i64 s.fl, .int .i64 s.dir, .int .i64 s.door, .slice q s.du.length cap, .int .i64 s.still, .bool s.late] 35)).alloc (.cells #[.int .i64 u.fl, .int .i64 u.dir, .int .i64 u.door, .slice q' u.du.length cap', .int .i64 u.still, .bool u.late] 35)) = w0 at *
  generalize hg1 : w.heap.size + 1 = g1 at *
  have HG1 := Lib.hid hg1; have hq1 : w.heap.size + 1 ≤ g1 := by omega
  clear hg1
  have HW := Lib.hid (Below.refl w0.heap.size w0)
  have hz0 := HX0.out.lt; have hz1 := HX1.out.lt
  have j0 := (HX0.out).cell 0 _ rfl
  have j1 := (HX0.out).cell 1 _ rfl
  have j2 := (HX0.out).cell 2 _ rfl
  have j3 := (HX0.out).cell 3 _ rfl
  have j4 := (HX0.out).cell 4 _ rfl
  have j5 := (HX0.out).cell 5 _ rfl
  have y0 := (HX1.out).cell 0 _ rfl
  have y1 := (HX1.out).cell 1 _ rfl
  have y2 := (HX1.out).cell 2 _ rfl
  have y3 := (HX1.out).cell 3 _ rfl
  have y4 := (HX1.out).cell 4 _ rfl
  have y5 := (HX1.out).cell 5 _ rfl
  rw [← HN.out] at j3
  rw [← HN'.out] at y3
  by_cases d0 : ¬ s.fl = u.fl
  · have HC : Hid ((s.fl == u.fl) = false) := Lib.hid (by simpa using d0)
    have c0 : (s.fl != u.fl) = true := by simpa using d0
    clear d0
    go_wp2_with fail
    go_ret
    exact ⟨by unfold sameB; rw [HC.out]; simp, HWW.out⟩
  have C0 : Hid ((s.fl == u.fl) = true) := Lib.hid (by simpa using d0)
  have c0 : (s.fl != u.fl) = false := by simpa using d0
  clear d0
  by_cases d1 : ¬ s.dir = u.dir
  · have HC : Hid ((s.dir == u.dir) = false) := Lib.hid (by simpa using d1)
    have c1 : (s.dir != u.dir) = true := by simpa using d1
    clear d1
    go_wp2_with fail
    go_ret
    exact ⟨by unfold sameB; rw [HC.out]; simp, HWW.out⟩
  have C1 : Hid ((s.dir == u.dir) = true) := Lib.hid (by simpa using d1)
  have c1 : (s.dir != u.dir) = false := by simpa using d1
  clear d1
  by_cases d2 : ¬ s.door = u.door
  · have HC : Hid ((s.door == u.door) = false) := Lib.hid (by simpa using d2)
    have c2 : (s.door != u.door) = true := by simpa using d2
    clear d2
    go_wp2_with fail
    go_ret
    exact ⟨by unfold sameB; rw [HC.out]; simp, HWW.out⟩
  have C2 : Hid ((s.door == u.door) = true) := Lib.hid (by simpa using d2)
  have c2 : (s.door != u.door) = false := by simpa using d2
  clear d2
  by_cases d3 : ¬ s.still = u.still
  · have HC : Hid ((s.still == u.still) = false) := Lib.hid (by simpa using d3)
    have c3 : (s.still != u.still) = true := by simpa using d3
    clear d3
    go_wp2_with fail
    go_ret
    exact ⟨by unfold sameB; rw [HC.out]; simp, HWW.out⟩
  have C3 : Hid ((s.still == u.still) = true) := Lib.hid (by simpa using d3)
  have c3 : (s.still != u.still) = false := by simpa using d3
  clear d3
  by_cases d4 : ¬ s.late = u.late
  · have HC : Hid ((s.late == u.late) = false) := Lib.hid (by simpa using d4)
    have c4 : (s.late == u.late) = false := by simpa using d4
    clear d4
    go_wp2_with fail
    go_ret
    exact ⟨by unfold sameB; rw [HC.out]; simp, HWW.out⟩
  have C4 : Hid ((s.late == u.late) = true) := Lib.hid (by simpa using d4)
  have c4 : (s.late == u.late) = true := by simpa using d4
  clear d4
  by_cases hln : n = n'
  · subst hln
    go_wp2_with fail
    go_loopw [5] (fun v wr => ∃ i : Nat, i ≤ n ∧ v = .int .i64 i ∧ (∀ (t : Nat) x y, s.du[t]? = some x → u.du[t]? = some y → t < i → x = y) ∧ Below w0.heap.size w0 wr) (fun v _ => n - (intOf v).toNat)
    case atStart => exact ⟨0, by omega, rfl, fun t x y _ _ h => absurd h (Nat.not_lt_zero _), HW.out⟩
    case round =>
      clear HW j0 j1 j2 j4 j5 y0 y1 y2 y4 y5 c0 c1 c2 c3 c4
      obtain ⟨i, hi, rfl, hall, hb⟩ := hrel
      have HW := Lib.hid hb; have HA := Lib.hid hall
      have b0 := base_cell HW.out
      clear hb hall
      by_cases hlt : i < n
      · have hd : decide ((i : Int) < (n : Int)) = true := by simp; omega
        obtain ⟨x, hx⟩ : ∃ x, s.du[i]? = some x := ⟨_, List.getElem?_eq_getElem (by rw [← HN.out]; exact hlt)⟩
        obtain ⟨y, hy⟩ : ∃ y, u.du[i]? = some y := ⟨_, List.getElem?_eq_getElem (by rw [← HN'.out]; exact hlt)⟩
        obtain ⟨A, hq, hA, r0, r1, r2⟩ := (HD.out.next HW.out).reg hx
        obtain ⟨A', hq', hA', t0, t1, t2⟩ := (HD'.out.next HW.out).reg hy
        subst hq hq'
        have HX := Lib.hid hx; have HY := Lib.hid hy
        have a3 := (HX0.out.later HW.out hz0).reg 3 _ rfl
        have b3 := (HX1.out.later HW.out hz1).reg 3 _ rfl
        rw [← HN.out] at a3
        rw [← HN'.out] at b3
        have hiw : (0 : Int) ≤ (i : Int) := by omega
        have hiw' : (i : Int) < (n : Int) := by omega
        clear hx hy hA hA'
        go_upto_region 6 with fail
        clear b0 j3 y3 hd
        (refine Grow.wp_region Grow.noPlan Grow.noPlan_stable (by kernel_rfl) (by kernel_rfl) ?_; intro opsq Hopsq)
        repeat (first | (refine Grow.lex_move rfl ?_ rfl ?_; (· first | exact Grow.wanted_none | (rw [Hopsq.out]; rfl)); intro K hK; simp only [Grow.put_lit, Grow.setAt, Grow.eval_lit, Grow.ev]; refine hK _ _ ?_; clear hK K) | (refine Grow.lex_assign rfl ?_ rfl ?_; (· first | exact Grow.wanted_none | (rw [Hopsq.out]; rfl)); intro K hK; simp only [Grow.put_lit, Grow.setAt, Grow.eval_lit, Grow.ev]; refine hK _ _ ?_; clear hK K) | (refine Grow.lex_plain rfl rfl ?_ rfl ?_; (· first | exact Grow.wanted_none | (rw [Hopsq.out]; rfl)); apply Exists.intro; refine ⟨fun wq hCq _ => ?_, ?_⟩; (· (go_wp2_with fail; refine ⟨rfl, Below.refl _ _, ?_⟩; simp only [Grow.getD_lit, Grow.nth]; rfl)); intro K hK; simp only [Grow.put_lit, Grow.setAt]; refine hK _ _ ?_; clear hK K) | (refine Grow.lex_nilCheck rfl rfl ?_ rfl ?_; (· first | exact Grow.wanted_none | (rw [Hopsq.out]; rfl)); intro K hK; simp only [Grow.put_lit, Grow.setAt]; refine hK _ _ ?_; clear hK K) | (refine Grow.lex_skip ?_ ?_; (· (rw [Hopsq.out]; rfl)); intro K hK; simp only [Grow.put_lit, Grow.setAt]; refine hK _ _ ?_; clear hK K))
        (refine Grow.lex_nil ?_; intro w7 hb7 _; replace hb7 := Grow.Cl.base hb7; clear Hopsq opsq)
        by_cases hxy : x = y
        · subst hxy
          go_wp2_with fail
          · rename_i hc
            simp at hc
          refine ⟨⟨i + 1, by omega, by go_num, fun t a b ha hb ht => ?_, HW.out.trans (hb7.mono HW.out.size)⟩, by simp [intOf]; omega⟩
          by_cases h : t < i
          · exact HA.out t a b ha hb h
          · obtain rfl : t = i := by omega
            rw [HX.out] at ha; rw [HY.out] at hb
            cases ha; cases hb; rfl
        · have hne : ¬ s.du = u.du := fun h => by
            have h1 := HX.out; rw [h, HY.out] at h1
            exact hxy (by simpa using h1.symm)
          have HNE := Lib.hid hne
          have HXY := Lib.hid hxy
          clear hne hxy
          go_wp2_with fail
          · go_ret
            refine ⟨?_, HWW.out.trans ((HW.out.trans (hb7.mono HW.out.size)).mono HWW.out.size)⟩
            unfold sameB
            rw [decide_eq_false HNE.out, Bool.and_false]
            rfl
          · rename_i hc
            exact absurd (Prod.ext (by simp at hc; omega) (Prod.ext (by simp at hc; omega) (by simp at hc; omega))) HXY.out
      · obtain rfl : i = n := by omega
        have hd : decide ((i : Int) < (i : Int)) = false := by simp
        go_wp2_with fail
        go_ret
        refine ⟨?_, HWW.out.trans (HW.out.mono HWW.out.size)⟩
        have he : s.du = u.du := same_upto _ _ (by rw [← HN.out, ← HN'.out]) fun t x y hx hy => HA.out t x y hx hy (by have := (List.getElem?_eq_some_iff.1 hx).1; have := HN.out; omega)
        unfold sameB
        rw [C0.out, C1.out, C2.out, C3.out, C4.out, decide_eq_true he]
        rfl
  · have q0 : ((n : Int) != (n' : Int)) = true := by simp; omega
    have hne : ¬ s.du = u.du := fun h => hln (by rw [HN.out, HN'.out, h])
    have HNE := Lib.hid hne
    clear hne hln
    go_wp2_with fail
    go_ret
    exact ⟨by unfold sameB; rw [decide_eq_false HNE.out, Bool.and_false]; rfl, HWW.out⟩
end Go.Proofs.Ytnnkldidlgiipaa
