/- The walk over overlayref19.Same. Conditions: duties that can be read, at most 1000 of the first. · The walk over overlayref18.Same. Conditions: duties that can be read, at most 1000 of the first. -/
import Derived.Test.YtfmmiafdlfdfoaaZInjNew
namespace Go.Proofs.Ytfmmiafdlfdfoaa
open Go.RowKit
theorem run_neq_d (x y z a b c : Int) (w : World) : (binOp .neq 71 (.agg #[.int .i64 x, .int .i64 y, .int .i64 z]) (.agg #[.int .i64 a, .int .i64 b, .int .i64 c])).run Try.prog w = .ok (.bool (!(x == a && y == b && z == c))) w := by
  rw [run_neq_struct, run_equalIn_agg w 9999 71 _ _ (by kernel_rfl) (by kernel_rfl)]
  cases h1 : x == a <;> cases h2 : y == b <;> cases h3 : z == c <;> simp [go_sem, h1, h2, h3]
attribute [local go_sem ↓] run_neq_d
def sameB (s u : BelV) : Bool := (s.fl == u.fl) && (s.dir == u.dir) && (s.door == u.door) && (s.still == u.still) && (s.late == u.late) && decide (s.du = u.du)
theorem same_upto (a b : List Duty) (h : a.length = b.length) (hk : ∀ (i : Nat) x y, a[i]? = some x → b[i]? = some y → x = y) : a = b := by
  apply List.ext_getElem?
  intro i
  by_cases hi : i < a.length
  · rw [List.getElem?_eq_getElem hi, List.getElem?_eq_getElem (by omega)]
    exact congrArg some (hk i _ _ (List.getElem?_eq_getElem hi) (List.getElem?_eq_getElem (by omega)))
  · rw [List.getElem?_eq_none (by omega), List.getElem?_eq_none (by omega)]
end Go.Proofs.Ytfmmiafdlfdfoaa
namespace Go.Proofs.Ytfmmiafdlfdfoaa
open Go.RowKit
attribute [local go_sem ↓] run_neq_d
set_option maxHeartbeats 4000000 in
set_option maxRecDepth 100000 in
theorem same18_any (K : List Duty) (q : Option Addr) (cap : Nat) (L : List Duty) (q' : Option Addr) (cap' : Nat) (w : World) (hlen : K.length ≤ 1000) (hd : RdD w q K) (hd' : RdD w q' L) :
    Calls Try.prog 16 #[.slice q K.length cap, .slice q' L.length cap'] w fun e w' => e = .returned (.bool (decide (K = L))) ∧ Below w.heap.size w w' := by
  have HD := Lib.hid hd; have HD' := Lib.hid hd'
  clear hd hd'
  obtain ⟨n, hn⟩ : ∃ n, n = K.length := ⟨_, rfl⟩
  have HN := Lib.hid hn
  obtain ⟨n', hn'⟩ : ∃ n', n' = L.length := ⟨_, rfl⟩
  have HN' := Lib.hid hn'
  rw [← hn] at hlen ⊢
  rw [← hn']
  clear hn hn'
  go_enter Try.func16, Try.ntmps16
  by_cases hln : n = n'
  · subst hln
    go_wp2_with fail
    go_loopw [5] (fun v wr => ∃ i : Nat, i ≤ n ∧ v = .int .i64 i ∧ (∀ (t : Nat) x y, K[t]? = some x → L[t]? = some y → t < i → x = y) ∧ Below w.heap.size w wr) (fun v _ => n - (intOf v).toNat)
    case atStart => exact ⟨0, by omega, rfl, fun t x y _ _ h => absurd h (Nat.not_lt_zero _), Below.refl _ _⟩
    case round =>
      obtain ⟨i, hi, rfl, hall, hb⟩ := hrel
      have HW := Lib.hid hb; have HA := Lib.hid hall
      clear hb hall
      by_cases hlt : i < n
      · have hd : decide ((i : Int) < (n : Int)) = true := by simp; omega
        obtain ⟨x, hx⟩ : ∃ x, K[i]? = some x := ⟨_, List.getElem?_eq_getElem (by rw [← HN.out]; exact hlt)⟩
        obtain ⟨y, hy⟩ : ∃ y, L[i]? = some y := ⟨_, List.getElem?_eq_getElem (by rw [← HN'.out]; exact hlt)⟩
        obtain ⟨A, hq, hA, r0, r1, r2⟩ := (HD.out.next HW.out).reg hx
        obtain ⟨A', hq', hA', t0, t1, t2⟩ := (HD'.out.next HW.out).reg hy
        subst hq hq'
        have HX := Lib.hid hx; have HY := Lib.hid hy
        have hiw : (0 : Int) ≤ (i : Int) := by omega
        have hiw' : (i : Int) < (n : Int) := by omega
        clear hx hy hA hA'
        go_upto_region 6 with fail
        clear hd
        (refine Grow.wp_region Grow.noPlan Grow.noPlan_stable (by kernel_rfl) (by kernel_rfl) ?_; intro opsq Hopsq)
        repeat (first | (refine Grow.lex_move rfl ?_ rfl ?_; (· first | exact Grow.wanted_none | (rw [Hopsq.out]; rfl)); intro K hK; simp only [Grow.put_lit, Grow.setAt, Grow.eval_lit, Grow.ev]; refine hK _ _ ?_; clear hK K) | (refine Grow.lex_assign rfl ?_ rfl ?_; (· first | exact Grow.wanted_none | (rw [Hopsq.out]; rfl)); intro K hK; simp only [Grow.put_lit, Grow.setAt, Grow.eval_lit, Grow.ev]; refine hK _ _ ?_; clear hK K) | (refine Grow.lex_plain rfl rfl ?_ rfl ?_; (· first | exact Grow.wanted_none | (rw [Hopsq.out]; rfl)); apply Exists.intro; refine ⟨fun wq hCq _ => ?_, ?_⟩; (· (go_wp2_with fail; refine ⟨rfl, Below.refl _ _, ?_⟩; simp only [Grow.getD_lit, Grow.nth]; rfl)); intro K hK; simp only [Grow.put_lit, Grow.setAt]; refine hK _ _ ?_; clear hK K) | (refine Grow.lex_nilCheck rfl rfl ?_ rfl ?_; (· first | exact Grow.wanted_none | (rw [Hopsq.out]; rfl)); intro K hK; simp only [Grow.put_lit, Grow.setAt]; refine hK _ _ ?_; clear hK K) | (refine Grow.lex_skip ?_ ?_; (· (rw [Hopsq.out]; rfl)); intro K hK; simp only [Grow.put_lit, Grow.setAt]; refine hK _ _ ?_; clear hK K))
        (refine Grow.lex_nil ?_; intro w7 hb7 _; replace hb7 := Grow.Cl.base hb7; clear Hopsq opsq)
        by_cases hxy : x = y
        · subst hxy
          go_wp2_with fail
          · rename_i hc
            simp at hc
          refine ⟨⟨i + 1, by omega, by go_num, fun t a b ha hb ht => ?_, HW.out.trans (hb7.mono HW.out.size)⟩, by simp [intOf]; omega⟩
          by_cases h : t < i
          · exact HA.out t a b ha hb h
          · obtain rfl : t = i := by omega
            rw [HX.out] at ha; rw [HY.out] at hb
            cases ha; cases hb; rfl
        · have hne : ¬ K = L := fun h => by
            have h1 := HX.out; rw [h, HY.out] at h1
            exact hxy (by simpa using h1.symm)
          have HNE := Lib.hid hne
          have HXY := Lib.hid hxy
          clear hne hxy
          go_wp2_with fail
          · go_ret
            refine ⟨?_, HW.out.trans (hb7.mono HW.out.size)⟩
            rw [decide_eq_false HNE.out]
            rfl
          · rename_i hc
            exact absurd (Prod.ext (by simp at hc; omega) (Prod.ext (by simp at hc; omega) (by simp at hc; omega))) HXY.out
      · obtain rfl : i = n := by omega
        have hd : decide ((i : Int) < (i : Int)) = false := by simp
        go_wp2_with fail
        go_ret
        refine ⟨?_, HW.out⟩
        have he : K = L := same_upto _ _ (by rw [← HN.out, ← HN'.out]) fun t x y hx hy => HA.out t x y hx hy (by have := (List.getElem?_eq_some_iff.1 hx).1; have := HN.out; omega)
        rw [decide_eq_true he]
        rfl
  · have q0 : ((n : Int) != (n' : Int)) = true := by simp; omega
    have hne : ¬ K = L := fun h => hln (by rw [HN.out, HN'.out, h])
    have HNE := Lib.hid hne
    clear hne hln
    go_wp2_with fail
    go_ret
    exact ⟨by rw [decide_eq_false HNE.out]; rfl, Below.refl _ _⟩
end Go.Proofs.Ytfmmiafdlfdfoaa
