/- The walks over slices.Equal at sets of calls and at bools. Conditions: rows that can be read, at most 1000 places in the first. -/
import Derived.Test.YtpgcpalemnnbaaaZLightV
namespace Go.Proofs.Ytpgcpalemnnbaaa
open Go.RowKit
attribute [local go_sem ↓] run_neq_cs
theorem same_uptoG {α : Type} (a b : List α) (h : a.length = b.length) (hk : ∀ (i : Nat) x y, a[i]? = some x → b[i]? = some y → x = y) : a = b := by
  apply List.ext_getElem?
  intro i
  by_cases hi : i < a.length
  · rw [List.getElem?_eq_getElem hi, List.getElem?_eq_getElem (by omega)]
    exact congrArg some (hk i _ _ (List.getElem?_eq_getElem hi) (List.getElem?_eq_getElem (by omega)))
  · rw [List.getElem?_eq_none (by omega), List.getElem?_eq_none (by omega)]
set_option maxHeartbeats 4000000 in
set_option maxRecDepth 100000 in
theorem equalC_any (K : List CS) (q : Option Addr) (cap : Nat) (L : List CS) (q' : Option Addr) (cap' : Nat) (w : World) (hlen : K.length ≤ 1000) (hd : RdX w q (csCells K)) (hd' : RdX w q' (csCells L)) :
    Calls Try.prog 35 #[.slice q K.length cap, .slice q' L.length cap'] w fun e w' => e = .returned (.bool (decide (K = L))) ∧ Below w.heap.size w w' := by
  have HD := Lib.hid hd; have HD' := Lib.hid hd'
  clear hd hd'
  obtain ⟨n, hn⟩ : ∃ n, n = K.length := ⟨_, rfl⟩
  have HN := Lib.hid hn
  obtain ⟨n', hn'⟩ : ∃ n', n' = L.length := ⟨_, rfl⟩
  have HN' := Lib.hid hn'
  rw [← hn] at hlen ⊢
  rw [← hn']
  clear hn hn'
  go_enter Try.func35, Try.ntmps35
  by_cases hln : n = n'
  · subst hln
    go_wp2_with fail
    go_loopw [13] (fun v wr => ∃ i : Nat, i ≤ n ∧ v = .int .i64 i ∧ (∀ (t : Nat) x y, K[t]? = some x → L[t]? = some y → t < i → x = y) ∧ Below w.heap.size w wr) (fun v _ => n - (intOf v).toNat)
    case atStart => exact ⟨0, by omega, rfl, fun t x y _ _ h => absurd h (Nat.not_lt_zero _), Below.refl _ _⟩
    case round =>
      obtain ⟨i, hi, rfl, hall, hb⟩ := hrel
      have HW := Lib.hid hb; have HA := Lib.hid hall
      clear hb hall
      by_cases hlt : i < n
      · have hd : decide ((i : Int) < (n : Int)) = true := by simp; omega
        obtain ⟨x, hx⟩ : ∃ x, K[i]? = some x := ⟨_, List.getElem?_eq_getElem (by rw [← HN.out]; exact hlt)⟩
        obtain ⟨y, hy⟩ : ∃ y, L[i]? = some y := ⟨_, List.getElem?_eq_getElem (by rw [← HN'.out]; exact hlt)⟩
        obtain ⟨A, hq, hA, p0, p1⟩ := (HD.out.next HW.out).cs hx
        obtain ⟨A', hq', hA', o0, o1⟩ := (HD'.out.next HW.out).cs hy
        subst hq hq'
        have HX := Lib.hid hx; have HY := Lib.hid hy
        have hiw : (0 : Int) ≤ (i : Int) := by omega
        have hiw' : (i : Int) < (n : Int) := by omega
        clear hx hy hA hA'
        go_upto_region 6 with fail
        clear hd
        have r0 : ∀ W, Grow.Cl wr.drew W → W.cell? (A.add (i * 2)) = some (.int .u32 (x.1.toNat : Int)) := fun W h => cell_later (Grow.Cl.base h) p0
        have r1 : ∀ W, Grow.Cl wr.drew W → W.cell? ⟨(A.add (i * 2)).block, (A.add (i * 2)).off + 1, none⟩ = some (.int .u32 (x.2.toNat : Int)) := fun W h => cell_later (Grow.Cl.base h) p1
        have s0 : ∀ W, Grow.Cl wr.drew W → W.cell? (A'.add (i * 2)) = some (.int .u32 (y.1.toNat : Int)) := fun W h => cell_later (Grow.Cl.base h) o0
        have s1 : ∀ W, Grow.Cl wr.drew W → W.cell? ⟨(A'.add (i * 2)).block, (A'.add (i * 2)).off + 1, none⟩ = some (.int .u32 (y.2.toNat : Int)) := fun W h => cell_later (Grow.Cl.base h) o1
        clear p0 p1 o0 o1
        (refine Grow.wp_region Grow.noPlan Grow.noPlan_stable (by kernel_rfl) (by kernel_rfl) ?_; intro opsq Hopsq)
        repeat (first | (refine Grow.lex_move rfl ?_ rfl ?_; (· first | exact Grow.wanted_none | (rw [Hopsq.out]; rfl)); intro K hK; simp only [Grow.put_lit, Grow.setAt, Grow.eval_lit, Grow.ev]; refine hK _ _ ?_; clear hK K) | (refine Grow.lex_assign rfl ?_ rfl ?_; (· first | exact Grow.wanted_none | (rw [Hopsq.out]; rfl)); intro K hK; simp only [Grow.put_lit, Grow.setAt, Grow.eval_lit, Grow.ev]; refine hK _ _ ?_; clear hK K) | (refine Grow.lex_plain rfl rfl ?_ rfl ?_; (· first | exact Grow.wanted_none | (rw [Hopsq.out]; rfl)); apply Exists.intro; refine ⟨fun wq hCq _ => ?_, ?_⟩; (· (go_wp2_with fail; refine ⟨rfl, Below.refl _ _, ?_⟩; simp only [Grow.getD_lit, Grow.nth]; rfl)); intro K hK; simp only [Grow.put_lit, Grow.setAt]; refine hK _ _ ?_; clear hK K) | (refine Grow.lex_nilCheck rfl rfl ?_ rfl ?_; (· first | exact Grow.wanted_none | (rw [Hopsq.out]; rfl)); intro K hK; simp only [Grow.put_lit, Grow.setAt]; refine hK _ _ ?_; clear hK K) | (refine Grow.lex_skip ?_ ?_; (· (rw [Hopsq.out]; rfl)); intro K hK; simp only [Grow.put_lit, Grow.setAt]; refine hK _ _ ?_; clear hK K))
        (refine Grow.lex_nil ?_; intro w7 hb7 _; replace hb7 := Grow.Cl.base hb7; clear Hopsq opsq)
        cases hc : (!((x.1.toNat : Int) == (y.1.toNat : Int)) || !((x.2.toNat : Int) == (y.2.toNat : Int)))
        · have hxy : x = y := by simp at hc; exact Prod.ext (BitVec.eq_of_toNat_eq (by omega)) (BitVec.eq_of_toNat_eq (by omega))
          have HXY := Lib.hid hxy
          clear hxy
          go_wp2_with fail
          refine ⟨⟨i + 1, by omega, by go_num, fun t a b ha hb ht => ?_, HW.out.trans (hb7.mono HW.out.size)⟩, by simp [intOf]; omega⟩
          by_cases h : t < i
          · exact HA.out t a b ha hb h
          · obtain rfl : t = i := by omega
            rw [HX.out] at ha; rw [HY.out] at hb
            cases ha; cases hb; exact HXY.out
        · have hne : ¬ K = L := fun h => by
            have h1 := HX.out; rw [h, HY.out] at h1
            obtain rfl : y = x := by simpa using h1
            simp at hc
          have HNE := Lib.hid hne
          clear hne
          go_wp2_with fail
          go_ret
          refine ⟨?_, HW.out.trans (hb7.mono HW.out.size)⟩
          rw [decide_eq_false HNE.out]
          rfl
      · obtain rfl : i = n := by omega
        have hd : decide ((i : Int) < (i : Int)) = false := by simp
        go_wp2_with fail
        go_ret
        refine ⟨?_, HW.out⟩
        have he : K = L := same_uptoG _ _ (by rw [← HN.out, ← HN'.out]) fun t x y hx hy => HA.out t x y hx hy (by have := (List.getElem?_eq_some_iff.1 hx).1; have := HN.out; omega)
        rw [decide_eq_true he]
        rfl
  · have q0 : ((n : Int) != (n' : Int)) = true := by simp; omega
    have hne : ¬ K = L := fun h => hln (by rw [HN.out, HN'.out, h])
    have HNE := Lib.hid hne
    clear hne hln
    go_wp2_with fail
    go_ret
    exact ⟨by rw [decide_eq_false HNE.out]; rfl, Below.refl _ _⟩
set_option maxHeartbeats 4000000 in
set_option maxRecDepth 100000 in
theorem equalB_any (K : List Bool) (q : Option Addr) (cap : Nat) (L : List Bool) (q' : Option Addr) (cap' : Nat) (w : World) (hlen : K.length ≤ 1000) (hd : RdX w q (boolCells K)) (hd' : RdX w q' (boolCells L)) :
    Calls Try.prog 36 #[.slice q K.length cap, .slice q' L.length cap'] w fun e w' => e = .returned (.bool (decide (K = L))) ∧ Below w.heap.size w w' := by
  have HD := Lib.hid hd; have HD' := Lib.hid hd'
  clear hd hd'
  obtain ⟨n, hn⟩ : ∃ n, n = K.length := ⟨_, rfl⟩
  have HN := Lib.hid hn
  obtain ⟨n', hn'⟩ : ∃ n', n' = L.length := ⟨_, rfl⟩
  have HN' := Lib.hid hn'
  rw [← hn] at hlen ⊢
  rw [← hn']
  clear hn hn'
  go_enter Try.func36, Try.ntmps36
  by_cases hln : n = n'
  · subst hln
    go_wp2_with fail
    go_loopw [13] (fun v wr => ∃ i : Nat, i ≤ n ∧ v = .int .i64 i ∧ (∀ (t : Nat) x y, K[t]? = some x → L[t]? = some y → t < i → x = y) ∧ Below w.heap.size w wr) (fun v _ => n - (intOf v).toNat)
    case atStart => exact ⟨0, by omega, rfl, fun t x y _ _ h => absurd h (Nat.not_lt_zero _), Below.refl _ _⟩
    case round =>
      obtain ⟨i, hi, rfl, hall, hb⟩ := hrel
      have HW := Lib.hid hb; have HA := Lib.hid hall
      clear hb hall
      by_cases hlt : i < n
      · have hd : decide ((i : Int) < (n : Int)) = true := by simp; omega
        obtain ⟨x, hx⟩ : ∃ x, K[i]? = some x := ⟨_, List.getElem?_eq_getElem (by rw [← HN.out]; exact hlt)⟩
        obtain ⟨y, hy⟩ : ∃ y, L[i]? = some y := ⟨_, List.getElem?_eq_getElem (by rw [← HN'.out]; exact hlt)⟩
        obtain ⟨A, hq, hA, p0⟩ := (HD.out.next HW.out).bl hx
        obtain ⟨A', hq', hA', o0⟩ := (HD'.out.next HW.out).bl hy
        subst hq hq'
        have HX := Lib.hid hx; have HY := Lib.hid hy
        have hiw : (0 : Int) ≤ (i : Int) := by omega
        have hiw' : (i : Int) < (n : Int) := by omega
        clear hx hy hA hA'
        go_upto_region 6 with fail
        clear hd
        have r0 : ∀ W, Grow.Cl wr.drew W → W.cell? (A.add i) = some (.bool x) := fun W h => cell_later (Grow.Cl.base h) p0
        have s0 : ∀ W, Grow.Cl wr.drew W → W.cell? (A'.add i) = some (.bool y) := fun W h => cell_later (Grow.Cl.base h) o0
        clear p0 o0
        (refine Grow.wp_region Grow.noPlan Grow.noPlan_stable (by kernel_rfl) (by kernel_rfl) ?_; intro opsq Hopsq)
        repeat (first | (refine Grow.lex_move rfl ?_ rfl ?_; (· first | exact Grow.wanted_none | (rw [Hopsq.out]; rfl)); intro K hK; simp only [Grow.put_lit, Grow.setAt, Grow.eval_lit, Grow.ev]; refine hK _ _ ?_; clear hK K) | (refine Grow.lex_assign rfl ?_ rfl ?_; (· first | exact Grow.wanted_none | (rw [Hopsq.out]; rfl)); intro K hK; simp only [Grow.put_lit, Grow.setAt, Grow.eval_lit, Grow.ev]; refine hK _ _ ?_; clear hK K) | (refine Grow.lex_plain rfl rfl ?_ rfl ?_; (· first | exact Grow.wanted_none | (rw [Hopsq.out]; rfl)); apply Exists.intro; refine ⟨fun wq hCq _ => ?_, ?_⟩; (· (go_wp2_with fail; refine ⟨rfl, Below.refl _ _, ?_⟩; simp only [Grow.getD_lit, Grow.nth]; rfl)); intro K hK; simp only [Grow.put_lit, Grow.setAt]; refine hK _ _ ?_; clear hK K) | (refine Grow.lex_nilCheck rfl rfl ?_ rfl ?_; (· first | exact Grow.wanted_none | (rw [Hopsq.out]; rfl)); intro K hK; simp only [Grow.put_lit, Grow.setAt]; refine hK _ _ ?_; clear hK K) | (refine Grow.lex_skip ?_ ?_; (· (rw [Hopsq.out]; rfl)); intro K hK; simp only [Grow.put_lit, Grow.setAt]; refine hK _ _ ?_; clear hK K))
        (refine Grow.lex_nil ?_; intro w7 hb7 _; replace hb7 := Grow.Cl.base hb7; clear Hopsq opsq)
        cases x <;> cases y
        · have hxy : false = false := rfl
          clear hxy
          go_wp2_with fail
          refine ⟨⟨i + 1, by omega, by go_num, fun t a b ha hb ht => ?_, HW.out.trans (hb7.mono HW.out.size)⟩, by simp [intOf]; omega⟩
          by_cases h : t < i
          · exact HA.out t a b ha hb h
          · obtain rfl : t = i := by omega
            rw [HX.out] at ha; rw [HY.out] at hb
            cases ha; cases hb; rfl
        · have hne : ¬ K = L := fun h => by
            have h1 := HX.out; rw [h, HY.out] at h1
            simp at h1
          have HNE := Lib.hid hne
          clear hne
          go_wp2_with fail
          go_ret
          refine ⟨?_, HW.out.trans (hb7.mono HW.out.size)⟩
          rw [decide_eq_false HNE.out]
          rfl
        · have hne : ¬ K = L := fun h => by
            have h1 := HX.out; rw [h, HY.out] at h1
            simp at h1
          have HNE := Lib.hid hne
          clear hne
          go_wp2_with fail
          go_ret
          refine ⟨?_, HW.out.trans (hb7.mono HW.out.size)⟩
          rw [decide_eq_false HNE.out]
          rfl
        · have hxy : true = true := rfl
          clear hxy
          go_wp2_with fail
          refine ⟨⟨i + 1, by omega, by go_num, fun t a b ha hb ht => ?_, HW.out.trans (hb7.mono HW.out.size)⟩, by simp [intOf]; omega⟩
          by_cases h : t < i
          · exact HA.out t a b ha hb h
          · obtain rfl : t = i := by omega
            rw [HX.out] at ha; rw [HY.out] at hb
            cases ha; cases hb; rfl
      · obtain rfl : i = n := by omega
        have hd : decide ((i : Int) < (i : Int)) = false := by simp
        go_wp2_with fail
        go_ret
        refine ⟨?_, HW.out⟩
        have he : K = L := same_uptoG _ _ (by rw [← HN.out, ← HN'.out]) fun t x y hx hy => HA.out t x y hx hy (by have := (List.getElem?_eq_some_iff.1 hx).1; have := HN.out; omega)
        rw [decide_eq_true he]
        rfl
  · have q0 : ((n : Int) != (n' : Int)) = true := by simp; omega
    have hne : ¬ K = L := fun h => hln (by rw [HN.out, HN'.out, h])
    have HNE := Lib.hid hne
    clear hne hln
    go_wp2_with fail
    go_ret
    exact ⟨by rw [decide_eq_false HNE.out]; rfl, Below.refl _ _⟩
end Go.Proofs.Ytpgcpalemnnbaaa
