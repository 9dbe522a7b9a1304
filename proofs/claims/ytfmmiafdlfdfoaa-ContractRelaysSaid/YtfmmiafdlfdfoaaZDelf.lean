/- The walks over slices.IndexFunc and slices.DeleteFunc at duties, by the closure of contract.tick. Conditions: duties that can be read, at most 1000 of them. -/
import Derived.Test.YtfmmiafdlfdfoaaZInsert
import Derived.Lib.SliceRun
namespace Go.Proofs.Ytfmmiafdlfdfoaa
open Go.RowKit
theorem grown_step {A B C : World} {row : Option Nat} (h : A.grownBy B row) (k : Below B.heap.size B C) : A.grownBy C row :=
  ⟨k.os.trans h.os, k.tape.trans h.tape, k.output.trans h.output, Nat.le_trans h.size k.size, fun j hj hn => (k.block j (Nat.lt_of_lt_of_le hj h.size)).trans (h.block j hj hn)⟩
theorem grown_set {A B : World} {g : Nat} (h : A.grownBy B (some g)) (i : Nat) (u : Value) : A.grownBy (B.setCell ⟨g, i, none⟩ u) (some g) :=
  ⟨h.os, h.tape, h.output, by simpa [World.setCell] using h.size, fun j hj hn => (Below.heap_setCell _ _ _ _ (fun e => hn (by rw [e]))).trans (h.block j hj hn)⟩
/-- The duties that are not shown. -/
def keepD (c : CS) (l : List Duty) : List Duty := l.filter fun d => !has c d.1 d.2.1
theorem keepD_snoc (c : CS) (l : List Duty) (i : Nat) (d : Duty) (h : l[i]? = some d) : keepD c (l.take (i + 1)) = if has c d.1 d.2.1 then keepD c (l.take i) else keepD c (l.take i) ++ [d] := by
  rw [List.take_add_one, h]
  cases hh : has c d.1 d.2.1 <;> simp [keepD, hh]
theorem keepD_all (c : CS) (l : List Duty) (h : ∀ (t : Nat) e, l[t]? = some e → has c e.1 e.2.1 = false) : keepD c l = l := by
  unfold keepD
  rw [List.filter_eq_self]
  intro d hd
  obtain ⟨i, hi, rfl⟩ := List.mem_iff_getElem.1 hd
  rw [h i _ (List.getElem?_eq_getElem hi)]; rfl
theorem keepD_len (c : CS) (l : List Duty) : (keepD c l).length ≤ l.length := List.length_filter_le _ _
theorem dutyCells_set3 (l : List Duty) (i : Nat) (d : Duty) (h : i < l.length) : dutyCells (l.set i d) = (((dutyCells l).set (i * 3) (.int .i64 d.1)).set (i * 3 + 1) (.int .i64 d.2.1)).set (i * 3 + 2) (.int .i64 d.2.2) := by
  induction l generalizing i with
  | nil => simp at h
  | cons e l ih =>
    cases i with
    | zero => rfl
    | succ i =>
      have h2 := ih i (by simpa using h)
      show e.cells ++ dutyCells (l.set i d) = (((e.cells ++ dutyCells l).set ((i + 1) * 3) _).set ((i + 1) * 3 + 1) _).set ((i + 1) * 3 + 2) _
      rw [h2]
      have h3 : e.cells.length = 3 := rfl
      rw [List.set_append_right _ _ (by rw [h3]; omega), List.set_append_right _ _ (by rw [h3]; omega), List.set_append_right _ _ (by rw [h3]; omega)]
      rw [h3, show (i + 1) * 3 - 3 = i * 3 by omega, show (i + 1) * 3 + 1 - 3 = i * 3 + 1 by omega, show (i + 1) * 3 + 2 - 3 = i * 3 + 2 by omega]
set_option maxHeartbeats 400000 in
theorem tickDel_any (d : Duty) (c : CS) (gc : Nat) (w : World) (hg : Blk w gc [.int .u32 (c.1.toNat : Int), .int .u32 (c.2.toNat : Int)]) :
    Calls Try.prog 55 #[cvD d, .pointer (some ⟨gc, 0, none⟩)] w fun e w' => e = .returned (.bool (has c d.1 d.2.1)) ∧ Below w.heap.size w w' := by
  have X0 : Blk (w.alloc (.cells #[.int .i64 d.1, .int .i64 d.2.1, .int .i64 d.2.2] 71)) w.heap.size [.int .i64 d.1, .int .i64 d.2.1, .int .i64 d.2.2] := by
    have hx := Blk.new w [.int .i64 d.1, .int .i64 d.2.1, .int .i64 d.2.2] 71
    exact hx
  have XW : Below w.heap.size w (w.alloc (.cells #[.int .i64 d.1, .int .i64 d.2.1, .int .i64 d.2.2] 71)) := below1' w _
  have HWW := Lib.hid XW; have HX0 := Lib.hid X0
  clear XW X0
  have HC := Lib.hid (hg.next HWW.out)
  clear hg
  go_enter Try.func55, Try.ntmps55
  go_upto_region 1 with fail
  generalize (w.alloc (.cells #[.int .i64 d.1, .int .i64 d.2.1, .int .i64 d.2.2] 71)) = w0 at *
  have HW := Lib.hid (Below.refl w0.heap.size w0)
  have hz0 := HX0.out.lt
  have k0 := (HX0.out).cell 0 _ rfl
  have k1 := (HX0.out).cell 1 _ rfl
  have k2 := (HX0.out).cell 2 _ rfl
  have c0 := (HC.out).cell 0 _ rfl
  have c1 := (HC.out).cell 1 _ rfl
  go_wp2_with fail
  refine (has_any c d.1 d.2.1 _).mono ?_
  rintro e w1 ⟨rfl, hb1⟩
  go_wp2_with fail
  go_ret
  exact ⟨rfl, HWW.out.trans (hb1.mono HWW.out.size)⟩
set_option maxHeartbeats 1000000 in
set_option maxRecDepth 100000 in
theorem idxf_any (L : List Duty) (q : Option Addr) (cap : Nat) (c : CS) (gc : Nat) (w : World) (hn : L.length ≤ 1000) (hr : RdD w q L) (hg : Blk w gc [.int .u32 (c.1.toNat : Int), .int .u32 (c.2.toNat : Int)]) :
    Calls Try.prog 75 #[.slice q L.length cap, .func (.func 55) #[] #[.pointer (some ⟨gc, 0, none⟩)]] w fun e w' => ∃ z : Int, e = .returned (.int .i64 z) ∧ Below w.heap.size w w' ∧
      ((z = -1 ∧ ∀ (t : Nat) e, L[t]? = some e → has c e.1 e.2.1 = false) ∨ ∃ (k : Nat) (d : Duty), z = (k : Int) ∧ L[k]? = some d ∧ has c d.1 d.2.1 = true ∧ ∀ (t : Nat) e, L[t]? = some e → t < k → has c e.1 e.2.1 = false) := by
  have HR := Lib.hid hr; have HG := Lib.hid hg
  clear hr hg
  obtain ⟨n, hnn⟩ : ∃ n, n = L.length := ⟨_, rfl⟩
  have HN := Lib.hid hnn
  rw [← hnn] at hn ⊢
  clear hnn
  go_enter Try.func75, Try.ntmps75
  go_wp2_with fail
  go_loopw [8] (fun v wr => ∃ k : Nat, k ≤ n ∧ v = .int .i64 k ∧ (∀ (t : Nat) e, L[t]? = some e → t < k → has c e.1 e.2.1 = false) ∧ Below w.heap.size w wr) (fun v _ => n - (intOf v).toNat)
  case atStart => exact ⟨0, by omega, rfl, fun t e _ h => absurd h (Nat.not_lt_zero _), Below.refl _ _⟩
  case round =>
    obtain ⟨k, hk, rfl, hall, hb⟩ := hrel
    have HW := Lib.hid hb; have HA := Lib.hid hall
    clear hb hall
    by_cases hlt : k < n
    · have hd : decide ((k : Int) < (n : Int)) = true := by simp; omega
      obtain ⟨d, hdd⟩ : ∃ d, L[k]? = some d := ⟨_, List.getElem?_eq_getElem (by rw [← HN.out]; exact hlt)⟩
      obtain ⟨A, hq, hA, r0, r1, r2⟩ := (HR.out.next HW.out).at hdd
      subst hq
      have HDD := Lib.hid hdd
      have hkw : (0 : Int) ≤ (k : Int) := by omega
      have hkw' : (k : Int) < (n : Int) := by omega
      clear hdd hA
      have HCL := Lib.hid (tickDel_any d c gc wr (HG.out.next HW.out))
      cases hh : has c d.1 d.2.1
      · rw [hh] at HCL
        have HHH := Lib.hid hh
        clear hh
        go_wp2_with fail
        refine HCL.out.mono ?_
        rintro e w1 ⟨rfl, hb1⟩
        go_wp2_with fail
        refine ⟨⟨k + 1, by omega, by go_num, fun t e he ht => ?_, HW.out.trans (hb1.mono HW.out.size)⟩, by simp [intOf]; omega⟩
        by_cases h : t < k
        · exact HA.out t e he h
        · obtain rfl : t = k := by omega
          rw [HDD.out] at he; cases he; exact HHH.out
      · rw [hh] at HCL
        have HHH := Lib.hid hh
        clear hh
        go_wp2_with fail
        refine HCL.out.mono ?_
        rintro e w1 ⟨rfl, hb1⟩
        go_wp2_with fail
        go_ret
        exact ⟨_, rfl, HW.out.trans (hb1.mono HW.out.size), .inr ⟨k, d, rfl, HDD.out, HHH.out, HA.out⟩⟩
    · obtain rfl : k = n := by omega
      have hd : decide ((k : Int) < (k : Int)) = false := by simp
      go_wp2_with fail
      go_ret
      exact ⟨_, rfl, HW.out, .inl ⟨rfl, fun t e he => HA.out t e he (by have := (List.getElem?_eq_some_iff.1 he).1; have := HN.out; omega)⟩⟩
/-- clear of the rest of a row of duties. -/
theorem run_clear_D (w : World) (g5 o n cap : Nat) (cur : Array Value) (ty : TypeId) (hg : w.heap[g5]? = some (.cells cur 71 (0, 0))) (hn : 0 < n) (hfit : o + n * 3 ≤ cur.size) :
    (Builtin.clear_ #[36] ty #[.slice (some ⟨g5, o, none⟩) n cap]).run Try.prog w = .ok (.tuple #[]) (w.setRow g5 (cur.toList.take o ++ List.replicate (n * 3) (Value.int .i64 0) ++ cur.toList.drop (o + n * 3)).toArray) := by
  have hz : ∀ w, (zeroValue 71).run Try.prog w = .ok (.agg #[.int .i64 0, .int .i64 0, .int .i64 0]) w := fun w => by kernel_rfl
  have hzc : (Builtin.zeroCells (Value.agg #[.int .i64 0, .int .i64 0, .int .i64 0]).cells n).toList = List.replicate (n * 3) (.int .i64 0) := by
    apply List.ext_getElem
    · simp [Builtin.zeroCells, Value.cells]
    · intro i h1 h2
      have h3 : i % 3 < 3 := Nat.mod_lt _ (by omega)
      simp only [Builtin.zeroCells, Value.cells, Array.toList_map, Array.toList_range, List.getElem_map, List.getElem_range, List.getElem_replicate]
      show (#[Value.int .i64 0, .int .i64 0, .int .i64 0])[i % 3]! = _
      rcases (show i % 3 = 0 ∨ i % 3 = 1 ∨ i % 3 = 2 by omega) with h | h | h <;> rw [h] <;> rfl
  have hst := run_storeCells_at Try.prog g5 o 71 (List.replicate (n * 3) (.int .i64 0)) 0 cur w hg (by simpa using hfit) (fun v hv => by rw [List.eq_of_mem_replicate hv]; rfl)
  simp only [Nat.add_zero, List.length_replicate] at hst
  obtain ⟨m, rfl⟩ : ∃ m, n = m + 1 := ⟨n - 1, by omega⟩
  simp [Builtin.clear_, run_underlying Try.underlying36, hz, hzc, hst]
set_option maxHeartbeats 4000000 in
set_option maxRecDepth 100000 in
theorem delf_any (base n cap gc : Nat) (q : Option Addr) (L : List Duty) (c : CS) (w : World) (hn : n ≤ 1000) (hown : w.ownsRow base 71 3 (.slice q n cap) n (dutyCells L)) (hl : L.length = n) (hg : Blk w gc [.int .u32 (c.1.toNat : Int), .int .u32 (c.2.toNat : Int)]) (hne : some gc ≠ (Value.slice q n cap).ownBlock) (hbw : base ≤ w.heap.size) :
    Calls Try.prog 54 #[.slice q n cap, .func (.func 55) #[] #[.pointer (some ⟨gc, 0, none⟩)]] w fun e w' => e = .returned (.slice q (keepD c L).length cap) ∧ w'.ownsRow base 71 3 (.slice q (keepD c L).length cap) (keepD c L).length (dutyCells (keepD c L)) ∧ Below base w w' ∧ w.grownBy w' (Value.slice q n cap).ownBlock := by
  have hIF := idxf_any L q cap c gc w (by omega) (rdD_of_owns hown hl) hg
  rw [hl] at hIF
  have HIF := Lib.hid hIF; have HO0 := Lib.hid hown; have HC0 := Lib.hid hg; have HN := Lib.hid hl; have HNE := Lib.hid hne
  clear hIF hown hg hl hne
  go_enter Try.func54, Try.ntmps54
  go_wp2_with fail
  refine HIF.out.mono ?_
  rintro e w1 ⟨z, rfl, hb1, hz⟩
  have HB1 := Lib.hid hb1
  clear hb1
  rcases hz with ⟨rfl, hall⟩ | ⟨k, d, rfl, hkd, hhk, hall⟩
  · have HK := Lib.hid (keepD_all c L hall)
    clear hall
    go_wp2_with fail
    go_ret
    rw [HK.out, HN.out]
    exact ⟨rfl, rowLater HO0.out HB1.out, HB1.out.mono hbw, ⟨HB1.out.os, HB1.out.tape, HB1.out.output, HB1.out.size, fun k hk _ => HB1.out.block k hk⟩⟩
  · have hkn : k < n := by have := (List.getElem?_eq_some_iff.1 hkd).1; have := HN.out; omega
    obtain ⟨g5, cap', hv, _, _⟩ := World.ownsRow.form HO0.out (by omega)
    obtain ⟨rfl, rfl⟩ : q = some ⟨g5, 0, none⟩ ∧ cap = cap' := by simpa using hv
    clear hv
    obtain ⟨hb5, hnc, hcm, _⟩ := row_parts HO0.out
    have hgc : gc ≠ g5 := fun h => HNE.out (by rw [h]; rfl)
    have hz0 : ((k : Int) == -1) = false := by rw [beq_eq_false_iff_ne]; omega
    have hk0 : (0 : Int) ≤ (k : Int) := by omega
    have hk1 : (k : Int) < (n : Int) := by omega
    have hL0 : keepD c (L.take k) = L.take k := keepD_all c _ (fun t e he => by
      have hlt := (List.getElem?_eq_some_iff.1 he).1
      simp at hlt
      rw [List.getElem?_take, if_pos (by omega)] at he
      exact hall t e he (by omega))
    have hL1 : keepD c (L.take (k + 1)) = L.take k := by rw [keepD_snoc c L k d hkd, hhk, if_pos rfl, hL0]
    have HL1 := Lib.hid hL1
    have hcap : (cap : Int) ≤ 9223372036854775807 := by unfold maxLen at hcm; omega
    clear hkd hhk hall hL0 hL1 HIF
    have HO1 := Lib.hid (rowLater HO0.out HB1.out); have HC1 := Lib.hid (HC0.out.next HB1.out)
    go_wp2_with fail
    go_loopw [5, 6] (fun v5 v6 wr => ∃ (i j : Nat) (R : List Duty), v5 = .int .i64 i ∧ v6 = .int .i64 j ∧ i < j ∧ j ≤ n ∧ R.length = n ∧ i = (keepD c (L.take j)).length ∧ R.take i = keepD c (L.take j) ∧ (∀ t, j ≤ t → R[t]? = L[t]?) ∧ wr.ownsRow base 71 3 (.slice (some ⟨g5, 0, none⟩) n cap) n (dutyCells R) ∧ Blk wr gc [.int .u32 (c.1.toNat : Int), .int .u32 (c.2.toNat : Int)] ∧ Below base w wr ∧ w.grownBy wr (some g5)) (fun _ v6 _ => n - (intOf v6).toNat)
    case atStart =>
      refine ⟨k, k + 1, L, rfl, by go_num, by omega, by omega, HN.out, ?_, ?_, fun t _ => rfl, HO1.out, HC1.out, HB1.out.mono hbw, ⟨HB1.out.os, HB1.out.tape, HB1.out.output, HB1.out.size, fun k hk _ => HB1.out.block k hk⟩⟩
      · rw [HL1.out, List.length_take, HN.out]; omega
      · rw [HL1.out]
    case round =>
      clear HO0 HC0 HB1 HO1 HC1 HL1 hk0 hk1 hz0 hkn
      obtain ⟨i, j, R, rfl, rfl, hij, hjn, hRl, hil, hRt, hRh, hown, hc, hbb, hgr⟩ := hrel
      have HO := Lib.hid hown; have HC := Lib.hid hc; have HBB := Lib.hid hbb; have HG := Lib.hid hgr; have HRL := Lib.hid hRl; have HIL := Lib.hid hil; have HRT := Lib.hid hRt; have HRH := Lib.hid hRh
      clear hown hc hbb hgr hRl hil hRt hRh
      by_cases hlt : j < n
      · have hd : decide ((j : Int) < (n : Int)) = true := by simp; omega
        have hd' : decide (j < n) = true := decide_eq_true hlt
        obtain ⟨u, hu⟩ : ∃ u, R[j]? = some u := ⟨_, List.getElem?_eq_getElem (by rw [HRL.out]; exact hlt)⟩
        have hLj : L[j]? = some u := by rw [← HRH.out j (Nat.le_refl _)]; exact hu
        have HKS := Lib.hid (keepD_snoc c L j u hLj)
        obtain ⟨A, hqA, _, r0, r1, r2⟩ := (rdD_of_owns HO.out HRL.out).at hu
        obtain rfl : A = ⟨g5, 0, none⟩ := by simpa using hqA.symm
        rw [Addr.add_lit, Nat.zero_add] at r0 r1 r2
        have hj0 : (0 : Int) ≤ (j : Int) := by omega
        have hj1 : (j : Int) < (n : Int) := by omega
        clear hu hLj hqA
        have X0 : Blk (wr.alloc (.cells #[.int .i64 u.1, .int .i64 u.2.1, .int .i64 u.2.2] 71)) wr.heap.size [.int .i64 u.1, .int .i64 u.2.1, .int .i64 u.2.2] := by
          have hx := Blk.new wr [.int .i64 u.1, .int .i64 u.2.1, .int .i64 u.2.2] 71
          exact hx
        have XW : Below wr.heap.size wr (wr.alloc (.cells #[.int .i64 u.1, .int .i64 u.2.1, .int .i64 u.2.2] 71)) := below1' wr _
        have HWW := Lib.hid XW; have HX0 := Lib.hid X0
        clear XW X0
        go_upto_region 8 with fail
        generalize (wr.alloc (.cells #[.int .i64 u.1, .int .i64 u.2.1, .int .i64 u.2.2] 71)) = w6 at *
        have HW := Lib.hid (Below.refl w6.heap.size w6)
        have hz0 := HX0.out.lt
        have HO6 := Lib.hid (rowLater HO.out HWW.out); have HC6 := Lib.hid (HC.out.next HWW.out)
        have HB6 := Lib.hid (HBB.out.trans (HWW.out.mono (Nat.le_trans hbw HG.out.size)))
        have HG6 := Lib.hid (grown_step HG.out HWW.out)
        clear r0 r1 r2 HO HC HBB HG HWW
        have d0 := (HX0.out).cell 0 _ rfl
        have d1 := (HX0.out).cell 1 _ rfl
        have d2 := (HX0.out).cell 2 _ rfl
        have HCL := Lib.hid (tickDel_any u c gc w6 HC6.out)
        cases hh : has c u.1 u.2.1
        · rw [hh] at HCL HKS
          clear hh
          go_wp2_with fail
          refine HCL.out.mono ?_
          rintro e w7 ⟨rfl, hb7⟩
          have HO7 := Lib.hid (rowLater HO6.out hb7); have HC7 := Lib.hid (HC6.out.next hb7)
          have HB7 := Lib.hid (HB6.out.trans (hb7.mono (Nat.le_trans hbw HG6.out.size)))
          have HG7 := Lib.hid (grown_step HG6.out hb7)
          have HX7 := Lib.hid (HX0.out.next hb7)
          clear hb7 HO6 HC6 HB6 HG6 HX0 HCL d0 d1 d2 hz0
          have d0 := (HX7.out).cell 0 _ rfl
          have d1 := (HX7.out).cell 1 _ rfl
          have d2 := (HX7.out).cell 2 _ rfl
          obtain ⟨x, hx⟩ : ∃ x, R[i]? = some x := ⟨_, List.getElem?_eq_getElem (by rw [HRL.out]; omega)⟩
          obtain ⟨A, hqA, _, r0, r1, r2⟩ := (rdD_of_owns HO7.out HRL.out).at hx
          obtain rfl : A = ⟨g5, 0, none⟩ := by simpa using hqA.symm
          rw [Addr.add_lit, Nat.zero_add] at r0 r1 r2
          have f0 := row_fr HO7.out (i * 3); have f1 := row_fr HO7.out (i * 3 + 1); have f2 := row_fr HO7.out (i * 3 + 2)
          have hi0 : (0 : Int) ≤ (i : Int) := by omega
          have hi1 : (i : Int) < (n : Int) := by omega
          clear hx hqA
          go_wp2_with fail
          refine ⟨⟨i + 1, j + 1, R.set i u, by go_num, by go_num, by omega, by omega, by rw [List.length_set]; exact HRL.out, ?_, ?_, fun t ht => ?_, ?_, ?_, ?_, ?_⟩, by simp [intOf]; omega⟩
          · rw [HKS.out, if_neg (by simp), List.length_append, ← HIL.out]; rfl
          · rw [HKS.out, if_neg (by simp), ← HRT.out, List.take_add_one, List.take_set_of_le (Nat.le_refl _), List.getElem?_set_self (by rw [HRL.out]; omega)]; rfl
          · rw [List.getElem?_set_ne (by omega)]; exact HRH.out t (by omega)
          · rw [dutyCells_set3 R i u (by rw [HRL.out]; omega)]
            exact row_upd (row_upd (row_upd HO7.out _ _) _ _) _ _
          · exact ((HC7.out.other hgc _).other hgc _).other hgc _
          · exact ((HB7.out.setCell (p := ⟨g5, i * 3, none⟩) hb5 _).setCell (p := ⟨g5, i * 3 + 1, none⟩) hb5 _).setCell (p := ⟨g5, i * 3 + 2, none⟩) hb5 _
          · exact grown_set (grown_set (grown_set HG7.out _ _) _ _) _ _
        · rw [hh] at HCL HKS
          clear hh
          go_wp2_with fail
          refine HCL.out.mono ?_
          rintro e w7 ⟨rfl, hb7⟩
          go_wp2_with fail
          exact ⟨⟨i, j + 1, R, rfl, by go_num, by omega, by omega, HRL.out, by rw [HKS.out, if_pos trivial]; exact HIL.out, by rw [HKS.out, if_pos trivial]; exact HRT.out, fun t ht => HRH.out t (by omega), rowLater HO6.out hb7, HC6.out.next hb7, HB6.out.trans (hb7.mono (Nat.le_trans hbw HG6.out.size)), grown_step HG6.out hb7⟩, by simp [intOf]; omega⟩
      · obtain rfl : j = n := by omega
        have hd : decide ((j : Int) < (j : Int)) = false := by simp
        have ht : L.take j = L := by rw [← HN.out, List.take_length]
        rw [ht] at HIL HRT
        obtain ⟨_, _, _, cur, hh, hs, hX⟩ := row_parts HO.out
        have hi0 : (0 : Int) ≤ (i : Int) := by omega
        have hi1 : (i : Int) < (j : Int) := by omega
        have hcl := fun ty => run_clear_D wr g5 (i * 3) (j - i) (cap - i) cur ty hh (by omega) (by omega)
        obtain ⟨R2, hR2⟩ : ∃ R2, R2 = cur.toList.take (i * 3) ++ List.replicate ((j - i) * 3) (Value.int .i64 0) ++ cur.toList.drop (i * 3 + (j - i) * 3) := ⟨_, rfl⟩
        rw [← hR2] at hcl
        have HR2 := Lib.hid hR2; have HH := Lib.hid hh; have HS := Lib.hid hs; have HX := Lib.hid hX
        clear hR2 hh hs hX ht
        go_wp2_with fail
        go_ret
        have hlen : R2.length = cap * 3 := by
          rw [HR2.out]
          have := HS.out
          simp; omega
        have htk : R2.take (i * 3) = dutyCells (keepD c L) := by
          rw [← HRT.out, dutyCells_take, ← HX.out, List.take_take, Nat.min_eq_left (by omega), HR2.out, List.append_assoc, List.take_append_of_le_length (by have := HS.out; simp; omega), List.take_take, Nat.min_self]
        have hrow := below_row HBB.out hb5 R2.toArray
        refine ⟨by rw [← HIL.out]; rfl, ⟨by rw [dutyCells_len], .inr ⟨g5, cap, R2.toArray, by rw [← HIL.out], hb5, setRow_heap _ _ _ _ _ _ HH.out, by rw [← HIL.out]; omega, hcm, by simpa using hlen, by rw [← HIL.out]; exact htk⟩⟩, hrow, ⟨HG.out.os, HG.out.tape, HG.out.output, by simp only [World.setRow, Array.size_modify]; exact HG.out.size, fun k hk hne => ?_⟩⟩
        rw [setRow_other _ _ _ _ (fun h => hne (by rw [h]; rfl))]
        exact HG.out.block k hk hne
end Go.Proofs.Ytfmmiafdlfdfoaa
