/- The walk over contract's tick. Conditions: a trace whose building's cars can be read, at most 64 duties, in order, with ages up to the deadline, which is at most 10000. -/
import Derived.Test.YtfmmiafdlfdfoaaZDelf
import Derived.Test.YtfmmiafdlfdfoaaZInjEq
import Derived.Test.YtfmmiafdlfdfoaaZIndic
import Derived.Test.YtfmmiafdlfdfoaaZTrace
namespace Go.Proofs.Ytfmmiafdlfdfoaa
open Go.RowKit
/-- A trace's cells. -/
abbrev trC (b : BldV) (q : Option Addr) (cap : Nat) (lim : Int) (n : Nat) (q9 : Option Addr) (cap9 : Nat) : List Value := [.int .i64 b.fl, .int .i64 b.deb, .int .i64 b.room, .int .i64 b.park, .float .f64 b.em, .float .f64 b.fu, .float .f64 b.ov, .slice q b.cars.length cap, .int .i64 lim, .slice q9 n cap9]
def ageK (l : List Duty) (k : Nat) : List Duty := (l.take k).map agedD ++ l.drop k
theorem ageK_len (l : List Duty) (k : Nat) : (ageK l k).length = l.length := by simp [ageK]; omega
theorem ageK_zero (l : List Duty) : ageK l 0 = l := by simp [ageK]
theorem ageK_all (l : List Duty) : ageK l l.length = l.map agedD := by simp [ageK]
theorem ageK_at (l : List Duty) (k : Nat) (d : Duty) (h : l[k]? = some d) : (ageK l k)[k]? = some d := by
  have hk := (List.getElem?_eq_some_iff.1 h).1
  unfold ageK
  rw [List.getElem?_append_right (by simp; omega)]
  simp only [List.length_map, List.length_take]
  rw [Nat.min_eq_left (by omega), List.getElem?_drop, Nat.sub_self, Nat.add_zero]
  exact h
theorem ageK_set (l : List Duty) (k : Nat) (d : Duty) (h : l[k]? = some d) : (ageK l k).set k (agedD d) = ageK l (k + 1) := by
  obtain ⟨hk, rfl⟩ := List.getElem?_eq_some_iff.1 h
  unfold ageK
  rw [List.set_append_right _ _ (by simp; omega)]
  simp only [List.length_map, List.length_take]
  rw [Nat.min_eq_left (by omega), Nat.sub_self, List.drop_eq_getElem_cons hk, List.set_cons_zero, List.take_add_one, List.getElem?_eq_getElem hk, Option.toList_some, List.map_append, List.append_assoc]
  rfl
theorem dutyCells_setA (l : List Duty) (i : Nat) (d : Duty) (a : Int) (h : l[i]? = some d) : dutyCells (l.set i (d.1, d.2.1, a)) = (dutyCells l).set (i * 3 + 2) (.int .i64 a) := by
  obtain ⟨hi, rfl⟩ := List.getElem?_eq_some_iff.1 h
  rw [dutyCells_set3 l i _ hi]
  have h0 := dutyCells_at l i _ h 0 _ rfl
  have h1 := dutyCells_at l i _ h 1 _ rfl
  rw [Nat.add_zero] at h0
  obtain ⟨b0, e0⟩ := List.getElem?_eq_some_iff.1 h0
  obtain ⟨b1, e1⟩ := List.getElem?_eq_some_iff.1 h1
  congr 1
  have s0 : (dutyCells l).set (i * 3) (.int .i64 l[i].1) = dutyCells l := by rw [← e0]; exact List.set_getElem_self b0
  rw [s0]
  rw [← e1]; exact List.set_getElem_self b1
theorem keepD_aged (c : CS) (l : List Duty) : keepD c (l.map agedD) = agedL c l := by
  unfold keepD agedL
  rw [List.filter_map]
  rfl
/-- The duties behind a tick that keeps the contract. -/
def tickD (b : BldV) (l : List Duty) (m : MarkV) : List Duty := insF (agedL (showsV b.fl m.2) l) (listC (both m.1 (hallC b)))
theorem rdC_low {w w' : World} {q : Option Addr} {l : List CarV} {g : Nat} (h : RdC w q l) (hq : ∀ A, q = some A → A.block < g) (hb : Below g w w') (hs : w.heap.size ≤ w'.heap.size) : RdC w' q l := by
  intro i c hc
  obtain ⟨A, hA, hlt, hcell⟩ := h i c hc
  refine ⟨A, hA, Nat.lt_of_lt_of_le hlt hs, fun j u hu => ?_⟩
  rw [hb.cell (by rw [addr_block]; exact hq A hA)]
  exact hcell j u hu
/-- What BinarySearchFunc tells. -/
def bsR (L : List Duty) (d : Duty) : Value → World → Prop := fun v _ => ∃ (i : Nat) (f : Bool), v = .tuple #[.int .i64 i, .bool f] ∧ i ≤ L.length ∧ (∀ (t : Nat) e, L[t]? = some e → t < i → key e < key d) ∧ (∀ (t : Nat) e, L[t]? = some e → i ≤ t → key d ≤ key e) ∧ (f = true ↔ ∃ e, L[i]? = some e ∧ key e = key d)
theorem bsR_stable (L : List Duty) (d : Duty) (v : Value) : Grow.Stable (bsR L d v) := fun _ _ h _ => h
theorem bsR_form {L : List Duty} {d : Duty} {v : Value} {w : World} (h : bsR L d v w) : ∃ (i : Nat) (f : Bool), v = .tuple #[.int .i64 i, .bool f] := by
  obtain ⟨i, f, hv, _⟩ := h
  exact ⟨i, f, hv⟩
theorem bsR_out {L : List Duty} {d : Duty} {i : Nat} {f : Bool} {w : World} (h : bsR L d (.tuple #[.int .i64 i, .bool f]) w) : i ≤ L.length ∧ (∀ (t : Nat) e, L[t]? = some e → t < i → key e < key d) ∧ (∀ (t : Nat) e, L[t]? = some e → i ≤ t → key d ≤ key e) ∧ (f = true ↔ ∃ e, L[i]? = some e ∧ key e = key d) := by
  obtain ⟨i', f', hv, h1⟩ := h
  have h2 : (i : Int) = (i' : Int) ∧ f = f' := by simpa using hv
  obtain rfl : i = i' := by omega
  obtain rfl := h2.2
  exact h1
set_option maxHeartbeats 8000000 in
set_option maxRecDepth 100000 in
theorem tick_any (b : BldV) (q : Option Addr) (cap : Nat) (lim : Int) (D : List Duty) (q9 : Option Addr) (cap9 gt base : Nat) (m : MarkV) (w : World) (hlen : b.cars.length ≤ 1000) (hD : D.length ≤ 64) (hages : ∀ d ∈ D, 0 ≤ d.2.2 ∧ d.2.2 ≤ lim) (hlim : lim ≤ 10000) (hs : D.Pairwise (fun e d => key e < key d)) (hk : ∀ e ∈ D, 1 ≤ e.2.1 ∧ e.2.1 ≤ 2)
    (hr : RdC w q b.cars) (hq : ∀ A, q = some A → A.block < gt) (ht : Blk w gt (trC b q cap lim D.length q9 cap9)) (hgt : gt < base) (hbw : base ≤ w.heap.size) (hown : w.ownsRow base 71 3 (.slice q9 D.length cap9) D.length (dutyCells D)) :
    Calls Try.prog 45 #[.pointer (some ⟨gt, 0, none⟩), cvM m] w fun e w' => e = .returned (.bool (agedLate lim D)) ∧ Below gt w w' ∧
      (agedLate lim D = false → ∃ q10 cap10, Blk w' gt (trC b q cap lim (tickD b D m).length q10 cap10) ∧ w'.ownsRow base 71 3 (.slice q10 (tickD b D m).length cap10) (tickD b D m).length (dutyCells (tickD b D m))) := by
  have X0 : Blk (w.alloc (.cells #[.int .u32 (m.1.1.toNat : Int), .int .u32 (m.1.2.toNat : Int), .int .i64 m.2.1, .int .i64 m.2.2.1, .int .i64 m.2.2.2] 51)) w.heap.size [.int .u32 (m.1.1.toNat : Int), .int .u32 (m.1.2.toNat : Int), .int .i64 m.2.1, .int .i64 m.2.2.1, .int .i64 m.2.2.2] := by
    have hx := Blk.new w [.int .u32 (m.1.1.toNat : Int), .int .u32 (m.1.2.toNat : Int), .int .i64 m.2.1, .int .i64 m.2.2.1, .int .i64 m.2.2.2] 51
    exact hx
  have XW : Below w.heap.size w (w.alloc (.cells #[.int .u32 (m.1.1.toNat : Int), .int .u32 (m.1.2.toNat : Int), .int .i64 m.2.1, .int .i64 m.2.2.1, .int .i64 m.2.2.2] 51)) := below1' w _
  have HWW := Lib.hid XW; have HX0 := Lib.hid X0
  clear XW X0
  have HT := Lib.hid (ht.next HWW.out); have HO := Lib.hid (rowLater hown HWW.out); have HR := Lib.hid hr; have HQ := Lib.hid hq
  have HNM := Lib.hid (row_nelt hown (Nat.le_refl _))
  have HL1 := Lib.hid hlen; have HAG := Lib.hid hages; have HSO := Lib.hid hs; have HKK := Lib.hid hk
  clear ht hown hr hq hlen hages hs hk
  obtain ⟨n, hn⟩ : ∃ n, n = D.length := ⟨_, rfl⟩
  have HN := Lib.hid hn
  rw [← hn] at hD HT HO HNM
  clear hn
  go_enter Try.func45, Try.ntmps45
  go_upto_region 1 with fail
  generalize (w.alloc (.cells #[.int .u32 (m.1.1.toNat : Int), .int .u32 (m.1.2.toNat : Int), .int .i64 m.2.1, .int .i64 m.2.2.1, .int .i64 m.2.2.2] 51)) = w0 at *
  have HW := Lib.hid (Below.refl w0.heap.size w0)
  have hz0 := HX0.out.lt
  have t0 := (HT.out).cell 0 _ rfl
  have t1 := (HT.out).cell 1 _ rfl
  have t2 := (HT.out).cell 2 _ rfl
  have t3 := (HT.out).cell 3 _ rfl
  have t4 := (HT.out).cell 4 _ rfl
  have t5 := (HT.out).cell 5 _ rfl
  have t6 := (HT.out).cell 6 _ rfl
  have t7 := (HT.out).cell 7 _ rfl
  have t8 := (HT.out).cell 8 _ rfl
  have t9 := (HT.out).cell 9 _ rfl
  go_wp2_with fail
  have hbw0 : base ≤ w0.heap.size := Nat.le_trans hbw HWW.out.size
  go_loopw [17] (fun v wr => ∃ k : Nat, k ≤ n ∧ v = .int .i64 k ∧ agedLate lim (D.take k) = false ∧ wr.ownsRow base 71 3 (.slice q9 n cap9) n (dutyCells (ageK D k)) ∧ Blk wr gt (trC b q cap lim n q9 cap9) ∧ Blk wr w.heap.size [.int .u32 (m.1.1.toNat : Int), .int .u32 (m.1.2.toNat : Int), .int .i64 m.2.1, .int .i64 m.2.2.1, .int .i64 m.2.2.2] ∧ Below base w0 wr) (fun v _ => n - (intOf v).toNat)
  case atStart => exact ⟨0, by omega, rfl, by simp [agedLate], by rw [ageK_zero]; exact HO.out, HT.out, HX0.out, Below.refl _ _⟩
  case round =>
    clear HO HT HX0 t0 t1 t2 t3 t4 t5 t6 t7 t8 t9 HW
    obtain ⟨k, hkn, rfl, hla, hown, ht, hm, hb⟩ := hrel
    have HO := Lib.hid hown; have HT := Lib.hid ht; have HM := Lib.hid hm; have HB := Lib.hid hb; have HLA := Lib.hid hla
    clear hown ht hm hb hla
    have hbr : base ≤ wr.heap.size := Nat.le_trans hbw0 HB.out.size
    have hgr : gt < wr.heap.size := HT.out.lt
    by_cases hlt : k < n
    · have hd : decide ((k : Int) < (n : Int)) = true := by simp; omega
      obtain ⟨d, hdd⟩ : ∃ d, D[k]? = some d := ⟨_, List.getElem?_eq_getElem (by rw [← HN.out]; exact hlt)⟩
      obtain ⟨hag0, hag1⟩ := HAG.out d (List.mem_of_getElem? hdd)
      have hak := ageK_at D k d hdd
      have HAS := Lib.hid (ageK_set D k d hdd)
      have HCS := Lib.hid (dutyCells_setA (ageK D k) k d (d.2.2 + 1) hak)
      have HLS := Lib.hid (agedLate_take lim D k d hdd)
      have HMEM := Lib.hid (List.mem_of_getElem? hdd)
      obtain ⟨g5, cap', hv, hg5b, hg5l⟩ := World.ownsRow.form HO.out (by omega)
      obtain ⟨rfl, rfl⟩ : q9 = some ⟨g5, 0, none⟩ ∧ cap9 = cap' := by simpa using hv
      obtain ⟨A, hqA, _, r0, r1, r2⟩ := (rdD_of_owns HO.out (by rw [ageK_len]; exact HN.out.symm)).at hak
      obtain rfl : A = ⟨g5, 0, none⟩ := by simpa using hqA.symm
      rw [Addr.add_lit, Nat.zero_add] at r0 r1 r2
      have f2 := row_fr HO.out (k * 3 + 2)
      have hk0 : (0 : Int) ≤ (k : Int) := by omega
      have hk1 : (k : Int) < (n : Int) := by omega
      have hg : gt ≠ g5 := by omega
      have hgm : w.heap.size ≠ g5 := fun e => HNM.out (by rw [e]; rfl)
      clear hdd hak hv hqA
      have t0 := (HT.out).cell 0 _ rfl
      have t1 := (HT.out).cell 1 _ rfl
      have t2 := (HT.out).cell 2 _ rfl
      have t3 := (HT.out).cell 3 _ rfl
      have t4 := (HT.out).cell 4 _ rfl
      have t5 := (HT.out).cell 5 _ rfl
      have t6 := (HT.out).cell 6 _ rfl
      have t7 := (HT.out).cell 7 _ rfl
      have t8 := (HT.out).cell 8 _ rfl
      have t9 := (HT.out).cell 9 _ rfl
      go_upto_region 5 with fail
      have HO1 := Lib.hid (row_upd HO.out (k * 3 + 2) (.int .i64 (d.2.2 + 1)))
      have HT1 := Lib.hid (HT.out.other (i := k * 3 + 2) hg (.int .i64 (d.2.2 + 1)))
      have HM1 := Lib.hid (HM.out.other (i := k * 3 + 2) hgm (.int .i64 (d.2.2 + 1)))
      have HB1 := Lib.hid (HB.out.setCell (p := ⟨g5, k * 3 + 2, none⟩) hg5b (.int .i64 (d.2.2 + 1)))
      clear HO HT HM HB r0 r1 r2 f2 t0 t1 t2 t3 t4 t5 t6 t7 t8 t9 hgr
      rw [← HCS.out, show ((d.1, d.2.1, d.2.2 + 1) : Duty) = agedD d from rfl, HAS.out] at HO1
      generalize wr.setCell ⟨g5, k * 3 + 2, none⟩ (.int .i64 (d.2.2 + 1)) = w1 at *
      have hak2 : (ageK D (k + 1))[k]? = some (agedD d) := by
        rw [← HAS.out]
        exact List.getElem?_set_self (by rw [ageK_len, ← HN.out]; exact hlt)
      obtain ⟨A, hqA, _, r0, r1, r2⟩ := (rdD_of_owns HO1.out (by rw [ageK_len]; exact HN.out.symm)).at hak2
      obtain rfl : A = ⟨g5, 0, none⟩ := by simpa using hqA.symm
      rw [Addr.add_lit, Nat.zero_add] at r2
      have e2 : ∀ W, Grow.Cl w1.drew W → W.cell? ⟨g5, k * 3 + 2, none⟩ = some (.int .i64 (d.2.2 + 1)) := fun W hW => cell_later (Grow.Cl.base hW) r2
      clear r0 r1 r2 hak2 hqA
      have t8 := (HT1.out).reg 8 _ rfl
      have t9 := (HT1.out).reg 9 _ rfl
      have hgr1 : gt < w1.heap.size := HT1.out.lt
      (refine Grow.wp_region Grow.noPlan Grow.noPlan_stable (by kernel_rfl) (by kernel_rfl) ?_; intro opsq Hopsq)
      repeat (first | (refine Grow.lex_move rfl ?_ rfl ?_; (· first | exact Grow.wanted_none | (rw [Hopsq.out]; rfl)); intro K hK; simp only [Grow.put_lit, Grow.setAt, Grow.eval_lit, Grow.ev]; refine hK _ _ ?_; clear hK K) | (refine Grow.lex_assign rfl ?_ rfl ?_; (· first | exact Grow.wanted_none | (rw [Hopsq.out]; rfl)); intro K hK; simp only [Grow.put_lit, Grow.setAt, Grow.eval_lit, Grow.ev]; refine hK _ _ ?_; clear hK K) | (refine Grow.lex_plain rfl rfl ?_ rfl ?_; (· first | exact Grow.wanted_none | (rw [Hopsq.out]; rfl)); apply Exists.intro; refine ⟨fun wq hCq _ => ?_, ?_⟩; (· (go_wp2_with fail; refine ⟨rfl, Below.refl _ _, ?_⟩; simp only [Grow.getD_lit, Grow.nth]; rfl)); intro K hK; simp only [Grow.put_lit, Grow.setAt]; refine hK _ _ ?_; clear hK K) | (refine Grow.lex_nilCheck rfl rfl ?_ rfl ?_; (· first | exact Grow.wanted_none | (rw [Hopsq.out]; rfl)); intro K hK; simp only [Grow.put_lit, Grow.setAt]; refine hK _ _ ?_; clear hK K) | (refine Grow.lex_skip ?_ ?_; (· (rw [Hopsq.out]; rfl)); intro K hK; simp only [Grow.put_lit, Grow.setAt]; refine hK _ _ ?_; clear hK K))
      (refine Grow.lex_nil ?_; intro w2 hb2 _; replace hb2 := Grow.Cl.base hb2; clear Hopsq opsq)
      have HB2 := Lib.hid (HB1.out.trans (hb2.mono (Nat.le_trans hbw0 HB1.out.size)))
      have HO2 := Lib.hid (rowLater HO1.out hb2); have HT2 := Lib.hid (HT1.out.next hb2); have HM2 := Lib.hid (HM1.out.next hb2)
      clear hb2 e2 t8 t9 HB1 HO1 HT1 HM1
      by_cases hlate : lim < d.2.2 + 1
      · have HF : Hid (agedLate lim D = true) := Lib.hid (List.any_eq_true.2 ⟨d, HMEM.out, by simpa using hlate⟩)
        go_wp2_with fail
        go_ret
        exact ⟨by rw [HF.out]; rfl, (HWW.out.mono (by omega)).trans (HB2.out.mono (by omega)), fun h => by rw [HF.out] at h; cases h⟩
      · have HF : Hid (agedLate lim (D.take (k + 1)) = false) := Lib.hid (by rw [HLS.out, HLA.out, decide_eq_false hlate]; rfl)
        go_wp2_with fail
        exact ⟨⟨k + 1, by omega, by go_num, HF.out, HO2.out, HT2.out, HM2.out, HB2.out⟩, by simp [intOf]; omega⟩
    · obtain rfl : k = n := by omega
      have hd : decide ((k : Int) < (k : Int)) = false := by simp
      have hak : ageK D k = D.map agedD := by rw [HN.out]; exact ageK_all D
      have htk : D.take k = D := by rw [HN.out, List.take_length]
      rw [hak] at HO
      rw [htk] at HLA
      clear hak htk hlt
      go_upto_region 8 with fail
      have t0 := (HT.out).reg 0 _ rfl
      have t1 := (HT.out).reg 1 _ rfl
      have t2 := (HT.out).reg 2 _ rfl
      have t3 := (HT.out).reg 3 _ rfl
      have t4 := (HT.out).reg 4 _ rfl
      have t5 := (HT.out).reg 5 _ rfl
      have t6 := (HT.out).reg 6 _ rfl
      have t7 := (HT.out).reg 7 _ rfl
      have t8 := (HT.out).reg 8 _ rfl
      have t9 := (HT.out).reg 9 _ rfl
      have u0 := (HM.out).reg 0 _ rfl
      have u1 := (HM.out).reg 1 _ rfl
      have u2 := (HM.out).reg 2 _ rfl
      have u3 := (HM.out).reg 3 _ rfl
      have u4 := (HM.out).reg 4 _ rfl
      have hlo : wr.heap.size ≤ wr.drew.heap.size := Nat.le_refl _
      refine Grow.wp_region_tail 9 (mkPlan 8 ptrS wr.heap.size [.int .u32 0, .int .u32 0]) (mkPlan_stable _ _ _ _) (by kernel_rfl) (by kernel_rfl) ?_
      intro opsq Hopsq
      simp only [List.take_succ_cons, List.take_zero, List.drop_succ_cons, List.drop_zero]
      repeat (first | (refine Grow.lex_move rfl ?_ rfl ?_; (· first | exact Grow.wanted_none | (rw [Hopsq.out]; rfl)); intro K hK; simp only [Grow.put_lit, Grow.setAt, Grow.eval_lit, Grow.ev]; refine hK _ _ ?_; clear hK K) | (refine Grow.lex_assign rfl ?_ rfl ?_; (· first | exact Grow.wanted_none | (rw [Hopsq.out]; rfl)); intro K hK; simp only [Grow.put_lit, Grow.setAt, Grow.eval_lit, Grow.ev]; refine hK _ _ ?_; clear hK K) | (refine Grow.lex_plain rfl rfl ?_ rfl ?_; (· first | exact Grow.wanted_none | (rw [Hopsq.out]; rfl)); apply Exists.intro; refine ⟨fun wq hCq _ => ?_, ?_⟩; (· (go_wp2_with fail; refine ⟨rfl, Below.refl _ _, ?_⟩; simp only [Grow.getD_lit, Grow.nth]; rfl)); intro K hK; simp only [Grow.put_lit, Grow.setAt]; refine hK _ _ ?_; clear hK K) | (refine Grow.lex_nilCheck rfl rfl ?_ rfl ?_; (· first | exact Grow.wanted_none | (rw [Hopsq.out]; rfl)); intro K hK; simp only [Grow.put_lit, Grow.setAt]; refine hK _ _ ?_; clear hK K) | (refine Grow.lex_skip ?_ ?_; (· (rw [Hopsq.out]; rfl)); intro K hK; simp only [Grow.put_lit, Grow.setAt]; refine hK _ _ ?_; clear hK K))
      (refine Grow.lex_call ?_ rfl ?_; (· first | exact Grow.wanted_none | (rw [Hopsq.out]; rfl)); apply Exists.intro; apply Exists.intro; refine ⟨fun wq => ?_, ?_⟩; (· (go_simp; exact ⟨rfl, rfl⟩)); apply Exists.intro; refine ⟨fun wq hCq hKq => ?_, ?_⟩; (· exact shows_any b.fl m.2 _); intro K hK; simp only [Grow.put_lit, Grow.setAt]; refine hK _ _ ?_; clear hK K)
      refine lex_mk 8 ptrS wr.heap.size [.int .u32 0, .int .u32 0] 45 ?_ (fun wq => ?_) hlo ?_
      · first | exact Grow.wanted_none | (rw [Hopsq.out]; rfl)
      · go_simp
        first | rfl | exact ⟨rfl, rfl⟩
      intro gc hgc
      simp only [Grow.put_lit, Grow.setAt, ptrS]
      refine Grow.lex_nil ?_
      intro w1 hb1 hTq
      have hcc := mk_blk ptrS_inj hTq
      replace hb1 := Grow.Cl.base hb1
      clear hTq Hopsq opsq t0 t1 t2 t3 t4 t5 t6 t7 t8 t9 u0 u1 u2 u3 u4 hlo
      have hgcl := hcc.lt
      have HC := Lib.hid hcc
      have HT1 := Lib.hid (HT.out.next hb1); have HO1 := Lib.hid (rowLater HO.out hb1); have HM1 := Lib.hid (HM.out.next hb1)
      have HB1 := Lib.hid (HB.out.trans (hb1.mono hbr))
      have HNG := Lib.hid (row_nelt HO.out hgc)
      have hgm : w.heap.size ≠ gc := by have := HM.out.lt; omega
      have hgtc : gt ≠ gc := by omega
      have hgmt : w.heap.size ≠ gt := by omega
      have hbgc : base ≤ gc := by omega
      clear hcc hb1 HT HO HM HB
      have c0 := (HC.out).cell 0 _ rfl
      have c1 := (HC.out).cell 1 _ rfl
      have f0 := HC.out.fr 0; have f1 := HC.out.fr 1
      go_upto_region 9 with fail
      generalize hsv : showsV b.fl m.2 = sv at *
      have HSV := Lib.hid hsv
      clear hsv
      have HC2 := Lib.hid ((HC.out.set 0 (.int .u32 (sv.1.toNat : Int))).set 1 (.int .u32 (sv.2.toNat : Int)))
      have HT2 := Lib.hid ((HT1.out.other (i := 0) hgtc (.int .u32 (sv.1.toNat : Int))).other (i := 1) hgtc (.int .u32 (sv.2.toNat : Int)))
      have HM2 := Lib.hid ((HM1.out.other (i := 0) hgm (.int .u32 (sv.1.toNat : Int))).other (i := 1) hgm (.int .u32 (sv.2.toNat : Int)))
      have HO2 := Lib.hid (row_set (i := 1) (u := .int .u32 (sv.2.toNat : Int)) (row_set (i := 0) (u := .int .u32 (sv.1.toNat : Int)) HO1.out HNG.out) HNG.out)
      have HB2 := Lib.hid ((HB1.out.setCell (p := ⟨gc, 0, none⟩) hbgc (.int .u32 (sv.1.toNat : Int))).setCell (p := ⟨gc, 1, none⟩) hbgc (.int .u32 (sv.2.toNat : Int)))
      clear HC HT1 HM1 HO1 HB1 c0 c1 f0 f1
      change Hid (Blk _ gc [.int .u32 (sv.1.toNat : Int), .int .u32 (sv.2.toNat : Int)]) at HC2
      generalize (w1.setCell ⟨gc, 0, none⟩ (.int .u32 (sv.1.toNat : Int))).setCell ⟨gc, 1, none⟩ (.int .u32 (sv.2.toNat : Int)) = w2 at *
      have hb2z : base ≤ w2.heap.size := Nat.le_trans hbw0 HB2.out.size
      have HDF := Lib.hid (delf_any base k cap9 gc q9 (D.map agedD) sv w2 (by omega) HO2.out (by rw [List.length_map]; exact HN.out.symm) HC2.out HNG.out hb2z)
      rw [keepD_aged] at HDF
      have t0 := (HT2.out).cell 0 _ rfl
      have t1 := (HT2.out).cell 1 _ rfl
      have t2 := (HT2.out).cell 2 _ rfl
      have t3 := (HT2.out).cell 3 _ rfl
      have t4 := (HT2.out).cell 4 _ rfl
      have t5 := (HT2.out).cell 5 _ rfl
      have t6 := (HT2.out).cell 6 _ rfl
      have t7 := (HT2.out).cell 7 _ rfl
      have t8 := (HT2.out).cell 8 _ rfl
      have t9 := (HT2.out).cell 9 _ rfl
      go_wp2_with fail
      refine HDF.out.mono ?_
      rintro e w3 ⟨rfl, hown3, hb3, hg3⟩
      have hHS2 := agedL_pair sv D HSO.out
      have hHK2 : ∀ e ∈ agedL sv D, 1 ≤ e.2.1 ∧ e.2.1 ≤ 2 := fun e he => by
        obtain ⟨x, hx, rfl⟩ := agedL_mem _ _ _ he
        exact HKK.out x hx
      have hL2 : (agedL sv D).length ≤ 64 := by have := agedL_len sv D; have := HN.out; omega
      have HTD : Hid (tickD b D m = insF (agedL sv D) (listC (both m.1 (hallC b)))) := Lib.hid (by unfold tickD; rw [HSV.out])
      have HS2 := Lib.hid hHS2; have HK2 := Lib.hid hHK2
      clear hHS2 hHK2
      generalize agedL sv D = L2 at *
      have HT3 := Lib.hid (HT2.out.later hb3 hgt); have HM3 := Lib.hid (HM2.out.grown hg3 HNM.out); have HO3 := Lib.hid hown3
      have HB3 := Lib.hid (HB2.out.trans hb3)
      clear hown3 hb3 hg3 HT2 HM2 HO2 HB2 HDF t0 t1 t2 t3 t4 t5 t6 t7 t8 t9
      have hgt3 := HT3.out.lt
      have t0 := (HT3.out).cell 0 _ rfl
      have t1 := (HT3.out).cell 1 _ rfl
      have t2 := (HT3.out).cell 2 _ rfl
      have t3 := (HT3.out).cell 3 _ rfl
      have t4 := (HT3.out).cell 4 _ rfl
      have t5 := (HT3.out).cell 5 _ rfl
      have t6 := (HT3.out).cell 6 _ rfl
      have t7 := (HT3.out).cell 7 _ rfl
      have t8 := (HT3.out).cell 8 _ rfl
      have t9 := (HT3.out).cell 9 _ rfl
      have f9 := HT3.out.fr 9
      go_upto_region 10 with fail
      have HT4 := Lib.hid (HT3.out.set 9 (.slice q9 L2.length cap9))
      have HM4 := Lib.hid (HM3.out.other (i := 9) hgmt (.slice q9 L2.length cap9))
      have HO4 := Lib.hid (row_set (i := 9) (u := .slice q9 L2.length cap9) HO3.out (row_ne HO3.out hgt))
      have hgw : gt ≤ w.heap.size := by omega
      have hgb : gt ≤ base := by omega
      have HB4 : Hid (Below gt w (w3.setCell ⟨gt, 9, none⟩ (.slice q9 L2.length cap9))) := Lib.hid (((HWW.out.mono hgw).trans (HB3.out.mono hgb)).setCell (p := ⟨gt, 9, none⟩) (Nat.le_refl _) _)
      have hs4 : w.heap.size ≤ (w3.setCell ⟨gt, 9, none⟩ (.slice q9 L2.length cap9)).heap.size := HB4.out.size
      have HR4 := Lib.hid (rdC_low HR.out HQ.out HB4.out hs4)
      clear HT3 HM3 HO3 HB3 t0 t1 t2 t3 t4 t5 t6 t7 t8 t9 f9 HR
      change Hid (Blk _ gt (trC b q cap lim L2.length q9 cap9)) at HT4
      generalize w3.setCell ⟨gt, 9, none⟩ (.slice q9 L2.length cap9) = w4 at *
      have t0 := (HT4.out).reg 0 _ rfl
      have t1 := (HT4.out).reg 1 _ rfl
      have t2 := (HT4.out).reg 2 _ rfl
      have t3 := (HT4.out).reg 3 _ rfl
      have t4 := (HT4.out).reg 4 _ rfl
      have t5 := (HT4.out).reg 5 _ rfl
      have t6 := (HT4.out).reg 6 _ rfl
      have t7 := (HT4.out).reg 7 _ rfl
      have t8 := (HT4.out).reg 8 _ rfl
      have t9 := (HT4.out).reg 9 _ rfl
      have u0 := (HM4.out).reg 0 _ rfl
      have u1 := (HM4.out).reg 1 _ rfl
      have hall : ∀ p ∈ listC (both m.1 (hallC b)), 1 ≤ p.2 ∧ p.2 ≤ 2 := fun p hp => by
        obtain ⟨_, _, _, h, _⟩ := listC_mem _ p hp
        omega
      have HOKK := Lib.hid (insF_ok L2 (listC (both m.1 (hallC b))) HS2.out HK2.out hall)
      have hN64 := listC_len (both m.1 (hallC b))
      have HPD := Lib.hid hall
      have hb4 : base ≤ w4.heap.size := Nat.le_trans hbw hs4
      clear hall
      refine Grow.wp_region (relPlan 8 (entsR base (listC (both m.1 (hallC b))))) (relPlan_stable 8 _ (entsR_stable base (listC (both m.1 (hallC b))))) (by kernel_rfl) (by kernel_rfl) ?_
      intro opsq Hopsq
      repeat (first | (refine Grow.lex_move rfl ?_ rfl ?_; (· first | exact Grow.wanted_none | (rw [Hopsq.out]; rfl)); intro K hK; simp only [Grow.put_lit, Grow.setAt, Grow.eval_lit, Grow.ev]; refine hK _ _ ?_; clear hK K) | (refine Grow.lex_assign rfl ?_ rfl ?_; (· first | exact Grow.wanted_none | (rw [Hopsq.out]; rfl)); intro K hK; simp only [Grow.put_lit, Grow.setAt, Grow.eval_lit, Grow.ev]; refine hK _ _ ?_; clear hK K) | (refine Grow.lex_plain rfl rfl ?_ rfl ?_; (· first | exact Grow.wanted_none | (rw [Hopsq.out]; rfl)); apply Exists.intro; refine ⟨fun wq hCq _ => ?_, ?_⟩; (· (go_wp2_with fail; refine ⟨rfl, Below.refl _ _, ?_⟩; simp only [Grow.getD_lit, Grow.nth]; rfl)); intro K hK; simp only [Grow.put_lit, Grow.setAt]; refine hK _ _ ?_; clear hK K) | (refine Grow.lex_nilCheck rfl rfl ?_ rfl ?_; (· first | exact Grow.wanted_none | (rw [Hopsq.out]; rfl)); intro K hK; simp only [Grow.put_lit, Grow.setAt]; refine hK _ _ ?_; clear hK K) | (refine Grow.lex_skip ?_ ?_; (· (rw [Hopsq.out]; rfl)); intro K hK; simp only [Grow.put_lit, Grow.setAt]; refine hK _ _ ?_; clear hK K))
      (refine Grow.lex_call ?_ rfl ?_; (· first | exact Grow.wanted_none | (rw [Hopsq.out]; rfl)); apply Exists.intro; apply Exists.intro; refine ⟨fun wq => ?_, ?_⟩; (· (go_simp; exact ⟨rfl, rfl⟩)); apply Exists.intro; refine ⟨fun wq hCq hKq => ?_, ?_⟩; (· exact hall_any b q cap _ HL1.out (HR4.out.next (Grow.Cl.base hCq))); intro K hK; simp only [Grow.put_lit, Grow.setAt]; refine hK _ _ ?_; clear hK K)
      repeat (first | (refine Grow.lex_move rfl ?_ rfl ?_; (· first | exact Grow.wanted_none | (rw [Hopsq.out]; rfl)); intro K hK; simp only [Grow.put_lit, Grow.setAt, Grow.eval_lit, Grow.ev]; refine hK _ _ ?_; clear hK K) | (refine Grow.lex_assign rfl ?_ rfl ?_; (· first | exact Grow.wanted_none | (rw [Hopsq.out]; rfl)); intro K hK; simp only [Grow.put_lit, Grow.setAt, Grow.eval_lit, Grow.ev]; refine hK _ _ ?_; clear hK K) | (refine Grow.lex_plain rfl rfl ?_ rfl ?_; (· first | exact Grow.wanted_none | (rw [Hopsq.out]; rfl)); apply Exists.intro; refine ⟨fun wq hCq _ => ?_, ?_⟩; (· (go_wp2_with fail; refine ⟨rfl, Below.refl _ _, ?_⟩; simp only [Grow.getD_lit, Grow.nth]; rfl)); intro K hK; simp only [Grow.put_lit, Grow.setAt]; refine hK _ _ ?_; clear hK K) | (refine Grow.lex_nilCheck rfl rfl ?_ rfl ?_; (· first | exact Grow.wanted_none | (rw [Hopsq.out]; rfl)); intro K hK; simp only [Grow.put_lit, Grow.setAt]; refine hK _ _ ?_; clear hK K) | (refine Grow.lex_skip ?_ ?_; (· (rw [Hopsq.out]; rfl)); intro K hK; simp only [Grow.put_lit, Grow.setAt]; refine hK _ _ ?_; clear hK K))
      (refine Grow.lex_call ?_ rfl ?_; (· first | exact Grow.wanted_none | (rw [Hopsq.out]; rfl)); apply Exists.intro; apply Exists.intro; refine ⟨fun wq => ?_, ?_⟩; (· (go_simp; exact ⟨rfl, rfl⟩)); apply Exists.intro; refine ⟨fun wq hCq hKq => ?_, ?_⟩; (· exact both_any m.1 (hallC b) _); intro K hK; simp only [Grow.put_lit, Grow.setAt]; refine hK _ _ ?_; clear hK K)
      repeat (first | (refine Grow.lex_move rfl ?_ rfl ?_; (· first | exact Grow.wanted_none | (rw [Hopsq.out]; rfl)); intro K hK; simp only [Grow.put_lit, Grow.setAt, Grow.eval_lit, Grow.ev]; refine hK _ _ ?_; clear hK K) | (refine Grow.lex_assign rfl ?_ rfl ?_; (· first | exact Grow.wanted_none | (rw [Hopsq.out]; rfl)); intro K hK; simp only [Grow.put_lit, Grow.setAt, Grow.eval_lit, Grow.ev]; refine hK _ _ ?_; clear hK K) | (refine Grow.lex_plain rfl rfl ?_ rfl ?_; (· first | exact Grow.wanted_none | (rw [Hopsq.out]; rfl)); apply Exists.intro; refine ⟨fun wq hCq _ => ?_, ?_⟩; (· (go_wp2_with fail; refine ⟨rfl, Below.refl _ _, ?_⟩; simp only [Grow.getD_lit, Grow.nth]; rfl)); intro K hK; simp only [Grow.put_lit, Grow.setAt]; refine hK _ _ ?_; clear hK K) | (refine Grow.lex_nilCheck rfl rfl ?_ rfl ?_; (· first | exact Grow.wanted_none | (rw [Hopsq.out]; rfl)); intro K hK; simp only [Grow.put_lit, Grow.setAt]; refine hK _ _ ?_; clear hK K) | (refine Grow.lex_skip ?_ ?_; (· (rw [Hopsq.out]; rfl)); intro K hK; simp only [Grow.put_lit, Grow.setAt]; refine hK _ _ ?_; clear hK K))
      (refine Grow.lex_callR (r := (fun _ v w => entsR base (listC (both m.1 (hallC b))) v w)) ?_ rfl ?_; (· first | exact Grow.wanted_none | (rw [Hopsq.out]; rfl)); apply Exists.intro; apply Exists.intro; refine ⟨fun wq => ?_, ?_, ?_⟩; (· (go_simp; exact ⟨rfl, rfl⟩)); (· (intro wq hCq hKq; exact (list_any (both m.1 (hallC b)) _).mono (fun e w' ⟨v, he, hown, hb⟩ => ⟨v, he, hb, by obtain ⟨q, cap, rfl⟩ := row_form hown; exact ⟨q, cap, rfl, row_base hown (Nat.le_trans hb4 (Grow.Cl.base hCq).size)⟩⟩))); intro vq hWq; obtain ⟨_, _, hTT⟩ := hWq; obtain ⟨q8, cap8, hvq⟩ := entsR_form (Grow.Holds.of_upd hTT).2; subst hvq; clear hTT; intro K hK; simp only [Grow.put_lit, Grow.setAt]; refine hK _ _ ?_; clear hK K)
      repeat (first | (refine Grow.lex_move rfl ?_ rfl ?_; (· first | exact Grow.wanted_none | (rw [Hopsq.out]; rfl)); intro K hK; simp only [Grow.put_lit, Grow.setAt, Grow.eval_lit, Grow.ev]; refine hK _ _ ?_; clear hK K) | (refine Grow.lex_assign rfl ?_ rfl ?_; (· first | exact Grow.wanted_none | (rw [Hopsq.out]; rfl)); intro K hK; simp only [Grow.put_lit, Grow.setAt, Grow.eval_lit, Grow.ev]; refine hK _ _ ?_; clear hK K) | (refine Grow.lex_plain rfl rfl ?_ rfl ?_; (· first | exact Grow.wanted_none | (rw [Hopsq.out]; rfl)); apply Exists.intro; refine ⟨fun wq hCq _ => ?_, ?_⟩; (· (go_wp2_with fail; refine ⟨rfl, Below.refl _ _, ?_⟩; simp only [Grow.getD_lit, Grow.nth]; rfl)); intro K hK; simp only [Grow.put_lit, Grow.setAt]; refine hK _ _ ?_; clear hK K) | (refine Grow.lex_nilCheck rfl rfl ?_ rfl ?_; (· first | exact Grow.wanted_none | (rw [Hopsq.out]; rfl)); intro K hK; simp only [Grow.put_lit, Grow.setAt]; refine hK _ _ ?_; clear hK K) | (refine Grow.lex_skip ?_ ?_; (· (rw [Hopsq.out]; rfl)); intro K hK; simp only [Grow.put_lit, Grow.setAt]; refine hK _ _ ?_; clear hK K))
      refine Grow.lex_nil ?_
      intro w5 hb5 hTq
      have hre := entsR_out (Grow.Holds.of_upd hTq).2
      replace hb5 := Grow.Cl.base hb5
      clear hTq Hopsq opsq t0 t1 t2 t3 t4 t5 t6 t7 t8 t9 u0 u1
      generalize listC (both m.1 (hallC b)) = all at *
      obtain ⟨N, hN⟩ : ∃ N, N = all.length := ⟨_, rfl⟩
      rw [← hN] at hre hN64 ⊢
      have HNN := Lib.hid hN
      have HE5 := Lib.hid hre
      have HO5 := Lib.hid (rowLater HO4.out hb5)
      have HT5 := Lib.hid (HT4.out.next hb5)
      have HB5 := Lib.hid (HB4.out.trans (hb5.mono (Nat.le_of_lt HT4.out.lt)))
      have hs5 : base ≤ w5.heap.size := Nat.le_trans hb4 hb5.size
      clear hre hb5 HO4 HT4 HM4 HB4 HR4 hN
      go_wp2_with fail
      go_loopw [72] (fun v wr => ∃ (k : Nat) (q9 : Option Addr) (cap9 : Nat), k ≤ N ∧ v = .int .i64 k ∧ Blk wr gt (trC b q cap lim (insF L2 (all.take k)).length q9 cap9) ∧ wr.ownsRow base 71 3 (.slice q9 (insF L2 (all.take k)).length cap9) (insF L2 (all.take k)).length (dutyCells (insF L2 (all.take k))) ∧ wr.ownsRow base 53 5 (.slice q8 N cap8) N (cells all) ∧ Below gt w wr ∧ base ≤ wr.heap.size) (fun v _ => N - (intOf v).toNat)
      case atStart => exact ⟨0, q9, cap9, by omega, rfl, HT5.out, HO5.out, HE5.out, HB5.out, hs5⟩
      case round =>
        clear HE5 HO5 HT5 HB5
        obtain ⟨k, q9, cap9, hk, rfl, hT, hO, hE, hW, hsz⟩ := hrel
        have HT := Lib.hid hT; have HO := Lib.hid hO; have HE := Lib.hid hE; have HWr := Lib.hid hW
        obtain ⟨hs1, hs2, hs3⟩ := HOKK.out k
        have HS1 := Lib.hid hs1; have HK1 := Lib.hid hs2
        have hlk : (insF L2 (all.take k)).length ≤ 1000 := by omega
        clear hT hO hE hW hs1 hs2 hs3
        by_cases hlt : k < N
        · have hd : decide ((k : Int) < (N : Int)) = true := by simp; omega
          obtain ⟨p, hp⟩ : ∃ p, all[k]? = some p := ⟨_, List.getElem?_eq_getElem (by rw [← HNN.out]; exact hlt)⟩
          have HFS := Lib.hid (insF_snoc L2 all k p hp)
          have hpd : 1 ≤ p.2 ∧ p.2 ≤ 2 := HPD.out p (List.mem_of_getElem? hp)
          have HPP := Lib.hid hpd
          obtain ⟨A, hqA, hA, hcc⟩ := (rdE_of_owns HE.out HNN.out.symm) k p hp
          subst hqA
          have x0 : wr.cell? (A.add (k * 5)) = some (.int .i64 p.1) := hcc 0 _ rfl
          have x1 : wr.cell? ⟨(A.add (k * 5)).block, (A.add (k * 5)).off + 1, none⟩ = some (.int .i64 p.2) := by rw [← addr_one]; exact hcc 1 _ rfl
          have x2 : wr.cell? ⟨(A.add (k * 5)).block, (A.add (k * 5)).off + 2, none⟩ = some (.int .i64 (-1)) := by rw [← addr_one]; exact hcc 2 _ rfl
          have x3 : wr.cell? ⟨(A.add (k * 5)).block, (A.add (k * 5)).off + 3, none⟩ = some (.int .i64 0) := by rw [← addr_one]; exact hcc 3 _ rfl
          have x4 : wr.cell? ⟨(A.add (k * 5)).block, (A.add (k * 5)).off + 4, none⟩ = some (.bool false) := by rw [← addr_one]; exact hcc 4 _ rfl
          have hkw : (0 : Int) ≤ (k : Int) := by omega
          have hkw' : (k : Int) < (N : Int) := by omega
          clear hcc hA hp hpd
          generalize insF L2 (all.take k) = LK at *
          have HWWo := HWW
          have X0 : Blk (wr.alloc (.cells #[.int .i64 p.1, .int .i64 p.2, .int .i64 (-1), .int .i64 0, .bool false] 53)) wr.heap.size [.int .i64 p.1, .int .i64 p.2, .int .i64 (-1), .int .i64 0, .bool false] := by
            have hx := Blk.new wr [.int .i64 p.1, .int .i64 p.2, .int .i64 (-1), .int .i64 0, .bool false] 53
            exact hx
          replace X0 : Blk ((wr.alloc (.cells #[.int .i64 p.1, .int .i64 p.2, .int .i64 (-1), .int .i64 0, .bool false] 53)).alloc (.cells #[.int .i64 p.1, .int .i64 p.2, .int .i64 0] 71)) wr.heap.size [.int .i64 p.1, .int .i64 p.2, .int .i64 (-1), .int .i64 0, .bool false] := X0.next (below1' _ _)
          have X1 : Blk ((wr.alloc (.cells #[.int .i64 p.1, .int .i64 p.2, .int .i64 (-1), .int .i64 0, .bool false] 53)).alloc (.cells #[.int .i64 p.1, .int .i64 p.2, .int .i64 0] 71)) (wr.heap.size + 1) [.int .i64 p.1, .int .i64 p.2, .int .i64 0] := by
            have hx := Blk.new (wr.alloc (.cells #[.int .i64 p.1, .int .i64 p.2, .int .i64 (-1), .int .i64 0, .bool false] 53)) [.int .i64 p.1, .int .i64 p.2, .int .i64 0] 71
            rw [World.size_alloc] at hx
            exact hx
          have XW : Below wr.heap.size wr (wr.alloc (.cells #[.int .i64 p.1, .int .i64 p.2, .int .i64 (-1), .int .i64 0, .bool false] 53)) := below1' wr _
          replace XW : Below wr.heap.size wr ((wr.alloc (.cells #[.int .i64 p.1, .int .i64 p.2, .int .i64 (-1), .int .i64 0, .bool false] 53)).alloc (.cells #[.int .i64 p.1, .int .i64 p.2, .int .i64 0] 71)) := XW.trans ((below1' _ _).mono XW.size)
          have HWW := Lib.hid XW; have HX0 := Lib.hid X0; have HX1 := Lib.hid X1
          clear XW X0 X1
          go_upto_region 14 with fail
          generalize ((wr.alloc (.cells #[.int .i64 p.1, .int .i64 p.2, .int .i64 (-1), .int .i64 0, .bool false] 53)).alloc (.cells #[.int .i64 p.1, .int .i64 p.2, .int .i64 0] 71)) = w6 at *
          generalize hg1 : wr.heap.size + 1 = g1 at *
          have HG1 := Lib.hid hg1; have hq1 : wr.heap.size + 1 ≤ g1 := by omega
          clear hg1
          have HW := Lib.hid (Below.refl w6.heap.size w6)
          have hz0 := HX0.out.lt; have hz1 := HX1.out.lt
          have HT6 := Lib.hid (HT.out.next HWW.out); have HO6 := Lib.hid (rowLater HO.out HWW.out); have HE6 := Lib.hid (rowLater HE.out HWW.out)
          have hgtr : gt ≤ wr.heap.size := Nat.le_of_lt HT.out.lt
          have HW6 := Lib.hid (HWr.out.trans (HWW.out.mono hgtr))
          have hs6 : base ≤ w6.heap.size := Nat.le_trans hsz HWW.out.size
          clear x0 x1 x2 x3 x4 HT HO HE HWr hsz hd hkw hkw' HW hz0
          have t9 := (HT6.out).reg 9 _ rfl
          have d0 := (HX1.out).reg 0 _ rfl
          have d1 := (HX1.out).reg 1 _ rfl
          have d2 := (HX1.out).reg 2 _ rfl
          have HBS : Hid (∀ W, Below w6.heap.size w6 W → Calls Try.prog 60 #[.slice q9 LK.length cap9, .agg #[.int .i64 p.1, .int .i64 p.2, .int .i64 0], .func (.func 61) #[] #[]] W fun e w' => ∃ v, e = .returned v ∧ Below W.heap.size W w' ∧ bsR LK (p.1, p.2, 0) v w') :=
            Lib.hid fun W hW => (bsfC_any LK q9 cap9 (p.1, p.2, 0) W hlk ((rdD_of_owns HO6.out rfl).next hW) HS1.out HK1.out HPP.out).mono (fun e w' ⟨i, f, he, h1, h2, h3, h4, hb⟩ => ⟨_, he, hb, i, f, rfl, h1, h2, h3, h4⟩)
          refine Grow.wp_region (relPlan 5 (bsR LK (p.1, p.2, 0))) (relPlan_stable 5 _ (bsR_stable LK (p.1, p.2, 0))) (by kernel_rfl) (by kernel_rfl) ?_
          intro opsq Hopsq
          repeat (first | (refine Grow.lex_move rfl ?_ rfl ?_; (· first | exact Grow.wanted_none | (rw [Hopsq.out]; rfl)); intro K hK; simp only [Grow.put_lit, Grow.setAt, Grow.eval_lit, Grow.ev]; refine hK _ _ ?_; clear hK K) | (refine Grow.lex_assign rfl ?_ rfl ?_; (· first | exact Grow.wanted_none | (rw [Hopsq.out]; rfl)); intro K hK; simp only [Grow.put_lit, Grow.setAt, Grow.eval_lit, Grow.ev]; refine hK _ _ ?_; clear hK K) | (refine Grow.lex_plain rfl rfl ?_ rfl ?_; (· first | exact Grow.wanted_none | (rw [Hopsq.out]; rfl)); apply Exists.intro; refine ⟨fun wq hCq _ => ?_, ?_⟩; (· (go_wp2_with fail; refine ⟨rfl, Below.refl _ _, ?_⟩; simp only [Grow.getD_lit, Grow.nth]; rfl)); intro K hK; simp only [Grow.put_lit, Grow.setAt]; refine hK _ _ ?_; clear hK K) | (refine Grow.lex_nilCheck rfl rfl ?_ rfl ?_; (· first | exact Grow.wanted_none | (rw [Hopsq.out]; rfl)); intro K hK; simp only [Grow.put_lit, Grow.setAt]; refine hK _ _ ?_; clear hK K) | (refine Grow.lex_skip ?_ ?_; (· (rw [Hopsq.out]; rfl)); intro K hK; simp only [Grow.put_lit, Grow.setAt]; refine hK _ _ ?_; clear hK K))
          (refine Grow.lex_callR (r := (fun _ v w => bsR LK (p.1, p.2, 0) v w)) ?_ rfl ?_; (· first | exact Grow.wanted_none | (rw [Hopsq.out]; rfl)); apply Exists.intro; apply Exists.intro; refine ⟨fun wq => ?_, ?_, ?_⟩; (· (go_simp; exact ⟨rfl, rfl⟩)); (· (intro wq hCq hKq; exact HBS.out _ (Grow.Cl.base hCq))); intro vq hWq; obtain ⟨_, _, hTT⟩ := hWq; obtain ⟨i, f, hvq⟩ := bsR_form (Grow.Holds.of_upd hTT).2; subst hvq; clear hTT; intro K hK; simp only [Grow.put_lit, Grow.setAt]; refine hK _ _ ?_; clear hK K)
          repeat (first | (refine Grow.lex_move rfl ?_ rfl ?_; (· first | exact Grow.wanted_none | (rw [Hopsq.out]; rfl)); intro K hK; simp only [Grow.put_lit, Grow.setAt, Grow.eval_lit, Grow.ev]; refine hK _ _ ?_; clear hK K) | (refine Grow.lex_assign rfl ?_ rfl ?_; (· first | exact Grow.wanted_none | (rw [Hopsq.out]; rfl)); intro K hK; simp only [Grow.put_lit, Grow.setAt, Grow.eval_lit, Grow.ev]; refine hK _ _ ?_; clear hK K) | (refine Grow.lex_plain rfl rfl ?_ rfl ?_; (· first | exact Grow.wanted_none | (rw [Hopsq.out]; rfl)); apply Exists.intro; refine ⟨fun wq hCq _ => ?_, ?_⟩; (· (go_wp2_with fail; refine ⟨rfl, Below.refl _ _, ?_⟩; simp only [Grow.getD_lit, Grow.nth]; rfl)); intro K hK; simp only [Grow.put_lit, Grow.setAt]; refine hK _ _ ?_; clear hK K) | (refine Grow.lex_nilCheck rfl rfl ?_ rfl ?_; (· first | exact Grow.wanted_none | (rw [Hopsq.out]; rfl)); intro K hK; simp only [Grow.put_lit, Grow.setAt]; refine hK _ _ ?_; clear hK K) | (refine Grow.lex_skip ?_ ?_; (· (rw [Hopsq.out]; rfl)); intro K hK; simp only [Grow.put_lit, Grow.setAt]; refine hK _ _ ?_; clear hK K))
          refine Grow.lex_nil ?_
          intro w7 hb7 hTq
          obtain ⟨h1, h2, h3, h4⟩ := bsR_out (Grow.Holds.of_upd hTq).2
          replace hb7 := Grow.Cl.base hb7
          clear hTq Hopsq opsq t9 d0 d1 d2
          have HII := Lib.hid h1; have HH1 := Lib.hid h2; have HH2 := Lib.hid h3; have HH3 := Lib.hid h4
          have HT7 := Lib.hid (HT6.out.next hb7); have HO7 := Lib.hid (rowLater HO6.out hb7); have HE7 := Lib.hid (rowLater HE6.out hb7)
          have HX17 := Lib.hid (HX1.out.next hb7)
          have hgt6 : gt ≤ w6.heap.size := Nat.le_of_lt HT6.out.lt
          have HW7 := Lib.hid (HW6.out.trans (hb7.mono hgt6))
          have hs7 : base ≤ w7.heap.size := Nat.le_trans hs6 hb7.size
          clear h1 h2 h3 h4 hb7 HT6 HO6 HE6 HW6 HBS HX1 HX0
          cases f
          · have HKN : Hid (insK LK (p.1, p.2, 0) = LK.take i ++ (p.1, p.2, 0) :: LK.drop i) := Lib.hid (insK_new LK _ i HS1.out HH1.out HH2.out (fun h => by have := HH3.out.2 h; cases this))
            have hgt7 := HT7.out.lt
            have hd7 := HX17.out.lt
            have HN7 := Lib.hid (row_nelt HO7.out (Nat.le_refl _))
            have HINS : Hid (∀ W, Below w7.heap.size w7 W → Blk W w7.heap.size (Duty.cells (p.1, p.2, 0)) → Calls Try.prog 62 #[.slice q9 LK.length cap9, .int .i64 i, .slice (some ⟨w7.heap.size, 0, none⟩) 1 1] W fun e w' => ∃ v', e = .returned v' ∧ w'.ownsRow base 71 3 v' (LK.length + 1) (dutyCells (LK.take i ++ (p.1, p.2, 0) :: LK.drop i)) ∧ Below base W w' ∧ W.grownBy w' (Value.slice q9 LK.length cap9).ownBlock) :=
              Lib.hid fun W hW hB => insert_any base LK.length cap9 i w7.heap.size q9 LK (p.1, p.2, 0) W hlk HII.out (rowLater HO7.out hW) rfl hB HN7.out (Nat.le_trans hs7 hW.size)
            have HDR : Hid (Below w7.heap.size w7 (w7.alloc (.cells #[.int .i64 p.1, .int .i64 p.2, .int .i64 0] 71)).drew) := Lib.hid ⟨rfl, rfl, rfl, (below1' w7 _).size, (below1' w7 _).block⟩
            have HBD : Hid (Blk (w7.alloc (.cells #[.int .i64 p.1, .int .i64 p.2, .int .i64 0] 71)).drew w7.heap.size (Duty.cells (p.1, p.2, 0))) := Lib.hid (Blk.new w7 (Duty.cells (p.1, p.2, 0)) 71)
            have t0 := (HT7.out).cell 0 _ rfl
            have t1 := (HT7.out).cell 1 _ rfl
            have t2 := (HT7.out).cell 2 _ rfl
            have t3 := (HT7.out).cell 3 _ rfl
            have t4 := (HT7.out).cell 4 _ rfl
            have t5 := (HT7.out).cell 5 _ rfl
            have t6 := (HT7.out).cell 6 _ rfl
            have t7 := (HT7.out).cell 7 _ rfl
            have t8 := (HT7.out).cell 8 _ rfl
            have t9 := (HT7.out).cell 9 _ rfl
            have d0 := (HX17.out).cell 0 _ rfl
            have d1 := (HX17.out).cell 1 _ rfl
            have d2 := (HX17.out).cell 2 _ rfl
            go_wp2_with fail
            go_region_with (
              (refine (HINS.out _ HDR.out HBD.out).mono ?_
               rintro e w9 ⟨v, rfl, hown, hb9, hg9⟩
               obtain ⟨q10, cap10, rfl⟩ := row_form hown
               have HT9 := Lib.hid ((HT7.out.next HDR.out).later hb9 hgt)
               have HRT9 := Lib.hid hown; have HG9 := Lib.hid hg9; have HBB9 := Lib.hid hb9
               have s9 := HT9.out.cell 9 _ rfl
               have f9 := HT9.out.fr 9
               have z9 := HT9.out.lt
               clear hown hb9 hg9))
            all_goals
              have hml : LK.length + 1 = (insF L2 (all.take (k + 1))).length := by
                have := HII.out
                rw [HFS.out, HKN.out]
                simp only [List.length_append, List.length_take, List.length_cons, List.length_drop]; omega
              have HML := Lib.hid hml
              have HE8 := Lib.hid (rowLater HE7.out HDR.out); have HO8 := Lib.hid (rowLater HO7.out HDR.out)
              have HE9 := Lib.hid (HE8.out.kept HG9.out (rows_apart (by decide) HE8.out HO8.out))
              have HW9 := Lib.hid ((HW7.out.trans (HDR.out.mono (Nat.le_of_lt hgt7))).trans (HBB9.out.mono hgb))
              have hs9 : base ≤ w9.heap.size := Nat.le_trans (Nat.le_trans hs7 HDR.out.size) HG9.out.size
              clear hml
              go_wp2_with fail
              refine ⟨⟨k + 1, q10, cap10, by omega, by go_num, ?_, ?_, row_set HE9.out (row_ne HE9.out hgt), HW9.out.setCell (p := ⟨gt, 9, none⟩) (Nat.le_refl _) _, by simpa [World.setCell] using hs9⟩, by simp [intOf]; omega⟩
              · rw [← HML.out]; exact HT9.out.set 9 _
              · rw [← HML.out, HFS.out, HKN.out]; exact row_set HRT9.out (row_ne HRT9.out hgt)
          · have HKN : Hid (insF L2 (all.take (k + 1)) = LK) := Lib.hid (by
              obtain ⟨x, hx, hxk⟩ := HH3.out.1 rfl
              rw [HFS.out, insK_found LK _ x i hx hxk])
            go_wp2_with fail
            exact ⟨⟨k + 1, q9, cap9, by omega, by go_num, by rw [HKN.out]; exact HT7.out, by rw [HKN.out]; exact HO7.out, HE7.out, HW7.out, hs7⟩, by simp [intOf]; omega⟩
        · obtain rfl : k = N := by omega
          have hd : decide ((k : Int) < (k : Int)) = false := by simp
          have ht : all.take k = all := by rw [HNN.out, List.take_length]
          rw [ht] at HT HO
          go_wp2_with fail
          go_ret
          refine ⟨by rw [HLA.out]; rfl, HWr.out, fun _ => ⟨q9, cap9, ?_⟩⟩
          rw [HTD.out]
          exact ⟨HT.out, HO.out⟩
end Go.Proofs.Ytfmmiafdlfdfoaa
