/- The sanity check of chapter 18. Conditions: none. -/
import Derived.Test.YtfmmiafdlfdfoaaZKeep19
import Derived.Test.YtfmmiafdlfdfoaaZInjNew
namespace Go.Proofs.Ytfmmiafdlfdfoaa
open Go.RowKit
attribute [local go_sem] run_store_float
/-- Marks without anything in them. -/
def zM : MarkV := ((0#32, 0#32), 0, 0, 0)
def s18L : List MarkV := (List.replicate 10 zM).set 2 ((1#32, 0#32), 0, 0, 0)
def s18M : List MarkV := s18L.set 7 ((0#32, 0#32), 0, 1, 1)
theorem s18_check : (runB (b18 0 4) 0 s18L).1 = 8 := by decide +kernel
theorem s18_part : (runB (b18 0 4) 0 (s18L.take 8)).1 = -1 := by decide +kernel
theorem s18_keeps : keepsB (b18 0 4) 0 s18M = true := by decide +kernel
theorem s18_duties : (runB (b18 0 4) 0 (s18L.take 4)).2 = [(0, 1, 1)] := by decide +kernel
def zerosM (n : Nat) : Array Value := madeCells #[.int .u32 0, .int .u32 0, .int .i64 0, .int .i64 0, .int .i64 0] (n * 5)
theorem run_mkM (n : Nat) (hn : n ≤ 6000) (W : World) :
    (Instr.makeSlice 24 (.int .i64 (n : Int)) (.int .i64 (n : Int))).run Try.prog W = .ok (.slice (some ⟨W.heap.size, 0, none⟩) n n) (W.alloc (.cells (zerosM n) 51)) := by
  obtain ⟨i, hi, hz0, hz1, hz2⟩ := info_parts infoM
  have h := run_make (P := Try.prog) W 24 51 i (.agg #[.int .u32 0, .int .u32 0, .int .i64 0, .int .i64 0, .int .i64 0]) Try.underlying24 hi hz0 .i64 .i64 n n (by omega) (Int.le_refl _) (by rw [hz2]; omega) (by omega)
  rw [h]
  simp [zerosM, hz1, Value.cells]
theorem zerosM_size (n : Nat) : (zerosM n).size = n * 5 := size_madeCells _ _
theorem markCells_len (L : List MarkV) : (markCells L).length = L.length * 5 := by
  induction L with
  | nil => rfl
  | cons m L ih => simp only [markCells, List.flatMap_cons, List.length_append, List.length_cons] at *; rw [ih]; simp; omega
theorem zerosM_list (n : Nat) : (zerosM n).toList = markCells (List.replicate n zM) := by
  apply List.ext_getElem?
  intro j
  by_cases hj : j < n * 5
  · have h1 : (List.replicate n zM)[j / 5]? = some zM := by rw [List.getElem?_replicate, if_pos (by omega)]
    have h2 : j % 5 < 5 := Nat.mod_lt _ (by omega)
    have h3 : (MarkV.cells zM)[j % 5]? = some ((MarkV.cells zM)[j % 5]'(by simpa using h2)) := List.getElem?_eq_getElem _
    have h4 := markCells_at _ _ _ h1 _ _ h3
    rw [show j / 5 * 5 + j % 5 = j by omega] at h4
    rw [h4]
    have h5 : (zerosM n).toList[j]? = some ((#[Value.int .u32 0, .int .u32 0, .int .i64 0, .int .i64 0, .int .i64 0] : Array Value)[j % 5]!) := by
      unfold zerosM madeCells
      simp [hj]
    rw [h5]
    have h6 : j % 5 = 0 ∨ j % 5 = 1 ∨ j % 5 = 2 ∨ j % 5 = 3 ∨ j % 5 = 4 := by omega
    rcases h6 with h | h | h | h | h <;> simp only [h] <;> rfl
  · rw [List.getElem?_eq_none (by rw [Array.length_toList, zerosM_size]; omega), List.getElem?_eq_none (by rw [markCells_len, List.length_replicate]; omega)]
theorem ownsM_made (W : World) (n base : Nat) (hb : base ≤ W.heap.size) (hn : n ≤ 6000) : (W.alloc (.cells (zerosM n) 51)).ownsRow base 51 5 (.slice (some ⟨W.heap.size, 0, none⟩) n n) n (markCells (List.replicate n zM)) := by
  refine ⟨by rw [markCells_len, List.length_replicate], .inr ⟨W.heap.size, n, zerosM n, rfl, hb, heap_alloc_new W _, Nat.le_refl _, by unfold maxLen; omega, zerosM_size n, ?_⟩⟩
  rw [zerosM_list, List.take_of_length_le (by rw [markCells_len, List.length_replicate]; omega)]
theorem markCells_one (L : List MarkV) : ∀ v ∈ markCells L, v.oneCell' = true := by
  intro v hv
  obtain ⟨m, _, hm⟩ := List.mem_flatMap.1 hv
  exact mark_one m v hm
theorem below_none {w w' : World} (h : w.grownBy w' none) : Below w.heap.size w w' := ⟨h.os, h.tape, h.output, h.size, fun k hk => h.block k hk (by simp)⟩
theorem row_news {w : World} {base g n cap : Nat} {L : List MarkV} (h : w.ownsRow base 51 5 (.slice (some ⟨g, 0, none⟩) n cap) n (markCells L)) (hl : L.length = n) : ∀ j u, (markCells L)[j]? = some u → w.cell? ((⟨g, 0, none⟩ : Addr).add j) = some u := by
  intro j u hu
  have hj := (List.getElem?_eq_some_iff.1 hu).1
  rw [markCells_len, hl] at hj
  rw [Addr.add_lit, Nat.zero_add, h.cellAt _ (by omega)]
  exact hu
def relPlan2 (k : Nat) (r : Value → World → Prop) (k' : Nat) (r' : Value → World → Prop) : Grow.Plan := fun i => if i = k then some (fun _ v w => r v w) else if i = k' then some (fun _ v w => r' v w) else none
theorem relPlan2_stable (k : Nat) (r : Value → World → Prop) (k' : Nat) (r' : Value → World → Prop) (hr : ∀ v, Grow.Stable (r v)) (hr' : ∀ v, Grow.Stable (r' v)) : (relPlan2 k r k' r').stable := by
  intro i r0 h _ v w w' hw hb
  unfold relPlan2 at h
  split at h
  · cases h; exact hr v w w' hw hb
  · split at h
    · cases h; exact hr' v w w' hw hb
    · cases h
theorem RdM.take {w : World} {q : Option Addr} {l : List MarkV} (h : RdM w q l) (n : Nat) : RdM w q (l.take n) := by
  intro i p hp
  have hi := (List.getElem?_eq_some_iff.1 hp).1
  simp at hi
  rw [List.getElem?_take, if_pos (by omega)] at hp
  exact h i p hp
theorem duR_stable (lo : Nat) (D : List Duty) (v : Value) : Grow.Stable (duR lo D v) := fun _ _ hw hb => duR_next hw hb
theorem duR1_form {lo : Nat} {d : Duty} {v : Value} {w : World} (h : duR lo [d] v w) : ∃ A cap, v = .slice (some A) 1 cap := by
  obtain ⟨q, cap, hv, hr, _⟩ := h
  obtain ⟨A, hA, _⟩ := hr 0 d rfl
  exact ⟨A, cap, by rw [hv, hA]; rfl⟩
set_option maxHeartbeats 1000000 in
set_option maxRecDepth 100000 in
theorem sane18_any (w : World) :
    Calls Try.prog 9 #[] w fun e w' => e = .returned (.bool true) ∧ Below w.heap.size w w' := by
  obtain ⟨i0, hi, hy0, hy1, hy2⟩ := info_parts infoM
  have Hi := Lib.hid hi; have Hz0 := Lib.hid hy0; have Hz1 := Lib.hid hy1; have Hz2 := Lib.hid hy2
  clear hi hy0 hy1 hy2
  go_enter Try.func9, Try.ntmps9
  go_wp2_with fail
  refine (b18_val2 0 4 _ (by omega) (by omega)).mono ?_
  rintro e w1 ⟨g, cap, rfl, hg0, hg1, hown, hr, hb⟩
  have HL1 : Hid ((b18 0 4).cars.length ≤ 1000) := Lib.hid (by show (cars18 0 4).length ≤ 1000; rw [cars18_len]; decide)
  have H1 := Lib.hid s18_check; have H2 := Lib.hid s18_part; have H3 := Lib.hid s18_keeps; have H4 := Lib.hid s18_duties
  have HR1 := Lib.hid hr; have HB1 := Lib.hid hb
  clear hown hr hb
  generalize b18 0 4 = b at *
  go_upto_region 2 with fail
  have B5 := Blk.new w1 [.int .i64 b.fl, .int .i64 b.deb, .int .i64 b.room, .int .i64 b.park, .float .f64 b.em, .float .f64 b.fu, .float .f64 b.ov, .slice (some ⟨g, 0, none⟩) b.cars.length cap] 29
  have hb5 := below1' w1 (.cells #[.int .i64 b.fl, .int .i64 b.deb, .int .i64 b.room, .int .i64 b.park, .float .f64 b.em, .float .f64 b.fu, .float .f64 b.ov, .slice (some ⟨g, 0, none⟩) b.cars.length cap] 29)
  change Blk (w1.alloc (.cells #[.int .i64 b.fl, .int .i64 b.deb, .int .i64 b.room, .int .i64 b.park, .float .f64 b.em, .float .f64 b.fu, .float .f64 b.ov, .slice (some ⟨g, 0, none⟩) b.cars.length cap] 29)) _ _ at B5
  have HB3 := Lib.hid (HB1.out.trans (hb5.mono HB1.out.size))
  have HR3 := Lib.hid (HR1.out.next hb5)
  have HB5 := Lib.hid B5
  clear B5 hb5 HB1 HR1
  generalize w1.alloc (.cells #[.int .i64 b.fl, .int .i64 b.deb, .int .i64 b.room, .int .i64 b.park, .float .f64 b.em, .float .f64 b.fu, .float .f64 b.ov, .slice (some ⟨g, 0, none⟩) b.cars.length cap] 29) = w2 at *
  generalize w1.heap.size = g5 at *
  have hz5 : g5 < w2.heap.size := HB5.out.lt
  have hmk : ∀ W, (Instr.makeSlice 24 (.int .i64 10) (.int .i64 10)).run Try.prog W = .ok (.slice (some ⟨W.heap.size, 0, none⟩) 10 10) (W.alloc (.cells (zerosM 10) 51)) := run_mkM 10 (by omega)
  have HO1 := Lib.hid (ownsM_made w2 10 w2.heap.size (Nat.le_refl _) (by omega))
  have hbm := below1' w2 (.cells (zerosM 10) 51)
  have HB6 := Lib.hid (HB3.out.trans (hbm.mono HB3.out.size)); have HR6 := Lib.hid (HR3.out.next hbm); have HX6 := Lib.hid (HB5.out.next hbm)
  have hwg : w.heap.size ≤ w2.heap.size := HB3.out.size
  clear hbm HB3 HR3 HB5
  go_upto_region 3 with fail
  generalize w2.alloc (.cells (zerosM 10) 51) = w3 at *
  generalize w2.heap.size = gl at *
  have k10 : w3.cell? ⟨gl, 10, none⟩ = some (.int .u32 0) := by rw [HO1.out.cellAt 10 (by omega)]; rfl
  have k11 : w3.cell? ⟨gl, 11, none⟩ = some (.int .u32 0) := by rw [HO1.out.cellAt 11 (by omega)]; rfl
  have f10 := row_fr HO1.out 10; have f11 := row_fr HO1.out 11
  have hgl := (HO1.out.lt gl rfl).2
  go_upto_region 4 with fail
  have e1 : ((markCells (List.replicate 10 zM)).set 10 (.int .u32 1)).set 11 (.int .u32 0) = markCells s18L := by rfl
  have h2 := row_upd (row_upd HO1.out 10 (.int .u32 1)) 11 (.int .u32 0)
  rw [e1] at h2
  have HO2 := Lib.hid h2
  have h5l : g5 ≠ gl := by omega
  have HX7 := Lib.hid ((HX6.out.other (i := 10) h5l (.int .u32 1)).other (i := 11) h5l (.int .u32 0))
  have HB7 := Lib.hid ((HB6.out.setCell (p := ⟨gl, 10, none⟩) hwg (.int .u32 1)).setCell (p := ⟨gl, 11, none⟩) hwg (.int .u32 0))
  have HR7 := Lib.hid (rdC_low HR6.out (g := gl) (fun A hA => by cases hA; show g < gl; omega) (((Below.refl gl w3).setCell (p := ⟨gl, 10, none⟩) (Nat.le_refl _) (.int .u32 1)).setCell (p := ⟨gl, 11, none⟩) (Nat.le_refl _) (.int .u32 0)) (by simp [World.setCell]))
  clear h2 HO1 HX6 HB6 HR6 k10 k11 f10 f11 hmk e1
  generalize (w3.setCell ⟨gl, 10, none⟩ (.int .u32 1)).setCell ⟨gl, 11, none⟩ (.int .u32 0) = w4 at *
  have hgl4 := (HO2.out.lt gl rfl).2
  have HNW := Lib.hid (row_news HO2.out rfl)
  have hlen1 : (markCells s18L).length = 10 * 5 := by rw [markCells_len]; rfl
  have HLE := Lib.hid hlen1
  clear hlen1
  go_upto_region 5 with ((at_builtin; refine wpList_append_own _ rfl _ _ 24 rfl w4.heap.size 51 i0 (.agg #[.int .u32 0, .int .u32 0, .int .i64 0, .int .i64 0, .int .i64 0]) 5 32 Try.underlying24 Hi.out Hz0.out Hz1.out Hz2.out rfl (by decide) (.slice none 0 0) 0 [] rfl (World.ownsRow_nil _ _ _ _) ⟨gl, 0, none⟩ 10 10 (markCells s18L) rfl HLE.out HNW.out (markCells_one _) (by unfold maxLen; omega) (by omega) (Nat.le_refl _) ?_; intro v' w5 hown2 hgr hiff; clear hiff))
  have hb5 := below_none hgr
  have hown3 : w5.ownsRow w4.heap.size 51 5 v' 10 (markCells s18L) := by
    have h := hown2
    rw [List.nil_append, Nat.zero_add] at h
    exact h
  obtain ⟨g2, cap2, rfl, hg2, hg2l⟩ := World.ownsRow.form hown3 (by omega)
  have HO5 := Lib.hid hown3
  have HOL := Lib.hid (rowLater HO2.out hb5); have HR8 := Lib.hid (HR7.out.next hb5); have HX8 := Lib.hid (HX7.out.next hb5)
  have HB8 := Lib.hid (HB7.out.trans (hb5.mono (by have := HB7.out.size; exact this)))
  have hg2w : w.heap.size ≤ g2 := by have := HB7.out.size; omega
  clear hown2 hown3 hgr hb5 HO2 HR7 HX7 HB7 HNW
  have k37 : w5.cell? ⟨g2, 37, none⟩ = some (.int .i64 0) := by rw [HO5.out.cellAt 37 (by omega)]; rfl
  have k38 : w5.cell? ⟨g2, 38, none⟩ = some (.int .i64 0) := by rw [HO5.out.cellAt 38 (by omega)]; rfl
  have k39 : w5.cell? ⟨g2, 39, none⟩ = some (.int .i64 0) := by rw [HO5.out.cellAt 39 (by omega)]; rfl
  have f37 := row_fr HO5.out 37; have f38 := row_fr HO5.out 38; have f39 := row_fr HO5.out 39
  go_upto_region 6 with fail
  have e1 : (((markCells s18L).set 37 (.int .i64 0)).set 38 (.int .i64 1)).set 39 (.int .i64 1) = markCells s18M := by rfl
  have h2 := row_upd (row_upd (row_upd HO5.out 37 (.int .i64 0)) 38 (.int .i64 1)) 39 (.int .i64 1)
  rw [e1] at h2
  have HO6 := Lib.hid h2
  have h5g : g5 ≠ g2 := by omega
  have hgg : some g2 ≠ (Value.slice (some ⟨gl, 0, none⟩) 10 10).ownBlock := fun e => by
    have : g2 = gl := by simpa [Value.ownBlock] using e
    omega
  have HOL6 := Lib.hid (row_set (i := 39) (u := .int .i64 1) (row_set (i := 38) (u := .int .i64 1) (row_set (i := 37) (u := .int .i64 0) HOL.out hgg) hgg) hgg)
  have HX9 := Lib.hid (((HX8.out.other (i := 37) h5g (.int .i64 0)).other (i := 38) h5g (.int .i64 1)).other (i := 39) h5g (.int .i64 1))
  have HB9 := Lib.hid (((HB8.out.setCell (p := ⟨g2, 37, none⟩) hg2w (.int .i64 0)).setCell (p := ⟨g2, 38, none⟩) hg2w (.int .i64 1)).setCell (p := ⟨g2, 39, none⟩) hg2w (.int .i64 1))
  have HR9 := Lib.hid (rdC_low HR8.out (g := g2) (fun A hA => by cases hA; show g < g2; omega) ((((Below.refl g2 w5).setCell (p := ⟨g2, 37, none⟩) (Nat.le_refl _) (.int .i64 0)).setCell (p := ⟨g2, 38, none⟩) (Nat.le_refl _) (.int .i64 1)).setCell (p := ⟨g2, 39, none⟩) (Nat.le_refl _) (.int .i64 1)) (by simp [World.setCell]))
  clear h2 HO5 HOL HX8 HB8 HR8 k37 k38 k39 f37 f38 f39 e1 hgg
  generalize ((w5.setCell ⟨g2, 37, none⟩ (.int .i64 0)).setCell ⟨g2, 38, none⟩ (.int .i64 1)).setCell ⟨g2, 39, none⟩ (.int .i64 1) = w6 at *
  have HM1 := Lib.hid (rdM_of_owns HOL6.out rfl); have HM2 := Lib.hid (rdM_of_owns HO6.out rfl)
  have HC1 : Hid (∀ W, Below w6.heap.size w6 W → Calls Try.prog 12 #[cvB b (some ⟨g, 0, none⟩) cap, .int .i64 0, .slice (some ⟨gl, 0, none⟩) 10 10] W fun e w' => e = .returned (.int .i64 8) ∧ Below W.heap.size W w') := by
    refine Lib.hid fun W hW => ?_
    have h := check_any b (some ⟨g, 0, none⟩) cap 0 s18L (some ⟨gl, 0, none⟩) 10 W HL1.out (HR9.out.next hW) (by unfold maxLen; decide) (HM1.out.next hW)
    rw [H1.out] at h
    exact h
  have HC2 : Hid (∀ W, Below w6.heap.size w6 W → Calls Try.prog 12 #[cvB b (some ⟨g, 0, none⟩) cap, .int .i64 0, .slice (some ⟨gl, 0, none⟩) 8 10] W fun e w' => e = .returned (.int .i64 (-1)) ∧ Below W.heap.size W w') := by
    refine Lib.hid fun W hW => ?_
    have h := check_any b (some ⟨g, 0, none⟩) cap 0 (s18L.take 8) (some ⟨gl, 0, none⟩) 10 W HL1.out (HR9.out.next hW) (by unfold maxLen; decide) ((HM1.out.next hW).take 8)
    rw [H2.out] at h
    exact h
  have HC3 : Hid (∀ W, Below w6.heap.size w6 W → Calls Try.prog 14 #[cvB b (some ⟨g, 0, none⟩) cap, .int .i64 0, .slice (some ⟨g2, 0, none⟩) 10 cap2] W fun e w' => e = .returned (.bool true) ∧ Below W.heap.size W w') := by
    refine Lib.hid fun W hW => ?_
    have h := keeps_any b (some ⟨g, 0, none⟩) cap 0 s18M (some ⟨g2, 0, none⟩) cap2 W HL1.out (HR9.out.next hW) (by unfold maxLen; decide) (HM2.out.next hW)
    rw [H3.out] at h
    exact h
  have HC4 : Hid (∀ W, Below w6.heap.size w6 W → Calls Try.prog 17 #[cvB b (some ⟨g, 0, none⟩) cap, .int .i64 0, .slice (some ⟨gl, 0, none⟩) 4 10] W fun e w' => ∃ v, e = .returned v ∧ Below W.heap.size W w' ∧ duR 0 [(0, 1, 1)] v w') := by
    refine Lib.hid fun W hW => ?_
    have h := duties_any b (some ⟨g, 0, none⟩) cap 0 (s18L.take 4) (some ⟨gl, 0, none⟩) 10 W HL1.out (HR9.out.next hW) (by unfold maxLen; decide) ((HM1.out.next hW).take 4)
    rw [H4.out] at h
    exact h.mono fun e w' ⟨v, he, hb, hd⟩ => ⟨v, he, hb, duR_lo hd (Nat.zero_le _)⟩
  clear h5l h5g hg2l hg0 hg1
  have t0 := (HX9.out).reg 0 _ rfl
  have t1 := (HX9.out).reg 1 _ rfl
  have t2 := (HX9.out).reg 2 _ rfl
  have t3 := (HX9.out).reg 3 _ rfl
  have t4 := (HX9.out).reg 4 _ rfl
  have t5 := (HX9.out).reg 5 _ rfl
  have t6 := (HX9.out).reg 6 _ rfl
  have t7 := (HX9.out).reg 7 _ rfl
  have hst := relPlan2_stable 20 (duR 0 [(0, 1, 1)]) 28 (duR 0 [(0, 1, 1)]) (duR_stable 0 _) (duR_stable 0 _)
  refine Grow.wp_region (relPlan2 20 (duR 0 [(0, 1, 1)]) 28 (duR 0 [(0, 1, 1)])) hst (by kernel_rfl) (by kernel_rfl) ?_
  clear hst
  intro opsq Hopsq
  repeat (first | (refine Grow.lex_move rfl ?_ rfl ?_; (· first | exact Grow.wanted_none | (rw [Hopsq.out]; rfl)); intro K hK; simp only [Grow.put_lit, Grow.setAt, Grow.eval_lit, Grow.ev]; refine hK _ _ ?_; clear hK K) | (refine Grow.lex_assign rfl ?_ rfl ?_; (· first | exact Grow.wanted_none | (rw [Hopsq.out]; rfl)); intro K hK; simp only [Grow.put_lit, Grow.setAt, Grow.eval_lit, Grow.ev]; refine hK _ _ ?_; clear hK K) | (refine Grow.lex_plain rfl rfl ?_ rfl ?_; (· first | exact Grow.wanted_none | (rw [Hopsq.out]; rfl)); apply Exists.intro; refine ⟨fun wq hCq _ => ?_, ?_⟩; (· (go_wp2_with fail; refine ⟨rfl, Below.refl _ _, ?_⟩; simp only [Grow.getD_lit, Grow.nth]; rfl)); intro K hK; simp only [Grow.put_lit, Grow.setAt]; refine hK _ _ ?_; clear hK K) | (refine Grow.lex_nilCheck rfl rfl ?_ rfl ?_; (· first | exact Grow.wanted_none | (rw [Hopsq.out]; rfl)); intro K hK; simp only [Grow.put_lit, Grow.setAt]; refine hK _ _ ?_; clear hK K) | (refine Grow.lex_skip ?_ ?_; (· (rw [Hopsq.out]; rfl)); intro K hK; simp only [Grow.put_lit, Grow.setAt]; refine hK _ _ ?_; clear hK K))
  (refine Grow.lex_call ?_ rfl ?_; (· first | exact Grow.wanted_none | (rw [Hopsq.out]; rfl)); apply Exists.intro; apply Exists.intro; refine ⟨fun wq => ?_, ?_⟩; (· (go_simp; exact ⟨rfl, rfl⟩)); apply Exists.intro; refine ⟨fun wq hCq hKq => ?_, ?_⟩; (· exact HC1.out _ (Grow.Cl.base hCq)); intro K hK; simp only [Grow.put_lit, Grow.setAt]; refine hK _ _ ?_; clear hK K)
  repeat (first | (refine Grow.lex_move rfl ?_ rfl ?_; (· first | exact Grow.wanted_none | (rw [Hopsq.out]; rfl)); intro K hK; simp only [Grow.put_lit, Grow.setAt, Grow.eval_lit, Grow.ev]; refine hK _ _ ?_; clear hK K) | (refine Grow.lex_assign rfl ?_ rfl ?_; (· first | exact Grow.wanted_none | (rw [Hopsq.out]; rfl)); intro K hK; simp only [Grow.put_lit, Grow.setAt, Grow.eval_lit, Grow.ev]; refine hK _ _ ?_; clear hK K) | (refine Grow.lex_plain rfl rfl ?_ rfl ?_; (· first | exact Grow.wanted_none | (rw [Hopsq.out]; rfl)); apply Exists.intro; refine ⟨fun wq hCq _ => ?_, ?_⟩; (· (go_wp2_with fail; refine ⟨rfl, Below.refl _ _, ?_⟩; simp only [Grow.getD_lit, Grow.nth]; rfl)); intro K hK; simp only [Grow.put_lit, Grow.setAt]; refine hK _ _ ?_; clear hK K) | (refine Grow.lex_nilCheck rfl rfl ?_ rfl ?_; (· first | exact Grow.wanted_none | (rw [Hopsq.out]; rfl)); intro K hK; simp only [Grow.put_lit, Grow.setAt]; refine hK _ _ ?_; clear hK K) | (refine Grow.lex_skip ?_ ?_; (· (rw [Hopsq.out]; rfl)); intro K hK; simp only [Grow.put_lit, Grow.setAt]; refine hK _ _ ?_; clear hK K))
  (refine Grow.lex_call ?_ rfl ?_; (· first | exact Grow.wanted_none | (rw [Hopsq.out]; rfl)); apply Exists.intro; apply Exists.intro; refine ⟨fun wq => ?_, ?_⟩; (· (go_simp; exact ⟨rfl, rfl⟩)); apply Exists.intro; refine ⟨fun wq hCq hKq => ?_, ?_⟩; (· exact HC2.out _ (Grow.Cl.base hCq)); intro K hK; simp only [Grow.put_lit, Grow.setAt]; refine hK _ _ ?_; clear hK K)
  repeat (first | (refine Grow.lex_move rfl ?_ rfl ?_; (· first | exact Grow.wanted_none | (rw [Hopsq.out]; rfl)); intro K hK; simp only [Grow.put_lit, Grow.setAt, Grow.eval_lit, Grow.ev]; refine hK _ _ ?_; clear hK K) | (refine Grow.lex_assign rfl ?_ rfl ?_; (· first | exact Grow.wanted_none | (rw [Hopsq.out]; rfl)); intro K hK; simp only [Grow.put_lit, Grow.setAt, Grow.eval_lit, Grow.ev]; refine hK _ _ ?_; clear hK K) | (refine Grow.lex_plain rfl rfl ?_ rfl ?_; (· first | exact Grow.wanted_none | (rw [Hopsq.out]; rfl)); apply Exists.intro; refine ⟨fun wq hCq _ => ?_, ?_⟩; (· (go_wp2_with fail; refine ⟨rfl, Below.refl _ _, ?_⟩; simp only [Grow.getD_lit, Grow.nth]; rfl)); intro K hK; simp only [Grow.put_lit, Grow.setAt]; refine hK _ _ ?_; clear hK K) | (refine Grow.lex_nilCheck rfl rfl ?_ rfl ?_; (· first | exact Grow.wanted_none | (rw [Hopsq.out]; rfl)); intro K hK; simp only [Grow.put_lit, Grow.setAt]; refine hK _ _ ?_; clear hK K) | (refine Grow.lex_skip ?_ ?_; (· (rw [Hopsq.out]; rfl)); intro K hK; simp only [Grow.put_lit, Grow.setAt]; refine hK _ _ ?_; clear hK K))
  (refine Grow.lex_call ?_ rfl ?_; (· first | exact Grow.wanted_none | (rw [Hopsq.out]; rfl)); apply Exists.intro; apply Exists.intro; refine ⟨fun wq => ?_, ?_⟩; (· (go_simp; exact ⟨rfl, rfl⟩)); apply Exists.intro; refine ⟨fun wq hCq hKq => ?_, ?_⟩; (· exact HC3.out _ (Grow.Cl.base hCq)); intro K hK; simp only [Grow.put_lit, Grow.setAt]; refine hK _ _ ?_; clear hK K)
  repeat (first | (refine Grow.lex_move rfl ?_ rfl ?_; (· first | exact Grow.wanted_none | (rw [Hopsq.out]; rfl)); intro K hK; simp only [Grow.put_lit, Grow.setAt, Grow.eval_lit, Grow.ev]; refine hK _ _ ?_; clear hK K) | (refine Grow.lex_assign rfl ?_ rfl ?_; (· first | exact Grow.wanted_none | (rw [Hopsq.out]; rfl)); intro K hK; simp only [Grow.put_lit, Grow.setAt, Grow.eval_lit, Grow.ev]; refine hK _ _ ?_; clear hK K) | (refine Grow.lex_plain rfl rfl ?_ rfl ?_; (· first | exact Grow.wanted_none | (rw [Hopsq.out]; rfl)); apply Exists.intro; refine ⟨fun wq hCq _ => ?_, ?_⟩; (· (go_wp2_with fail; refine ⟨rfl, Below.refl _ _, ?_⟩; simp only [Grow.getD_lit, Grow.nth]; rfl)); intro K hK; simp only [Grow.put_lit, Grow.setAt]; refine hK _ _ ?_; clear hK K) | (refine Grow.lex_nilCheck rfl rfl ?_ rfl ?_; (· first | exact Grow.wanted_none | (rw [Hopsq.out]; rfl)); intro K hK; simp only [Grow.put_lit, Grow.setAt]; refine hK _ _ ?_; clear hK K) | (refine Grow.lex_skip ?_ ?_; (· (rw [Hopsq.out]; rfl)); intro K hK; simp only [Grow.put_lit, Grow.setAt]; refine hK _ _ ?_; clear hK K))
  (refine Grow.lex_callR (r := (fun _ v w => duR 0 [(0, 1, 1)] v w)) ?_ rfl ?_; (· first | exact Grow.wanted_none | (rw [Hopsq.out]; rfl)); apply Exists.intro; apply Exists.intro; refine ⟨fun wq => ?_, ?_, ?_⟩; (· (go_simp; exact ⟨rfl, rfl⟩)); (· (intro wq hCq hKq; exact HC4.out _ (Grow.Cl.base hCq))); intro vq hWq; obtain ⟨_, _, hTT⟩ := hWq; obtain ⟨A4, cap4, hvq⟩ := duR1_form (Grow.Holds.of_upd hTT).2; subst hvq; clear hTT; intro K hK; simp only [Grow.put_lit, Grow.setAt]; refine hK _ _ ?_; clear hK K)
  repeat (first | (refine Grow.lex_move rfl ?_ rfl ?_; (· first | exact Grow.wanted_none | (rw [Hopsq.out]; rfl)); intro K hK; simp only [Grow.put_lit, Grow.setAt, Grow.eval_lit, Grow.ev]; refine hK _ _ ?_; clear hK K) | (refine Grow.lex_assign rfl ?_ rfl ?_; (· first | exact Grow.wanted_none | (rw [Hopsq.out]; rfl)); intro K hK; simp only [Grow.put_lit, Grow.setAt, Grow.eval_lit, Grow.ev]; refine hK _ _ ?_; clear hK K) | (refine Grow.lex_plain rfl rfl ?_ rfl ?_; (· first | exact Grow.wanted_none | (rw [Hopsq.out]; rfl)); apply Exists.intro; refine ⟨fun wq hCq _ => ?_, ?_⟩; (· (go_wp2_with fail; refine ⟨rfl, Below.refl _ _, ?_⟩; simp only [Grow.getD_lit, Grow.nth]; rfl)); intro K hK; simp only [Grow.put_lit, Grow.setAt]; refine hK _ _ ?_; clear hK K) | (refine Grow.lex_nilCheck rfl rfl ?_ rfl ?_; (· first | exact Grow.wanted_none | (rw [Hopsq.out]; rfl)); intro K hK; simp only [Grow.put_lit, Grow.setAt]; refine hK _ _ ?_; clear hK K) | (refine Grow.lex_skip ?_ ?_; (· (rw [Hopsq.out]; rfl)); intro K hK; simp only [Grow.put_lit, Grow.setAt]; refine hK _ _ ?_; clear hK K))
  (refine Grow.lex_callR (r := (fun _ v w => duR 0 [(0, 1, 1)] v w)) ?_ rfl ?_; (· first | exact Grow.wanted_none | (rw [Hopsq.out]; rfl)); apply Exists.intro; apply Exists.intro; refine ⟨fun wq => ?_, ?_, ?_⟩; (· (go_simp; exact ⟨rfl, rfl⟩)); (· (intro wq hCq hKq; exact HC4.out _ (Grow.Cl.base hCq))); intro vq hWq; obtain ⟨_, _, hTT⟩ := hWq; obtain ⟨A5, cap5, hvq⟩ := duR1_form (Grow.Holds.of_upd hTT).2; subst hvq; clear hTT; intro K hK; simp only [Grow.put_lit, Grow.setAt]; refine hK _ _ ?_; clear hK K)
  repeat (first | (refine Grow.lex_move rfl ?_ rfl ?_; (· first | exact Grow.wanted_none | (rw [Hopsq.out]; rfl)); intro K hK; simp only [Grow.put_lit, Grow.setAt, Grow.eval_lit, Grow.ev]; refine hK _ _ ?_; clear hK K) | (refine Grow.lex_assign rfl ?_ rfl ?_; (· first | exact Grow.wanted_none | (rw [Hopsq.out]; rfl)); intro K hK; simp only [Grow.put_lit, Grow.setAt, Grow.eval_lit, Grow.ev]; refine hK _ _ ?_; clear hK K) | (refine Grow.lex_plain rfl rfl ?_ rfl ?_; (· first | exact Grow.wanted_none | (rw [Hopsq.out]; rfl)); apply Exists.intro; refine ⟨fun wq hCq _ => ?_, ?_⟩; (· (go_wp2_with fail; refine ⟨rfl, Below.refl _ _, ?_⟩; simp only [Grow.getD_lit, Grow.nth]; rfl)); intro K hK; simp only [Grow.put_lit, Grow.setAt]; refine hK _ _ ?_; clear hK K) | (refine Grow.lex_nilCheck rfl rfl ?_ rfl ?_; (· first | exact Grow.wanted_none | (rw [Hopsq.out]; rfl)); intro K hK; simp only [Grow.put_lit, Grow.setAt]; refine hK _ _ ?_; clear hK K) | (refine Grow.lex_skip ?_ ?_; (· (rw [Hopsq.out]; rfl)); intro K hK; simp only [Grow.put_lit, Grow.setAt]; refine hK _ _ ?_; clear hK K))
  (refine Grow.lex_plain rfl rfl ?_ rfl ?_; (· first | exact Grow.wanted_none | (rw [Hopsq.out]; rfl)); apply Exists.intro; refine ⟨fun wq hCq hKq => ?_, ?_⟩; (· (
    have hd := (duR_out ((hKq 28 ⟨[29, 30], by rw [Hopsq.out]; kernel_rfl⟩).2 rfl)).1
    obtain ⟨A, hA, _, _, _, c2⟩ := hd.at (i := 0) (d := (0, 1, 1)) rfl
    obtain rfl : A5 = A := by simpa using hA
    have c3 := c2
    rw [Nat.zero_mul] at c3
    have c4 : wq.cell? ⟨A5.block, A5.off + 2, none⟩ = some (.int .i64 1) := by simpa [go_sem] using c3
    clear hA hd hKq hCq c2 c3
    go_wp2_with fail; refine ⟨rfl, Below.refl _ _, ?_⟩; simp only [Grow.getD_lit, Grow.nth]; rfl)); intro K hK; simp only [Grow.put_lit, Grow.setAt]; refine hK _ _ ?_; clear hK K)
  repeat (first | (refine Grow.lex_move rfl ?_ rfl ?_; (· first | exact Grow.wanted_none | (rw [Hopsq.out]; rfl)); intro K hK; simp only [Grow.put_lit, Grow.setAt, Grow.eval_lit, Grow.ev]; refine hK _ _ ?_; clear hK K) | (refine Grow.lex_assign rfl ?_ rfl ?_; (· first | exact Grow.wanted_none | (rw [Hopsq.out]; rfl)); intro K hK; simp only [Grow.put_lit, Grow.setAt, Grow.eval_lit, Grow.ev]; refine hK _ _ ?_; clear hK K) | (refine Grow.lex_plain rfl rfl ?_ rfl ?_; (· first | exact Grow.wanted_none | (rw [Hopsq.out]; rfl)); apply Exists.intro; refine ⟨fun wq hCq _ => ?_, ?_⟩; (· (go_wp2_with fail; refine ⟨rfl, Below.refl _ _, ?_⟩; simp only [Grow.getD_lit, Grow.nth]; rfl)); intro K hK; simp only [Grow.put_lit, Grow.setAt]; refine hK _ _ ?_; clear hK K) | (refine Grow.lex_nilCheck rfl rfl ?_ rfl ?_; (· first | exact Grow.wanted_none | (rw [Hopsq.out]; rfl)); intro K hK; simp only [Grow.put_lit, Grow.setAt]; refine hK _ _ ?_; clear hK K) | (refine Grow.lex_skip ?_ ?_; (· (rw [Hopsq.out]; rfl)); intro K hK; simp only [Grow.put_lit, Grow.setAt]; refine hK _ _ ?_; clear hK K))
  (refine Grow.lex_nil ?_; intro wz hbz _; replace hbz := Grow.Cl.base hbz; clear Hopsq opsq)
  go_wp2_with fail
  go_ret
  exact ⟨rfl, HB9.out.trans (hbz.mono HB9.out.size)⟩
end Go.Proofs.Ytfmmiafdlfdfoaa
