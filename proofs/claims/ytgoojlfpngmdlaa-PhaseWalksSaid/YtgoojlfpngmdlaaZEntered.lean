/- The walk over overlayref10.entered. Conditions: at most 1000 entries that can be read. -/
import Derived.Test.YtgoojlfpngmdlaaZFind
namespace Go.Proofs.Ytgoojlfpngmdlaa
open Go.RowKit
theorem ent_one (e : E5) : ∀ u ∈ e.cell, u.oneCell' = true := by
  intro u hu
  simp only [E5.cell, List.mem_cons, List.not_mem_nil, or_false] at hu
  rcases hu with rfl | rfl | rfl | rfl | rfl <;> rfl
theorem ent_new5 (w : World) (e : E5) (ty : TypeId) : ∀ j u, e.cell[j]? = some u → (w.alloc (.cells #[.int .i64 e.1, .int .i64 e.2.1, .int .i64 e.2.2.1, .int .i64 e.2.2.2.1, .bool e.2.2.2.2] ty)).cell? ((⟨w.heap.size, 0, none⟩ : Addr).add j) = some u := fun j u hu =>
  blk_news (Blk.new w e.cell ty) j u hu
/-- The entries with another one: the first k taken over, and whether it is among them. -/
def enterT (l : List E5) (e : E5) : Nat → List E5 × Bool
  | 0 => ([], false)
  | k + 1 => match l[k]? with
    | none => enterT l e k
    | some x => if (enterT l e k).2 then ((enterT l e k).1 ++ [x], true) else if lessE e x then ((enterT l e k).1 ++ [e] ++ [x], true) else ((enterT l e k).1 ++ [x], false)
def enterL (l : List E5) (e : E5) : List E5 := if (enterT l e l.length).2 then (enterT l e l.length).1 else (enterT l e l.length).1 ++ [e]
theorem enterT_len (l : List E5) (e : E5) (k : Nat) : (enterT l e k).1.length ≤ 2 * k := by
  induction k with
  | zero => simp [enterT]
  | succ k ih =>
    unfold enterT
    split
    · omega
    · split
      · simp; omega
      · split
        · simp; omega
        · simp; omega
set_option maxHeartbeats 4000000 in
set_option maxRecDepth 100000 in
theorem entered_any (l : List E5) (ql : Option Addr) (capl : Nat) (e : E5) (w : World) (he : l.length ≤ 1000) (hm : RdX w ql (entCells l)) :
    Calls Try.prog 39 #[.slice ql l.length capl, cvE e] w fun r w' => ∃ v, r = .returned v ∧ w'.ownsRow w.heap.size 52 5 v (enterL l e).length (entCells (enterL l e)) ∧ Below w.heap.size w w' := by
  obtain ⟨i0, hi, hy0, hy1, hy2⟩ := info_parts infoE
  have Hi := Lib.hid hi; have Hz0 := Lib.hid hy0; have Hz1 := Lib.hid hy1; have Hz2 := Lib.hid hy2
  clear hi hy0 hy1 hy2
  have X0 : Blk (w.alloc (.cells #[.int .i64 e.1, .int .i64 e.2.1, .int .i64 e.2.2.1, .int .i64 e.2.2.2.1, .bool e.2.2.2.2] 52)) w.heap.size [.int .i64 e.1, .int .i64 e.2.1, .int .i64 e.2.2.1, .int .i64 e.2.2.2.1, .bool e.2.2.2.2] := by
    have hx := Blk.new w [.int .i64 e.1, .int .i64 e.2.1, .int .i64 e.2.2.1, .int .i64 e.2.2.2.1, .bool e.2.2.2.2] 52
    exact hx
  have XW : Below w.heap.size w (w.alloc (.cells #[.int .i64 e.1, .int .i64 e.2.1, .int .i64 e.2.2.1, .int .i64 e.2.2.2.1, .bool e.2.2.2.2] 52)) := below1' w _
  have HWW := Lib.hid XW; have HX0 := Lib.hid X0
  clear XW X0
  have HM := Lib.hid (hm.next HWW.out)
  obtain ⟨k, hk⟩ : ∃ k, k = l.length := ⟨_, rfl⟩
  rw [← hk] at he ⊢
  have HK := Lib.hid hk
  clear hm hk
  go_enter Try.func39, Try.ntmps39
  go_upto_region 1 with fail
  generalize (w.alloc (.cells #[.int .i64 e.1, .int .i64 e.2.1, .int .i64 e.2.2.1, .int .i64 e.2.2.2.1, .bool e.2.2.2.2] 52)) = w0 at *
  have HW := Lib.hid (Below.refl w0.heap.size w0)
  have hz0 := HX0.out.lt
  go_wp2_with fail
  go_loopw [5, 6, 7] (fun v5 v6 v7 wr => ∃ i : Nat, i ≤ k ∧ v7 = .int .i64 i ∧ v6 = .bool (enterT l e i).2 ∧ wr.ownsRow w0.heap.size 52 5 v5 (enterT l e i).1.length (entCells (enterT l e i).1) ∧ Below w0.heap.size w0 wr) (fun _ _ v _ => k - (intOf v).toNat)
  case atStart => exact ⟨0, by omega, rfl, rfl, World.ownsRow_nil _ _ _ _, HW.out⟩
  case round =>
    clear HW
    obtain ⟨i, hi, rfl, rfl, hown, hb⟩ := hrel
    have HB := Lib.hid hb; have HO := Lib.hid hown; have HTL := Lib.hid (enterT_len l e i)
    clear hb hown
    by_cases hlt : i < k
    · have hd : decide ((i : Int) < (k : Int)) = true := by simp; omega
      obtain ⟨x, hx⟩ : ∃ x, l[i]? = some x := ⟨_, List.getElem?_eq_getElem (by rw [← HK.out]; exact hlt)⟩
      obtain ⟨A, hq, hA, x0, x1, x2, x3, x4⟩ := (HM.out.next HB.out).en5 hx
      have HT : Hid (enterT l e (i + 1) = if (enterT l e i).2 then ((enterT l e i).1 ++ [x], true) else if lessE e x then ((enterT l e i).1 ++ [e] ++ [x], true) else ((enterT l e i).1 ++ [x], false)) := Lib.hid (by
        rw [enterT, hx])
      subst hq
      have hi0 : (0 : Int) ≤ (i : Int) := by omega
      have hik : (i : Int) < (k : Int) := by omega
      have hal : (enterT l e i).1.length ≤ 2000 := by have := HTL.out; omega
      have HXI := Lib.hid hx
      clear hx hA HTL
      have HX1 := Lib.hid (HX0.out.next HB.out)
      obtain ⟨⟨o, dn⟩, ho⟩ : ∃ od, enterT l e i = od := ⟨_, rfl⟩
      rw [ho] at HT HO hal ⊢
      simp only at HT HO hal ⊢
      clear ho
      have HCX : Hid (∀ W, Below wr.heap.size wr W → W.cell? (A.add (i * 5)) = some (.int .i64 x.1) ∧ W.cell? ⟨(A.add (i * 5)).block, (A.add (i * 5)).off + 1, none⟩ = some (.int .i64 x.2.1) ∧ W.cell? ⟨(A.add (i * 5)).block, (A.add (i * 5)).off + 2, none⟩ = some (.int .i64 x.2.2.1) ∧ W.cell? ⟨(A.add (i * 5)).block, (A.add (i * 5)).off + 3, none⟩ = some (.int .i64 x.2.2.2.1) ∧ W.cell? ⟨(A.add (i * 5)).block, (A.add (i * 5)).off + 4, none⟩ = some (.bool x.2.2.2.2)) := Lib.hid fun W h => ⟨cell_later h x0, cell_later h x1, cell_later h x2, cell_later h x3, cell_later h x4⟩
      have h3 : dn = true ∨ (dn = false ∧ lessE e x = false) ∨ (dn = false ∧ lessE e x = true) := by
        cases dn <;> cases lessE e x <;> simp
      rcases h3 with rfl | ⟨rfl, hle⟩ | ⟨rfl, hle⟩
      · clear x0 x1 x2 x3 x4
        have HT2 : Hid (enterT l e (i + 1) = (o ++ [x], true)) := Lib.hid (by rw [HT.out]; rfl)
        clear HT
        go_upto_region 6 with fail
        clear hd
        (refine Grow.wp_region Grow.noPlan Grow.noPlan_stable (by kernel_rfl) (by kernel_rfl) ?_; intro opsq Hopsq)
        repeat (first | (refine Grow.lex_move rfl ?_ rfl ?_; (· first | exact Grow.wanted_none | (rw [Hopsq.out]; rfl)); intro K hK; simp only [Grow.put_lit, Grow.setAt, Grow.eval_lit, Grow.ev]; refine hK _ _ ?_; clear hK K) | (refine Grow.lex_assign rfl ?_ rfl ?_; (· first | exact Grow.wanted_none | (rw [Hopsq.out]; rfl)); intro K hK; simp only [Grow.put_lit, Grow.setAt, Grow.eval_lit, Grow.ev]; refine hK _ _ ?_; clear hK K) | (refine Grow.lex_plain rfl rfl ?_ rfl ?_; (· first | exact Grow.wanted_none | (rw [Hopsq.out]; rfl)); apply Exists.intro; refine ⟨fun wq hCq _ => ?_, ?_⟩; (· (go_wp2_with fail; refine ⟨rfl, Below.refl _ _, ?_⟩; simp only [Grow.getD_lit, Grow.nth]; rfl)); intro K hK; simp only [Grow.put_lit, Grow.setAt]; refine hK _ _ ?_; clear hK K) | (refine Grow.lex_nilCheck rfl rfl ?_ rfl ?_; (· first | exact Grow.wanted_none | (rw [Hopsq.out]; rfl)); intro K hK; simp only [Grow.put_lit, Grow.setAt]; refine hK _ _ ?_; clear hK K) | (refine Grow.lex_skip ?_ ?_; (· (rw [Hopsq.out]; rfl)); intro K hK; simp only [Grow.put_lit, Grow.setAt]; refine hK _ _ ?_; clear hK K))
        (refine Grow.lex_nil ?_; intro w2 hb2 _; replace hb2 := Grow.Cl.base hb2; clear Hopsq opsq)
        obtain ⟨x0, x1, x2, x3, x4⟩ := HCX.out w2 hb2
        have HO2 := Lib.hid (rowLater HO.out hb2); have HB2 := Lib.hid (HB.out.trans (hb2.mono HB.out.size))
        have hsz : w0.heap.size ≤ w2.heap.size := HB2.out.size
        clear hb2 HO HB HCX HX1
        go_wp2_with ((at_builtin; refine wpList_append_own _ rfl _ _ 33 rfl w0.heap.size 52 i0 (.agg #[.int .i64 0, .int .i64 0, .int .i64 0, .int .i64 0, .bool false]) 5 40 Try.underlying33 Hi.out Hz0.out Hz1.out Hz2.out rfl (by decide) _ _ _ rfl (HO2.out.alloc _) ⟨w2.heap.size, 0, none⟩ 1 1 x.cell rfl rfl (ent_new5 _ x _) (ent_one _) (by unfold maxLen; omega) (by omega) (by simp; omega) ?_))
        intro v' w9 hown2 hg _
        have hal2 := below1' w2 (.cells #[.int .i64 x.1, .int .i64 x.2.1, .int .i64 x.2.2.1, .int .i64 x.2.2.2.1, .bool x.2.2.2.2] 52)
        have hb3 : Below w0.heap.size w0 w9 := (HB2.out.trans (hal2.mono hsz)).grown hg (by simp; omega) (fun q hq => (HO2.out.lt q hq).1)
        have hown3 : w9.ownsRow w0.heap.size 52 5 v' (o ++ [x]).length (entCells (o ++ [x])) := by
          rw [entCells_snoc, List.length_append]; exact hown2
        clear hown2 hg x0 x1 x2 x3 x4
        go_wp2_with fail
        exact ⟨⟨i + 1, by omega, by go_num, by rw [HT2.out], by rw [HT2.out]; exact hown3, hb3⟩, by simp [intOf]; omega⟩
      · clear x0 x1 x2 x3 x4
        have HLE := Lib.hid hle
        have HT2 : Hid (enterT l e (i + 1) = (o ++ [x], false)) := Lib.hid (by rw [HT.out, hle]; rfl)
        clear hle HT
        go_upto_region 6 with fail
        clear hd
        have t0 : ∀ W, Grow.Cl wr.drew W → _ := fun W h => (HCX.out W (Grow.Cl.base h)).1
        have t1 : ∀ W, Grow.Cl wr.drew W → _ := fun W h => (HCX.out W (Grow.Cl.base h)).2.1
        have t2 : ∀ W, Grow.Cl wr.drew W → _ := fun W h => (HCX.out W (Grow.Cl.base h)).2.2.1
        have t3 : ∀ W, Grow.Cl wr.drew W → _ := fun W h => (HCX.out W (Grow.Cl.base h)).2.2.2.1
        have t4 : ∀ W, Grow.Cl wr.drew W → _ := fun W h => (HCX.out W (Grow.Cl.base h)).2.2.2.2
        have r0 := (HX1.out).reg 0 _ rfl
        have r1 := (HX1.out).reg 1 _ rfl
        have r2 := (HX1.out).reg 2 _ rfl
        have r3 := (HX1.out).reg 3 _ rfl
        have r4 := (HX1.out).reg 4 _ rfl
        (refine Grow.wp_region Grow.noPlan Grow.noPlan_stable (by kernel_rfl) (by kernel_rfl) ?_; intro opsq Hopsq)
        repeat (first | (refine Grow.lex_move rfl ?_ rfl ?_; (· first | exact Grow.wanted_none | (rw [Hopsq.out]; rfl)); intro K hK; simp only [Grow.put_lit, Grow.setAt, Grow.eval_lit, Grow.ev]; refine hK _ _ ?_; clear hK K) | (refine Grow.lex_assign rfl ?_ rfl ?_; (· first | exact Grow.wanted_none | (rw [Hopsq.out]; rfl)); intro K hK; simp only [Grow.put_lit, Grow.setAt, Grow.eval_lit, Grow.ev]; refine hK _ _ ?_; clear hK K) | (refine Grow.lex_plain rfl rfl ?_ rfl ?_; (· first | exact Grow.wanted_none | (rw [Hopsq.out]; rfl)); apply Exists.intro; refine ⟨fun wq hCq _ => ?_, ?_⟩; (· (go_wp2_with fail; refine ⟨rfl, Below.refl _ _, ?_⟩; simp only [Grow.getD_lit, Grow.nth]; rfl)); intro K hK; simp only [Grow.put_lit, Grow.setAt]; refine hK _ _ ?_; clear hK K) | (refine Grow.lex_nilCheck rfl rfl ?_ rfl ?_; (· first | exact Grow.wanted_none | (rw [Hopsq.out]; rfl)); intro K hK; simp only [Grow.put_lit, Grow.setAt]; refine hK _ _ ?_; clear hK K) | (refine Grow.lex_skip ?_ ?_; (· (rw [Hopsq.out]; rfl)); intro K hK; simp only [Grow.put_lit, Grow.setAt]; refine hK _ _ ?_; clear hK K))
        (refine Grow.lex_call ?_ rfl ?_; (· first | exact Grow.wanted_none | (rw [Hopsq.out]; rfl)); apply Exists.intro; apply Exists.intro; refine ⟨fun wq => ?_, ?_⟩; (· (go_simp; exact ⟨rfl, rfl⟩)); apply Exists.intro; refine ⟨fun wq hCq hKq => ?_, ?_⟩; (· exact calls_bool (less_any e x _) HLE.out); intro K hK; simp only [Grow.put_lit, Grow.setAt]; refine hK _ _ ?_; clear hK K)
        repeat (first | (refine Grow.lex_move rfl ?_ rfl ?_; (· first | exact Grow.wanted_none | (rw [Hopsq.out]; rfl)); intro K hK; simp only [Grow.put_lit, Grow.setAt, Grow.eval_lit, Grow.ev]; refine hK _ _ ?_; clear hK K) | (refine Grow.lex_assign rfl ?_ rfl ?_; (· first | exact Grow.wanted_none | (rw [Hopsq.out]; rfl)); intro K hK; simp only [Grow.put_lit, Grow.setAt, Grow.eval_lit, Grow.ev]; refine hK _ _ ?_; clear hK K) | (refine Grow.lex_plain rfl rfl ?_ rfl ?_; (· first | exact Grow.wanted_none | (rw [Hopsq.out]; rfl)); apply Exists.intro; refine ⟨fun wq hCq _ => ?_, ?_⟩; (· (go_wp2_with fail; refine ⟨rfl, Below.refl _ _, ?_⟩; simp only [Grow.getD_lit, Grow.nth]; rfl)); intro K hK; simp only [Grow.put_lit, Grow.setAt]; refine hK _ _ ?_; clear hK K) | (refine Grow.lex_nilCheck rfl rfl ?_ rfl ?_; (· first | exact Grow.wanted_none | (rw [Hopsq.out]; rfl)); intro K hK; simp only [Grow.put_lit, Grow.setAt]; refine hK _ _ ?_; clear hK K) | (refine Grow.lex_skip ?_ ?_; (· (rw [Hopsq.out]; rfl)); intro K hK; simp only [Grow.put_lit, Grow.setAt]; refine hK _ _ ?_; clear hK K))
        (refine Grow.lex_nil ?_; intro w2 hb2 _; replace hb2 := Grow.Cl.base hb2; clear Hopsq opsq)
        clear t0 t1 t2 t3 t4 r0 r1 r2 r3 r4
        obtain ⟨x0, x1, x2, x3, x4⟩ := HCX.out w2 hb2
        have HO2 := Lib.hid (rowLater HO.out hb2); have HB2 := Lib.hid (HB.out.trans (hb2.mono HB.out.size))
        have hsz : w0.heap.size ≤ w2.heap.size := HB2.out.size
        clear hb2 HO HB HCX HX1
        go_wp2_with ((at_builtin; refine wpList_append_own _ rfl _ _ 33 rfl w0.heap.size 52 i0 (.agg #[.int .i64 0, .int .i64 0, .int .i64 0, .int .i64 0, .bool false]) 5 40 Try.underlying33 Hi.out Hz0.out Hz1.out Hz2.out rfl (by decide) _ _ _ rfl (HO2.out.alloc _) ⟨w2.heap.size, 0, none⟩ 1 1 x.cell rfl rfl (ent_new5 _ x _) (ent_one _) (by unfold maxLen; omega) (by omega) (by simp; omega) ?_))
        intro v' w9 hown2 hg _
        have hal2 := below1' w2 (.cells #[.int .i64 x.1, .int .i64 x.2.1, .int .i64 x.2.2.1, .int .i64 x.2.2.2.1, .bool x.2.2.2.2] 52)
        have hb3 : Below w0.heap.size w0 w9 := (HB2.out.trans (hal2.mono hsz)).grown hg (by simp; omega) (fun q hq => (HO2.out.lt q hq).1)
        have hown3 : w9.ownsRow w0.heap.size 52 5 v' (o ++ [x]).length (entCells (o ++ [x])) := by
          rw [entCells_snoc, List.length_append]; exact hown2
        clear hown2 hg x0 x1 x2 x3 x4
        go_wp2_with fail
        exact ⟨⟨i + 1, by omega, by go_num, by rw [HT2.out], by rw [HT2.out]; exact hown3, hb3⟩, by simp [intOf]; omega⟩
      · clear x0 x1 x2 x3 x4
        have HLE := Lib.hid hle
        have HT2 : Hid (enterT l e (i + 1) = (o ++ [e] ++ [x], true)) := Lib.hid (by rw [HT.out, hle]; rfl)
        clear hle HT
        go_upto_region 6 with fail
        clear hd
        have t0 : ∀ W, Grow.Cl wr.drew W → _ := fun W h => (HCX.out W (Grow.Cl.base h)).1
        have t1 : ∀ W, Grow.Cl wr.drew W → _ := fun W h => (HCX.out W (Grow.Cl.base h)).2.1
        have t2 : ∀ W, Grow.Cl wr.drew W → _ := fun W h => (HCX.out W (Grow.Cl.base h)).2.2.1
        have t3 : ∀ W, Grow.Cl wr.drew W → _ := fun W h => (HCX.out W (Grow.Cl.base h)).2.2.2.1
        have t4 : ∀ W, Grow.Cl wr.drew W → _ := fun W h => (HCX.out W (Grow.Cl.base h)).2.2.2.2
        have r0 := (HX1.out).reg 0 _ rfl
        have r1 := (HX1.out).reg 1 _ rfl
        have r2 := (HX1.out).reg 2 _ rfl
        have r3 := (HX1.out).reg 3 _ rfl
        have r4 := (HX1.out).reg 4 _ rfl
        (refine Grow.wp_region Grow.noPlan Grow.noPlan_stable (by kernel_rfl) (by kernel_rfl) ?_; intro opsq Hopsq)
        repeat (first | (refine Grow.lex_move rfl ?_ rfl ?_; (· first | exact Grow.wanted_none | (rw [Hopsq.out]; rfl)); intro K hK; simp only [Grow.put_lit, Grow.setAt, Grow.eval_lit, Grow.ev]; refine hK _ _ ?_; clear hK K) | (refine Grow.lex_assign rfl ?_ rfl ?_; (· first | exact Grow.wanted_none | (rw [Hopsq.out]; rfl)); intro K hK; simp only [Grow.put_lit, Grow.setAt, Grow.eval_lit, Grow.ev]; refine hK _ _ ?_; clear hK K) | (refine Grow.lex_plain rfl rfl ?_ rfl ?_; (· first | exact Grow.wanted_none | (rw [Hopsq.out]; rfl)); apply Exists.intro; refine ⟨fun wq hCq _ => ?_, ?_⟩; (· (go_wp2_with fail; refine ⟨rfl, Below.refl _ _, ?_⟩; simp only [Grow.getD_lit, Grow.nth]; rfl)); intro K hK; simp only [Grow.put_lit, Grow.setAt]; refine hK _ _ ?_; clear hK K) | (refine Grow.lex_nilCheck rfl rfl ?_ rfl ?_; (· first | exact Grow.wanted_none | (rw [Hopsq.out]; rfl)); intro K hK; simp only [Grow.put_lit, Grow.setAt]; refine hK _ _ ?_; clear hK K) | (refine Grow.lex_skip ?_ ?_; (· (rw [Hopsq.out]; rfl)); intro K hK; simp only [Grow.put_lit, Grow.setAt]; refine hK _ _ ?_; clear hK K))
        (refine Grow.lex_call ?_ rfl ?_; (· first | exact Grow.wanted_none | (rw [Hopsq.out]; rfl)); apply Exists.intro; apply Exists.intro; refine ⟨fun wq => ?_, ?_⟩; (· (go_simp; exact ⟨rfl, rfl⟩)); apply Exists.intro; refine ⟨fun wq hCq hKq => ?_, ?_⟩; (· exact calls_bool (less_any e x _) HLE.out); intro K hK; simp only [Grow.put_lit, Grow.setAt]; refine hK _ _ ?_; clear hK K)
        repeat (first | (refine Grow.lex_move rfl ?_ rfl ?_; (· first | exact Grow.wanted_none | (rw [Hopsq.out]; rfl)); intro K hK; simp only [Grow.put_lit, Grow.setAt, Grow.eval_lit, Grow.ev]; refine hK _ _ ?_; clear hK K) | (refine Grow.lex_assign rfl ?_ rfl ?_; (· first | exact Grow.wanted_none | (rw [Hopsq.out]; rfl)); intro K hK; simp only [Grow.put_lit, Grow.setAt, Grow.eval_lit, Grow.ev]; refine hK _ _ ?_; clear hK K) | (refine Grow.lex_plain rfl rfl ?_ rfl ?_; (· first | exact Grow.wanted_none | (rw [Hopsq.out]; rfl)); apply Exists.intro; refine ⟨fun wq hCq _ => ?_, ?_⟩; (· (go_wp2_with fail; refine ⟨rfl, Below.refl _ _, ?_⟩; simp only [Grow.getD_lit, Grow.nth]; rfl)); intro K hK; simp only [Grow.put_lit, Grow.setAt]; refine hK _ _ ?_; clear hK K) | (refine Grow.lex_nilCheck rfl rfl ?_ rfl ?_; (· first | exact Grow.wanted_none | (rw [Hopsq.out]; rfl)); intro K hK; simp only [Grow.put_lit, Grow.setAt]; refine hK _ _ ?_; clear hK K) | (refine Grow.lex_skip ?_ ?_; (· (rw [Hopsq.out]; rfl)); intro K hK; simp only [Grow.put_lit, Grow.setAt]; refine hK _ _ ?_; clear hK K))
        (refine Grow.lex_nil ?_; intro w2 hb2 _; replace hb2 := Grow.Cl.base hb2; clear Hopsq opsq)
        clear t0 t1 t2 t3 t4 r0 r1 r2 r3 r4
        have HO2 := Lib.hid (rowLater HO.out hb2); have HB2 := Lib.hid (HB.out.trans (hb2.mono HB.out.size)); have HX2 := Lib.hid (HX1.out.next hb2); have HQ2 := Lib.hid hb2
        have hsz : w0.heap.size ≤ w2.heap.size := HB2.out.size
        have hrz : wr.heap.size ≤ w2.heap.size := HQ2.out.size
        have hwz : w0.heap.size ≤ wr.heap.size := HB.out.size
        clear hb2 HO HB HX1
        have r0 := (HX2.out).cell 0 _ rfl
        have r1 := (HX2.out).cell 1 _ rfl
        have r2 := (HX2.out).cell 2 _ rfl
        have r3 := (HX2.out).cell 3 _ rfl
        have r4 := (HX2.out).cell 4 _ rfl
        go_upto_region 8 with ((at_builtin; refine wpList_append_own _ rfl _ _ 33 rfl w0.heap.size 52 i0 (.agg #[.int .i64 0, .int .i64 0, .int .i64 0, .int .i64 0, .bool false]) 5 40 Try.underlying33 Hi.out Hz0.out Hz1.out Hz2.out rfl (by decide) _ _ _ rfl (HO2.out.alloc _) ⟨w2.heap.size, 0, none⟩ 1 1 e.cell rfl rfl (ent_new5 _ e _) (ent_one _) (by unfold maxLen; omega) (by omega) (by simp; omega) ?_; intro v' w9 hown2 hg hiff; clear hiff))
        have hal2 := below1' w2 (.cells #[.int .i64 e.1, .int .i64 e.2.1, .int .i64 e.2.2.1, .int .i64 e.2.2.2.1, .bool e.2.2.2.2] 52)
        have hb3 : Below w0.heap.size w0 w9 := (HB2.out.trans (hal2.mono hsz)).grown hg (by simp; omega) (fun q hq => (HO2.out.lt q hq).1)
        have hown3 : w9.ownsRow w0.heap.size 52 5 v' (o.length + 1) (entCells o ++ e.cell) := hown2
        have HO3 := Lib.hid hown3; have HB3 := Lib.hid hb3
        obtain ⟨A', hq', _, x0, x1, x2, x3, x4⟩ := (HM.out.next hb3).en5 HXI.out
        obtain rfl : A = A' := by simpa using hq'
        have hsz9 : w0.heap.size ≤ w9.heap.size := hb3.size
        clear hown2 hg hb3 hown3 hal2 r0 r1 r2 r3 r4 hq' HO2 HB2 HX2 HQ2 HCX
        go_wp2_with ((at_builtin; refine wpList_append_own _ rfl _ _ 33 rfl w0.heap.size 52 i0 (.agg #[.int .i64 0, .int .i64 0, .int .i64 0, .int .i64 0, .bool false]) 5 40 Try.underlying33 Hi.out Hz0.out Hz1.out Hz2.out rfl (by decide) _ _ _ rfl (HO3.out.alloc _) ⟨w9.heap.size, 0, none⟩ 1 1 x.cell rfl rfl (ent_new5 _ x _) (ent_one _) (by unfold maxLen; omega) (by omega) (by simp; omega) ?_))
        intro v'' w10 hown2 hg _
        have hal2 := below1' w9 (.cells #[.int .i64 x.1, .int .i64 x.2.1, .int .i64 x.2.2.1, .int .i64 x.2.2.2.1, .bool x.2.2.2.2] 52)
        have hb3 : Below w0.heap.size w0 w10 := (HB3.out.trans (hal2.mono hsz9)).grown hg (by simp; omega) (fun q hq => (HO3.out.lt q hq).1)
        have hown3 : w10.ownsRow w0.heap.size 52 5 v'' (o ++ [e] ++ [x]).length (entCells (o ++ [e] ++ [x])) := by
          rw [entCells_snoc, entCells_snoc, List.length_append, List.length_append, List.append_assoc (entCells o)]; exact hown2
        clear hown2 hg x0 x1 x2 x3 x4
        go_wp2_with fail
        exact ⟨⟨i + 1, by omega, by go_num, by rw [HT2.out], by rw [HT2.out]; exact hown3, hb3⟩, by simp [intOf]; omega⟩
    · have hd : decide ((i : Int) < (k : Int)) = false := by simp; omega
      have HEL : Hid (enterL l e = if (enterT l e i).2 then (enterT l e i).1 else (enterT l e i).1 ++ [e]) := Lib.hid (by unfold enterL; rw [show l.length = i by rw [← HK.out]; omega])
      have hal : (enterT l e i).1.length ≤ 2000 := by have := HTL.out; omega
      have hle : w.heap.size ≤ w0.heap.size := HWW.out.size
      clear HTL
      have HX1 := Lib.hid (HX0.out.next HB.out)
      obtain ⟨⟨o, dn⟩, ho⟩ : ∃ od, enterT l e i = od := ⟨_, rfl⟩
      rw [ho] at HO hal HEL ⊢
      simp only at HO hal HEL ⊢
      clear ho
      cases dn
      · have HE2 : Hid (enterL l e = o ++ [e]) := Lib.hid (by rw [HEL.out]; rfl)
        have hsz : w0.heap.size ≤ wr.heap.size := HB.out.size
        clear HEL
        have r0 := (HX1.out).cell 0 _ rfl
        have r1 := (HX1.out).cell 1 _ rfl
        have r2 := (HX1.out).cell 2 _ rfl
        have r3 := (HX1.out).cell 3 _ rfl
        have r4 := (HX1.out).cell 4 _ rfl
        go_wp2_with ((at_builtin; refine wpList_append_own _ rfl _ _ 33 rfl w0.heap.size 52 i0 (.agg #[.int .i64 0, .int .i64 0, .int .i64 0, .int .i64 0, .bool false]) 5 40 Try.underlying33 Hi.out Hz0.out Hz1.out Hz2.out rfl (by decide) _ _ _ rfl (HO.out.alloc _) ⟨wr.heap.size, 0, none⟩ 1 1 e.cell rfl rfl (ent_new5 _ e _) (ent_one _) (by unfold maxLen; omega) (by omega) (by simp; omega) ?_))
        intro v' w9 hown2 hg _
        have hal2 := below1' wr (.cells #[.int .i64 e.1, .int .i64 e.2.1, .int .i64 e.2.2.1, .int .i64 e.2.2.2.1, .bool e.2.2.2.2] 52)
        have hb3 : Below w0.heap.size w0 w9 := (HB.out.trans (hal2.mono hsz)).grown hg (by simp; omega) (fun q hq => (HO.out.lt q hq).1)
        have hown3 : w9.ownsRow w0.heap.size 52 5 v' (o ++ [e]).length (entCells (o ++ [e])) := by
          rw [entCells_snoc, List.length_append]; exact hown2
        clear hown2 hg r0 r1 r2 r3 r4
        go_wp2_with fail
        go_ret
        exact ⟨_, rfl, by rw [HE2.out]; exact row_base hown3 hle, HWW.out.trans (hb3.mono hle)⟩
      · have HE2 : Hid (enterL l e = o) := Lib.hid (by rw [HEL.out]; rfl)
        clear HEL
        go_wp2_with fail
        go_ret
        exact ⟨_, rfl, by rw [HE2.out]; exact row_base HO.out hle, HWW.out.trans (HB.out.mono hle)⟩
end Go.Proofs.Ytgoojlfpngmdlaa
