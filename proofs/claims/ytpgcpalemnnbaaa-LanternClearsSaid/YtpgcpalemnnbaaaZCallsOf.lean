/- The walks over the sets of entries, and over the equality of two lists. Conditions: lists of at most 200 entries. -/
import Derived.Test.YtpgcpalemnnbaaaZCallsPlain
import Derived.Test.YtpgcpalemnnbaaaZGrowPlan
import Derived.RegionTactic
namespace Go.Proofs.Ytpgcpalemnnbaaa
open Go.RowKit
attribute [local go_sem ↓] run_eql_cs run_neq_cs

/-- An entry: floor, direction, car, moves, moved. -/
abbrev E5 : Type := Int × Int × Int × Int × Bool
def E5.cell (e : E5) : List Value := [.int .i64 e.1, .int .i64 e.2.1, .int .i64 e.2.2.1, .int .i64 e.2.2.2.1, .bool e.2.2.2.2]
def E5.key (e : E5) : Int × Int := (e.1, e.2.1)
/-- v is a slice that holds the entries l. -/
def Rd (w : World) (v : Value) (l : List E5) : Prop :=
  ∃ (q : Option Addr) (cap : Nat), v = .slice q l.length cap ∧ ∀ i e, l[i]? = some e → ∃ A, q = some A ∧ A.block < w.heap.size ∧ ∀ j u, e.cell[j]? = some u → w.cell? (A.add (i * 5 + j)) = some u
theorem add_block (A : Addr) (n : Nat) : (A.add n).block = A.block := by unfold Addr.add; split <;> rfl
theorem add_one (A : Addr) (i j : Nat) : A.add (i + (j + 1)) = ⟨(A.add i).block, (A.add i).off + (j + 1), none⟩ := by
  rw [show i + (j + 1) = (i + j) + 1 by omega, Addr.add_succ']
  unfold Addr.add
  split
  · rename_i h; subst h; simp
  · simp; omega
theorem Rd.next {w w' : World} {v : Value} {l : List E5} (h : Rd w v l) (hb : Below w.heap.size w w') : Rd w' v l := by
  obtain ⟨q, cap, hv, hc⟩ := h
  refine ⟨q, cap, hv, fun i e he => ?_⟩
  obtain ⟨A, hq, hA, hcell⟩ := hc i e he
  refine ⟨A, hq, Nat.lt_of_lt_of_le hA hb.size, fun j u hu => ?_⟩
  rw [hb.cell (by rw [add_block]; exact hA)]
  exact hcell j u hu

set_option maxHeartbeats 2000000 in
theorem of_any (v : Value) (l : List E5) (w : World) (hl : l.length ≤ 200) (hr : Rd w v l) :
    Calls Try.prog 43 #[v] w fun e w' => e = .returned (cv (ofL (l.map E5.key))) ∧ Below w.heap.size w w' := by
  obtain ⟨q, cap, rfl, hc⟩ := hr
  obtain ⟨n, hn⟩ : ∃ n, n = l.length := ⟨_, rfl⟩
  rw [← hn] at hl ⊢
  have hb0 := below2 w (.cells #[.int .u32 0, .int .u32 0] 33) (.cells #[.int .u32 0, .int .u32 0] 33)
  have TR := (Two.new w (.int .u32 0) (.int .u32 0) 33).next (below1 _ (.cells #[.int .u32 0, .int .u32 0] 33))
  have TC := Two.new (w.alloc (.cells #[.int .u32 0, .int .u32 0] 33)) (.int .u32 0) (.int .u32 0) 33
  rw [World.size_alloc] at TC
  have hz : ((w.alloc (.cells #[.int .u32 0, .int .u32 0] 33)).alloc (.cells #[.int .u32 0, .int .u32 0] 33)).heap.size = w.heap.size + 2 := by simp
  have HN := Lib.hid hn; have HC := Lib.hid hc
  clear hn hc
  go_enter Try.func43, Try.ntmps43
  go_wp2_with fail
  generalize (w.alloc (.cells #[.int .u32 0, .int .u32 0] 33)).alloc (.cells #[.int .u32 0, .int .u32 0] 33) = w0 at *
  have HR := Lib.hid TR; have HB := Lib.hid hb0; have H0 := Lib.hid TC
  clear TR hb0 TC
  go_loopw [8] (fun v wr => ∃ i : Nat, i ≤ n ∧ v = .int .i64 i ∧ Two wr (w.heap.size + 1) (.int .u32 ((ofL ((l.map E5.key).take i)).1.toNat : Int)) (.int .u32 ((ofL ((l.map E5.key).take i)).2.toNat : Int)) ∧ Below (w.heap.size + 1) w0 wr) (fun v _ => n - (intOf v).toNat)
  case atStart => exact ⟨0, by omega, rfl, by simpa [ofL] using H0.out, Below.refl _ _⟩
  case round =>
    obtain ⟨i, hi, rfl, T, hb⟩ := hrel
    have hsz := hb.size
    by_cases hlt : i < n
    · have hd : decide ((i : Int) < (n : Int)) = true := by simp; omega
      obtain ⟨e, he⟩ : ∃ e, l[i]? = some e := ⟨_, List.getElem?_eq_getElem (by rw [← HN.out]; exact hlt)⟩
      obtain ⟨A, rfl, hA, hcell⟩ := HC.out i e he
      have hk : (l.map E5.key)[i]? = some e.key := by rw [List.getElem?_map, he]; rfl
      have htk := take_snoc _ i _ hk
      have hE : union (ofL ((l.map E5.key).take i)) (one e.1 e.2.1) = ofL ((l.map E5.key).take (i + 1)) := by rw [htk, ofL_snoc]; rfl
      have hup : ∀ j u, e.cell[j]? = some u → wr.cell? (A.add (i * 5 + j)) = some u := fun j u hu => by
        rw [hb.cell (by rw [add_block]; omega), (HB.out.mono (Nat.le_refl _)).cell (by rw [add_block]; exact hA)]
        exact hcell j u hu
      have c0 : wr.cell? (A.add (i * 5)) = some (.int .i64 e.1) := hup 0 _ rfl
      have hup1 : ∀ j u, e.cell[j + 1]? = some u → wr.cell? ⟨(A.add (i * 5)).block, (A.add (i * 5)).off + (j + 1), none⟩ = some u := fun j u hu => by rw [← add_one]; exact hup (j + 1) u hu
      have c1 : wr.cell? ⟨(A.add (i * 5)).block, (A.add (i * 5)).off + 1, none⟩ = some (.int .i64 e.2.1) := hup1 0 _ rfl
      have c2 : wr.cell? ⟨(A.add (i * 5)).block, (A.add (i * 5)).off + 2, none⟩ = some (.int .i64 e.2.2.1) := hup1 1 _ rfl
      have c3 : wr.cell? ⟨(A.add (i * 5)).block, (A.add (i * 5)).off + 3, none⟩ = some (.int .i64 e.2.2.2.1) := hup1 2 _ rfl
      have c4 : wr.cell? ⟨(A.add (i * 5)).block, (A.add (i * 5)).off + 4, none⟩ = some (.bool e.2.2.2.2) := hup1 3 _ rfl
      have HE := Lib.hid hE; have HT := Lib.hid T
      clear he hcell hk htk hE hup hup1 T hA
      go_wp2_with fail
      clear c0 c1 c2 c3 c4
      have hbe := below1 wr (.cells #[.int .i64 e.1, .int .i64 e.2.1, .int .i64 e.2.2.1, .int .i64 e.2.2.2.1, .bool e.2.2.2.2] 80)
      have g0 : (wr.alloc (.cells #[.int .i64 e.1, .int .i64 e.2.1, .int .i64 e.2.2.1, .int .i64 e.2.2.2.1, .bool e.2.2.2.2] 80)).cell? ⟨wr.heap.size, 0, none⟩ = some (.int .i64 e.1) := by simp [World.cell?, World.alloc, -World.alloc_eq]
      have g1 : (wr.alloc (.cells #[.int .i64 e.1, .int .i64 e.2.1, .int .i64 e.2.2.1, .int .i64 e.2.2.2.1, .bool e.2.2.2.2] 80)).cell? ⟨wr.heap.size, 1, none⟩ = some (.int .i64 e.2.1) := by simp [World.cell?, World.alloc, -World.alloc_eq]
      generalize wr.alloc (.cells #[.int .i64 e.1, .int .i64 e.2.1, .int .i64 e.2.2.1, .int .i64 e.2.2.2.1, .bool e.2.2.2.2] 80) = wb at *
      have T := HT.out.next hbe
      have re0 : ∀ W, Grow.Cl wb.drew W → W.cell? ⟨wr.heap.size, 0, none⟩ = some (.int .i64 e.1) := fun W h => cell_later (Grow.Cl.base h) g0
      have re1 : ∀ W, Grow.Cl wb.drew W → W.cell? ⟨wr.heap.size, 1, none⟩ = some (.int .i64 e.2.1) := fun W h => cell_later (Grow.Cl.base h) g1
      have rs0 : ∀ W, Grow.Cl wb.drew W → W.cell? ⟨w.heap.size + 1, 0, none⟩ = some (.int .u32 ((ofL ((l.map E5.key).take i)).1.toNat : Int)) := fun W h => cell_later (Grow.Cl.base h) T.cell0
      have rs1 : ∀ W, Grow.Cl wb.drew W → W.cell? ⟨w.heap.size + 1, 1, none⟩ = some (.int .u32 ((ofL ((l.map E5.key).take i)).2.toNat : Int)) := fun W h => cell_later (Grow.Cl.base h) T.cell1
      have H5 := Lib.hid T
      have hb1 := hb.trans (hbe.mono (by omega))
      have hs1 := hbe.size
      clear T g0 g1 HT hbe hb
      (refine Grow.wp_region_tail 7 Grow.noPlan Grow.noPlan_stable (by kernel_rfl) (by kernel_rfl) ?_; intro opsq Hopsq; simp only [List.take_succ_cons, List.take_zero, List.drop_succ_cons, List.drop_zero])
      repeat (first | (refine Grow.lex_move rfl ?_ rfl ?_; (· first | exact Grow.wanted_none | (rw [Hopsq.out]; rfl)); intro K hK; simp only [Grow.put_lit, Grow.setAt, Grow.eval_lit, Grow.ev]; refine hK _ _ ?_; clear hK K) | (refine Grow.lex_assign rfl ?_ rfl ?_; (· first | exact Grow.wanted_none | (rw [Hopsq.out]; rfl)); intro K hK; simp only [Grow.put_lit, Grow.setAt, Grow.eval_lit, Grow.ev]; refine hK _ _ ?_; clear hK K) | (refine Grow.lex_plain rfl rfl ?_ rfl ?_; (· first | exact Grow.wanted_none | (rw [Hopsq.out]; rfl)); apply Exists.intro; refine ⟨fun wq hCq _ => ?_, ?_⟩; (· (go_wp2_with fail; refine ⟨rfl, Below.refl _ _, ?_⟩; simp only [Grow.getD_lit, Grow.nth]; rfl)); intro K hK; simp only [Grow.put_lit, Grow.setAt]; refine hK _ _ ?_; clear hK K) | (refine Grow.lex_nilCheck rfl rfl ?_ rfl ?_; (· first | exact Grow.wanted_none | (rw [Hopsq.out]; rfl)); intro K hK; simp only [Grow.put_lit, Grow.setAt]; refine hK _ _ ?_; clear hK K) | (refine Grow.lex_skip ?_ ?_; (· (rw [Hopsq.out]; rfl)); intro K hK; simp only [Grow.put_lit, Grow.setAt]; refine hK _ _ ?_; clear hK K))
      (refine Grow.lex_call ?_ rfl ?_; (· first | exact Grow.wanted_none | (rw [Hopsq.out]; rfl)); apply Exists.intro; apply Exists.intro; refine ⟨fun wq => ?_, ?_⟩; (· (go_simp; exact ⟨rfl, rfl⟩)); apply Exists.intro; refine ⟨fun wq hCq hKq => ?_, ?_⟩; (· exact one_any e.1 e.2.1 _); intro K hK; simp only [Grow.put_lit, Grow.setAt]; refine hK _ _ ?_; clear hK K)
      repeat (first | (refine Grow.lex_move rfl ?_ rfl ?_; (· first | exact Grow.wanted_none | (rw [Hopsq.out]; rfl)); intro K hK; simp only [Grow.put_lit, Grow.setAt, Grow.eval_lit, Grow.ev]; refine hK _ _ ?_; clear hK K) | (refine Grow.lex_assign rfl ?_ rfl ?_; (· first | exact Grow.wanted_none | (rw [Hopsq.out]; rfl)); intro K hK; simp only [Grow.put_lit, Grow.setAt, Grow.eval_lit, Grow.ev]; refine hK _ _ ?_; clear hK K) | (refine Grow.lex_plain rfl rfl ?_ rfl ?_; (· first | exact Grow.wanted_none | (rw [Hopsq.out]; rfl)); apply Exists.intro; refine ⟨fun wq hCq _ => ?_, ?_⟩; (· (go_wp2_with fail; refine ⟨rfl, Below.refl _ _, ?_⟩; simp only [Grow.getD_lit, Grow.nth]; rfl)); intro K hK; simp only [Grow.put_lit, Grow.setAt]; refine hK _ _ ?_; clear hK K) | (refine Grow.lex_nilCheck rfl rfl ?_ rfl ?_; (· first | exact Grow.wanted_none | (rw [Hopsq.out]; rfl)); intro K hK; simp only [Grow.put_lit, Grow.setAt]; refine hK _ _ ?_; clear hK K) | (refine Grow.lex_skip ?_ ?_; (· (rw [Hopsq.out]; rfl)); intro K hK; simp only [Grow.put_lit, Grow.setAt]; refine hK _ _ ?_; clear hK K))
      (refine Grow.lex_call ?_ rfl ?_; (· first | exact Grow.wanted_none | (rw [Hopsq.out]; rfl)); apply Exists.intro; apply Exists.intro; refine ⟨fun wq => ?_, ?_⟩; (· (go_simp; exact ⟨rfl, rfl⟩)); apply Exists.intro; refine ⟨fun wq hCq hKq => ?_, ?_⟩; (· exact union_any (ofL ((l.map E5.key).take i)) (one e.1 e.2.1) _); intro K hK; simp only [Grow.put_lit, Grow.setAt]; refine hK _ _ ?_; clear hK K)
      (refine Grow.lex_nil ?_; intro w6 hb6 _; replace hb6 := Grow.Cl.base hb6; clear Hopsq opsq)
      rw [HE.out]
      have T := H5.out.next hb6
      have hb7 := hb1.trans (hb6.mono (by omega))
      have k0 := T.cell0; have k1 := T.cell1; have f0 := T.fr0; have f1 := T.fr1
      have H6 := Lib.hid T; have H7 := Lib.hid hb7
      clear T hb6 re0 re1 rs0 rs1 hb1 hb7 H5
      go_wp2_with fail
      exact ⟨⟨i + 1, by omega, by go_num, H6.out.set _ _, below_set2 H7.out (Nat.le_refl _) _ _⟩, by simp [intOf]; omega⟩
    · have hi3 : i = n := by omega
      have htk : (l.map E5.key).take i = l.map E5.key := by rw [hi3, HN.out, ← List.length_map (f := E5.key), List.take_length]
      rw [htk] at T
      have e1 : decide ((i : Int) < (n : Int)) = false := by simp; omega
      have T0 := HR.out.later hb (by omega)
      have k0 := T0.cell0; have k1 := T0.cell1; have f0 := T0.fr0; have f1 := T0.fr1
      have o0 := T.cell0; have o1 := T.cell1
      have H6 := Lib.hid T0; have H7 := Lib.hid (HB.out.trans (hb.mono (by omega)))
      clear T T0 htk hb HB HR H0
      go_wp2_with fail
      have T2 := H6.out.set (.int .u32 ((ofL (l.map E5.key)).1.toNat : Int)) (.int .u32 ((ofL (l.map E5.key)).2.toNat : Int))
      have r0 := T2.cell0; have r1 := T2.cell1
      exact bodyPost_ret (v := cv (ofL (l.map E5.key))) (by simp [results, Try.results43, go_sem, r0, r1]) rfl ⟨rfl, below_set2 H7.out (Nat.le_refl _) _ _⟩
set_option maxHeartbeats 2000000 in
theorem refOf_any (v : Value) (l : List E5) (w : World) (hl : l.length ≤ 200) (hr : Rd w v l) :
    Calls Try.prog 44 #[v] w fun e w' => e = .returned (cv (ofL (l.map E5.key))) ∧ Below w.heap.size w w' := by
  obtain ⟨q, cap, rfl, hc⟩ := hr
  obtain ⟨n, hn⟩ : ∃ n, n = l.length := ⟨_, rfl⟩
  rw [← hn] at hl ⊢
  have hb0 := below2 w (.cells #[.int .u32 0, .int .u32 0] 33) (.cells #[.int .u32 0, .int .u32 0] 33)
  have TR := (Two.new w (.int .u32 0) (.int .u32 0) 33).next (below1 _ (.cells #[.int .u32 0, .int .u32 0] 33))
  have TC := Two.new (w.alloc (.cells #[.int .u32 0, .int .u32 0] 33)) (.int .u32 0) (.int .u32 0) 33
  rw [World.size_alloc] at TC
  have hz : ((w.alloc (.cells #[.int .u32 0, .int .u32 0] 33)).alloc (.cells #[.int .u32 0, .int .u32 0] 33)).heap.size = w.heap.size + 2 := by simp
  have HN := Lib.hid hn; have HC := Lib.hid hc
  clear hn hc
  go_enter Try.func44, Try.ntmps44
  go_wp2_with fail
  generalize (w.alloc (.cells #[.int .u32 0, .int .u32 0] 33)).alloc (.cells #[.int .u32 0, .int .u32 0] 33) = w0 at *
  have HR := Lib.hid TR; have HB := Lib.hid hb0; have H0 := Lib.hid TC
  clear TR hb0 TC
  go_loopw [4] (fun v wr => ∃ i : Nat, i ≤ n ∧ v = .int .i64 i ∧ Two wr (w.heap.size + 1) (.int .u32 ((ofL ((l.map E5.key).take i)).1.toNat : Int)) (.int .u32 ((ofL ((l.map E5.key).take i)).2.toNat : Int)) ∧ Below (w.heap.size + 1) w0 wr) (fun v _ => n - (intOf v).toNat)
  case atStart => exact ⟨0, by omega, rfl, by simpa [ofL] using H0.out, Below.refl _ _⟩
  case round =>
    obtain ⟨i, hi, rfl, T, hb⟩ := hrel
    have hsz := hb.size
    by_cases hlt : i < n
    · have hd : decide ((i : Int) < (n : Int)) = true := by simp; omega
      obtain ⟨e, he⟩ : ∃ e, l[i]? = some e := ⟨_, List.getElem?_eq_getElem (by rw [← HN.out]; exact hlt)⟩
      obtain ⟨A, rfl, hA, hcell⟩ := HC.out i e he
      have hk : (l.map E5.key)[i]? = some e.key := by rw [List.getElem?_map, he]; rfl
      have htk := take_snoc _ i _ hk
      have hE : union (ofL ((l.map E5.key).take i)) (one e.1 e.2.1) = ofL ((l.map E5.key).take (i + 1)) := by rw [htk, ofL_snoc]; rfl
      have hup : ∀ j u, e.cell[j]? = some u → wr.cell? (A.add (i * 5 + j)) = some u := fun j u hu => by
        rw [hb.cell (by rw [add_block]; omega), (HB.out.mono (Nat.le_refl _)).cell (by rw [add_block]; exact hA)]
        exact hcell j u hu
      have c0 : wr.cell? (A.add (i * 5)) = some (.int .i64 e.1) := hup 0 _ rfl
      have hup1 : ∀ j u, e.cell[j + 1]? = some u → wr.cell? ⟨(A.add (i * 5)).block, (A.add (i * 5)).off + (j + 1), none⟩ = some u := fun j u hu => by rw [← add_one]; exact hup (j + 1) u hu
      have c1 : wr.cell? ⟨(A.add (i * 5)).block, (A.add (i * 5)).off + 1, none⟩ = some (.int .i64 e.2.1) := hup1 0 _ rfl
      have HE := Lib.hid hE; have HT := Lib.hid T
      clear he hcell hk htk hE hup hup1 T hA
      have T := HT.out
      have re0 : ∀ W, Grow.Cl wr.drew W → W.cell? (A.add (i * 5)) = some (.int .i64 e.1) := fun W h => cell_later (Grow.Cl.base h) c0
      have re1 : ∀ W, Grow.Cl wr.drew W → W.cell? ⟨(A.add (i * 5)).block, (A.add (i * 5)).off + 1, none⟩ = some (.int .i64 e.2.1) := fun W h => cell_later (Grow.Cl.base h) c1
      have rs0 : ∀ W, Grow.Cl wr.drew W → W.cell? ⟨w.heap.size + 1, 0, none⟩ = some (.int .u32 ((ofL ((l.map E5.key).take i)).1.toNat : Int)) := fun W h => cell_later (Grow.Cl.base h) T.cell0
      have rs1 : ∀ W, Grow.Cl wr.drew W → W.cell? ⟨w.heap.size + 1, 1, none⟩ = some (.int .u32 ((ofL ((l.map E5.key).take i)).2.toNat : Int)) := fun W h => cell_later (Grow.Cl.base h) T.cell1
      clear c0 c1 T
      go_wp2_with fail
      (refine Grow.wp_region_tail 13 Grow.noPlan Grow.noPlan_stable (by kernel_rfl) (by kernel_rfl) ?_; intro opsq Hopsq; simp only [List.take_succ_cons, List.take_zero, List.drop_succ_cons, List.drop_zero])
      repeat (first | (refine Grow.lex_move rfl ?_ rfl ?_; (· first | exact Grow.wanted_none | (rw [Hopsq.out]; rfl)); intro K hK; simp only [Grow.put_lit, Grow.setAt, Grow.eval_lit, Grow.ev]; refine hK _ _ ?_; clear hK K) | (refine Grow.lex_assign rfl ?_ rfl ?_; (· first | exact Grow.wanted_none | (rw [Hopsq.out]; rfl)); intro K hK; simp only [Grow.put_lit, Grow.setAt, Grow.eval_lit, Grow.ev]; refine hK _ _ ?_; clear hK K) | (refine Grow.lex_plain rfl rfl ?_ rfl ?_; (· first | exact Grow.wanted_none | (rw [Hopsq.out]; rfl)); apply Exists.intro; refine ⟨fun wq hCq _ => ?_, ?_⟩; (· (go_wp2_with fail; refine ⟨rfl, Below.refl _ _, ?_⟩; simp only [Grow.getD_lit, Grow.nth]; rfl)); intro K hK; simp only [Grow.put_lit, Grow.setAt]; refine hK _ _ ?_; clear hK K) | (refine Grow.lex_nilCheck rfl rfl ?_ rfl ?_; (· first | exact Grow.wanted_none | (rw [Hopsq.out]; rfl)); intro K hK; simp only [Grow.put_lit, Grow.setAt]; refine hK _ _ ?_; clear hK K) | (refine Grow.lex_skip ?_ ?_; (· (rw [Hopsq.out]; rfl)); intro K hK; simp only [Grow.put_lit, Grow.setAt]; refine hK _ _ ?_; clear hK K))
      (refine Grow.lex_call ?_ rfl ?_; (· first | exact Grow.wanted_none | (rw [Hopsq.out]; rfl)); apply Exists.intro; apply Exists.intro; refine ⟨fun wq => ?_, ?_⟩; (· (go_simp; exact ⟨rfl, rfl⟩)); apply Exists.intro; refine ⟨fun wq hCq hKq => ?_, ?_⟩; (· exact refOne_any e.1 e.2.1 _); intro K hK; simp only [Grow.put_lit, Grow.setAt]; refine hK _ _ ?_; clear hK K)
      repeat (first | (refine Grow.lex_move rfl ?_ rfl ?_; (· first | exact Grow.wanted_none | (rw [Hopsq.out]; rfl)); intro K hK; simp only [Grow.put_lit, Grow.setAt, Grow.eval_lit, Grow.ev]; refine hK _ _ ?_; clear hK K) | (refine Grow.lex_assign rfl ?_ rfl ?_; (· first | exact Grow.wanted_none | (rw [Hopsq.out]; rfl)); intro K hK; simp only [Grow.put_lit, Grow.setAt, Grow.eval_lit, Grow.ev]; refine hK _ _ ?_; clear hK K) | (refine Grow.lex_plain rfl rfl ?_ rfl ?_; (· first | exact Grow.wanted_none | (rw [Hopsq.out]; rfl)); apply Exists.intro; refine ⟨fun wq hCq _ => ?_, ?_⟩; (· (go_wp2_with fail; refine ⟨rfl, Below.refl _ _, ?_⟩; simp only [Grow.getD_lit, Grow.nth]; rfl)); intro K hK; simp only [Grow.put_lit, Grow.setAt]; refine hK _ _ ?_; clear hK K) | (refine Grow.lex_nilCheck rfl rfl ?_ rfl ?_; (· first | exact Grow.wanted_none | (rw [Hopsq.out]; rfl)); intro K hK; simp only [Grow.put_lit, Grow.setAt]; refine hK _ _ ?_; clear hK K) | (refine Grow.lex_skip ?_ ?_; (· (rw [Hopsq.out]; rfl)); intro K hK; simp only [Grow.put_lit, Grow.setAt]; refine hK _ _ ?_; clear hK K))
      (refine Grow.lex_call ?_ rfl ?_; (· first | exact Grow.wanted_none | (rw [Hopsq.out]; rfl)); apply Exists.intro; apply Exists.intro; refine ⟨fun wq => ?_, ?_⟩; (· (go_simp; exact ⟨rfl, rfl⟩)); apply Exists.intro; refine ⟨fun wq hCq hKq => ?_, ?_⟩; (· exact refUnion_any (ofL ((l.map E5.key).take i)) (one e.1 e.2.1) _); intro K hK; simp only [Grow.put_lit, Grow.setAt]; refine hK _ _ ?_; clear hK K)
      (refine Grow.lex_nil ?_; intro w6 hb6 _; replace hb6 := Grow.Cl.base hb6; clear Hopsq opsq)
      rw [HE.out]
      have T := HT.out.next hb6
      have hb7 := hb.trans (hb6.mono (by omega))
      have k0 := T.cell0; have k1 := T.cell1; have f0 := T.fr0; have f1 := T.fr1
      have H6 := Lib.hid T; have H7 := Lib.hid hb7
      clear T hb6 re0 re1 rs0 rs1 hb hb7 HT
      go_wp2_with fail
      exact ⟨⟨i + 1, by omega, by go_num, H6.out.set _ _, below_set2 H7.out (Nat.le_refl _) _ _⟩, by simp [intOf]; omega⟩
    · have hi3 : i = n := by omega
      have htk : (l.map E5.key).take i = l.map E5.key := by rw [hi3, HN.out, ← List.length_map (f := E5.key), List.take_length]
      rw [htk] at T
      have e1 : decide ((i : Int) < (n : Int)) = false := by simp; omega
      have T0 := HR.out.later hb (by omega)
      have k0 := T0.cell0; have k1 := T0.cell1; have f0 := T0.fr0; have f1 := T0.fr1
      have o0 := T.cell0; have o1 := T.cell1
      have H6 := Lib.hid T0; have H7 := Lib.hid (HB.out.trans (hb.mono (by omega)))
      clear T T0 htk hb HB HR H0
      go_wp2_with fail
      have T2 := H6.out.set (.int .u32 ((ofL (l.map E5.key)).1.toNat : Int)) (.int .u32 ((ofL (l.map E5.key)).2.toNat : Int))
      have r0 := T2.cell0; have r1 := T2.cell1
      exact bodyPost_ret (v := cv (ofL (l.map E5.key))) (by simp [results, Try.results44, go_sem, r0, r1]) rfl ⟨rfl, below_set2 H7.out (Nat.le_refl _) _ _⟩

end Go.Proofs.Ytpgcpalemnnbaaa
