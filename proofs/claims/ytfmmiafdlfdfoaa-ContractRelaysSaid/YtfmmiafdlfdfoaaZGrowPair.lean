/- A law for a region that draws its order and ends with 'a pair taken apart, the first half stored': the call's pair is moved, both halves are taken out, one is stored; taking out the other may come after the store. Conditions: those of the theorem at the end. -/
import Derived.Test.YtfmmiafdlfdfoaaZGrow
namespace Go.Proofs.Ytfmmiafdlfdfoaa.Grow
open Go Go.RowKit
section
variable {P : Program} {ops : Array Oper} {md : Region.Mode} {w0 : World} {pl : Plan}
def lexHeadF (md : Region.Mode) (ops : Array Oper) (fin : Array Bool) : Nat → Nat → Array Bool → Bool
  | 0, _, listed => decide (listed = fin)
  | f + 1, k, listed => (Region.ready md ops listed).contains k && Region.free md ops listed k && lexHeadF md ops fin f (k + 1) (listed.setIfInBounds k true)
theorem anyR_lexF (hp : pl.stable) {n : Nat} {fin : Array Bool} {Lq : Act → Facts → Prop} (hsel : Region.noSelect ops = true) (hfin : ∀ j ∈ Region.ready md ops fin, n ≤ j)
    (hlt : ∀ i listed, i < n → HeadInv md ops n listed → listed.getD i true = false → ∀ j ∈ Region.ready md ops listed, j < n) :
    ∀ (l : List Oper) (k : Nat) (listed : Array Bool) (a : Act) (T : Facts), (∀ j, j < l.length → l[j]? = ops[k + j]?) → k + l.length = n → HeadInv md ops n listed →
    lexHeadF md ops fin l.length k listed = true → (∀ k, Stable (T k)) → Wit w0 T → lexR P ops md w0 pl Lq k l a T →
    anyR P ops md w0 pl n (fun listed' a' T' => listed' = fin ∧ Lq a' T') l.length listed a T
  | [], k, listed, a, T, _, hk, _, hB, _, _, h => by
    exact ⟨by simpa [lexHeadF] using hB, h⟩
  | o :: l, k, listed, a, T, hl, hk, inv, hB, hs, hW, h => by
    have h0 : ops[k]? = some o := by simpa using (hl 0 (by simp)).symm
    simp only [List.length_cons, lexHeadF, Bool.and_eq_true] at hB
    obtain ⟨⟨hr, hf⟩, hB'⟩ := hB
    have hkn : k < n := by simp only [List.length_cons] at hk; omega
    have hr' : k ∈ Region.ready md ops listed := by simpa using hr
    have hst : rOp P ops md w0 pl k (lexR P ops md w0 pl Lq (k + 1) l) a T := by unfold rOp; simp only [h0]; exact h
    refine anyR_first hp h0 (Region.noSelect_spec hsel) hkn (fun listed inv hun => hlt k listed hkn inv hun) (fun listed' a' T' hL => by rw [hL.1]; exact hfin) l.length listed a T inv (Region.free_spec h0 hf) hr' hs hW ?_
    exact rOp_mono_wit hp hs hW (fun a' T' hs' hW' h' => anyR_lexF hp hsel hfin hlt l (k + 1) _ a' T' (fun j hj => by have := hl (j + 1) (by simp; omega); simpa [Nat.add_assoc, Nat.add_comm 1 j] using this)
      (by simp only [List.length_cons] at hk; omega) (inv.set hr' hkn) hB' hs' hW' h') hst
end
/-- The list of what is done when the first n are. -/
def doneF (n m : Nat) : Array Bool := (List.replicate n true ++ List.replicate m false).toArray
def pairB (md : Region.Mode) (ops : Array Oper) (n : Nat) (fin : Array Bool) : Bool :=
  let f0 := fin.setIfInBounds n true
  let f1 := f0.setIfInBounds (n + 1) true
  let f2 := f0.setIfInBounds (n + 2) true
  decide (Region.ready md ops fin = [n]) && decide (Region.ready md ops f0 = [n + 1, n + 2]) && decide (Region.ready md ops f1 = [n + 2, n + 3]) && decide (Region.ready md ops f2 = [n + 1]) &&
  decide (Region.ready md ops (f1.setIfInBounds (n + 2) true) = [n + 3]) && decide (Region.ready md ops (f1.setIfInBounds (n + 3) true) = [n + 2]) && decide (Region.ready md ops (f2.setIfInBounds (n + 1) true) = [n + 3]) &&
  decide (Region.ready md ops ((f1.setIfInBounds (n + 2) true).setIfInBounds (n + 3) true) = []) && decide (Region.ready md ops ((f1.setIfInBounds (n + 3) true).setIfInBounds (n + 2) true) = []) && decide (Region.ready md ops ((f2.setIfInBounds (n + 1) true).setIfInBounds (n + 3) true) = [])
/-- Whatever comes behind number n waits for something from n on. -/
def chain2B (md : Region.Mode) (ops : Array Oper) (n : Nat) : Bool :=
  (List.range ops.size).all fun t => decide (t ≤ n) || (List.range t).any fun s => decide (n ≤ s) && Region.waitsFor md ops t s
theorem tail_waits2 {md : Region.Mode} {ops : Array Oper} {n : Nat} {listed : Array Bool} (hs : Region.sinkB md ops n = true) (hc : chain2B md ops n = true) (hn : n < ops.size) (inv : HeadInv md ops n listed) :
    ∀ (d i : Nat), n - i = d → i < n → listed.getD i true = false → ∀ t, n ≤ t → t ∉ Region.ready md ops listed := by
  intro d
  induction d using Nat.strongRecOn with
  | _ d ih =>
    intro i hd hi hun t ht hr
    obtain ⟨_, ot, hot, hall⟩ := mem_ready.1 hr
    have htlt : t < ops.size := (Array.getElem?_eq_some_iff.1 hot).1
    by_cases htn : t = n
    · subst htn
      have h1 := List.all_eq_true.1 hs i (List.mem_range.2 hi)
      obtain ⟨j, hj, hj2⟩ := List.any_eq_true.1 h1
      simp only [Bool.and_eq_true, decide_eq_true_eq] at hj2
      obtain ⟨oj, hoj, e, he, hb, hon⟩ := Region.waitsFor_spec hj2.2
      have hjle : j ≤ t := by have := List.mem_range.1 hj; omega
      by_cases hjt : j = t
      · subst hjt
        have : oj = ot := Option.some.inj (hoj.symm.trans hot)
        subst this
        have h2 := hall e he hb
        rw [hon, getD_both hun] at h2
        cases h2
      · cases hl : listed.getD j false with
        | true =>
          have h2 := inv.closed j oj hoj hl e he hb
          rw [hon, getD_both hun] at h2
          cases h2
        | false =>
          have hjs : j < listed.size := by rw [inv.size]; omega
          exact ih (t - j) (by omega) j rfl (by omega) (getD_in hjs hl) t (Nat.le_refl _) hr
    · have h1 := List.all_eq_true.1 hc t (List.mem_range.2 htlt)
      rw [Bool.or_eq_true, decide_eq_true_eq] at h1
      rcases h1 with h1 | h1
      · omega
      · obtain ⟨s, hs', h1⟩ := List.any_eq_true.1 h1
        rw [Bool.and_eq_true, decide_eq_true_eq] at h1
        have hst := List.mem_range.1 hs'
        obtain ⟨o', ho', e, he, hb, hon⟩ := Region.waitsFor_spec h1.2
        have : o' = ot := Option.some.inj (ho'.symm.trans hot)
        subst this
        have h2 := hall e he hb
        rw [hon, getD_both (inv.tail s h1.1 (by omega))] at h2
        cases h2
def lexPairB (md : Region.Mode) (ops : Array Oper) (n : Nat) : Bool :=
  Region.noSelect ops && decide (n + 4 = ops.size) && Region.sinkB md ops n && chain2B md ops n && pairB md ops n (doneF n 4) && lexHeadF md ops (doneF n 4) n 0 (Array.replicate ops.size false)
def isStore (o : Oper) : Bool := match o.op with | .store _ _ _ => true | _ => false
theorem store_skip {P : Program} {o : Oper} (hp : isStore o = true) {ρ : Operand → Value} {w w' : World} {n : Next} (h : (execOp ρ o).run P w = .ok n w') : n = .skip := by
  obtain ⟨dst, op, type, pos, after, guard⟩ := o
  cases op <;> simp only [isStore, Bool.false_eq_true] at hp
  simp only [execOp, Sem.run_bind] at h
  generalize Sem.run _ _ _ = r at h
  cases r with
  | ok x w1 => simp [Result.andThen] at h; exact h.1.symm
  | halt x w1 => simp [Result.andThen] at h
theorem run_of_wp {P : Program} {op : Op} {ty : TypeId} {pos : String} {aft : Array Edge} {a : Act} {w W1 : World} (hp : isStore ⟨none, op, ty, pos, aft, none⟩ = true)
    (h : wpList P #[] (fun e _ w' => e = .normal ∧ w' = W1) [⟨none, op, ty, "", #[], none⟩] a w) : (execOp a.eval ⟨none, op, ty, pos, aft, none⟩).run P w = .ok .skip W1 := by
  unfold wpList at h
  rw [if_pos wanted_none] at h
  rcases h with h | ⟨_, _, _, h, _⟩
  · unfold Oper.wp at h
    rw [execOp_bare a.eval none none op ty pos "" aft #[] none none]
    generalize hr : (execOp a.eval ⟨none, op, ty, "", #[], none⟩).run P w = r at h
    cases r with
    | ok n w' =>
      obtain rfl := store_skip (o := ⟨none, op, ty, "", #[], none⟩) hp hr
      obtain ⟨_, hw⟩ : _ ∧ _ := h
      rw [hw]
    | halt x w' =>
      cases x
      case panic v =>
        obtain ⟨h, _⟩ : _ ∧ _ := h
        cases h
      all_goals exact h.elim
  · cases h
theorem wpOp_value {P : Program} {ops : Array Oper} {Q : Exit → Act → World → Prop} {i : Nat} {o : Oper} {v : Value} {a : Act} {w : World} {K : Act → World → Prop} (hi : ops[i]? = some o) (hg : o.guard = none)
    (hy : (execOp a.eval o).run P w = .ok (.value v) w) (h : K (a.put o.dst v) w) : wpOp P ops Q i K a w := by
  obtain ⟨dst, op, ty, pos, aft, g⟩ := o
  obtain rfl : g = none := hg
  unfold wpOp
  simp only [hi]
  rw [if_pos wanted_none]
  left
  unfold Oper.wp
  rw [hy]
  exact h
theorem wpOp_skip {P : Program} {ops : Array Oper} {Q : Exit → Act → World → Prop} {i : Nat} {o : Oper} {a : Act} {w W1 : World} {K : Act → World → Prop} (hi : ops[i]? = some o) (hg : o.guard = none) (hd : o.dst = none)
    (hy : (execOp a.eval o).run P w = .ok .skip W1) (h : K a W1) : wpOp P ops Q i K a w := by
  obtain ⟨dst, op, ty, pos, aft, g⟩ := o
  obtain rfl : g = none := hg
  obtain rfl : dst = none := hd
  unfold wpOp
  simp only [hi]
  rw [if_pos wanted_none]
  left
  unfold Oper.wp
  rw [hy]
  exact h
/-- What the end of such a region comes to. -/
structure Pair (P : Program) (Q : Exit → Act → World → Prop) (em e0 e1 st : Oper) (a : Act) (w : World) : Prop where
  out : ∃ vm v0 v1 W1, (execOp a.eval em).run P w = .ok (.value vm) w ∧ (∀ W, (execOp (a.put em.dst vm).eval e0).run P W = .ok (.value v0) W) ∧ (∀ W, (execOp (a.put em.dst vm).eval e1).run P W = .ok (.value v1) W) ∧
    (∀ W, (execOp ((a.put em.dst vm).put e0.dst v0).eval e1).run P W = .ok (.value v1) W) ∧ (∀ W, (execOp ((a.put em.dst vm).put e1.dst v1).eval e0).run P W = .ok (.value v0) W) ∧
    (execOp ((a.put em.dst vm).put e0.dst v0).eval st).run P w = .ok .skip W1 ∧ (execOp (((a.put em.dst vm).put e0.dst v0).put e1.dst v1).eval st).run P w = .ok .skip W1 ∧ Q .normal (((a.put em.dst vm).put e0.dst v0).put e1.dst v1) W1
theorem wpAny_pair {P : Program} {ops : Array Oper} {md : Region.Mode} {Q : Exit → Act → World → Prop} {em e0 e1 st : Oper} {n : Nat} {fin : Array Bool} {a : Act} {w : World} (hm : ops[n]? = some em) (h0 : ops[n + 1]? = some e0) (h1 : ops[n + 2]? = some e1) (h2 : ops[n + 3]? = some st)
    (gm : em.guard = none) (g0 : e0.guard = none) (g1 : e1.guard = none) (g2 : st.guard = none) (hd : st.dst = none) (hc : ∀ d, e0.dst = some d → e1.dst ≠ some d)
    (hB : pairB md ops n fin = true) (h : Pair P Q em e0 e1 st a w) : wpAny P md ops Q 4 fin a w := by
  obtain ⟨vm, v0, v1, W1, ym, y0, y1, y1', y0', s0, s1, hq⟩ := h.out
  simp only [pairB, Bool.and_eq_true, decide_eq_true_eq] at hB
  obtain ⟨⟨⟨⟨⟨⟨⟨⟨⟨r0, r1⟩, r2⟩, r3⟩, r4⟩, r5⟩, r6⟩, r7⟩, r8⟩, r9⟩ := hB
  have one : ∀ {f i l} {a : Act} {w : World}, Region.ready md ops l = [i] → wpOp P ops Q i (wpAny P md ops Q f (l.setIfInBounds i true)) a w → wpAny P md ops Q (f + 1) l a w :=
    fun hr h => wpAny_all hr (by simp) (fun j hj => by obtain rfl : j = _ := by simpa using hj
                                                       exact h)
  refine one r0 (wpOp_value hm gm ym ?_)
  refine wpAny_all r1 (by simp) (fun j hj => ?_)
  rcases (by simpa using hj : j = n + 1 ∨ j = n + 2) with rfl | rfl
  · refine wpOp_value h0 g0 (y0 _) ?_
    refine wpAny_all r2 (by simp) (fun j hj => ?_)
    rcases (by simpa using hj : j = n + 2 ∨ j = n + 3) with rfl | rfl
    · refine wpOp_value h1 g1 (y1' _) ?_
      exact one r4 (wpOp_skip h2 g2 hd s1 (wpAny_done r7 hq 0))
    · refine wpOp_skip h2 g2 hd s0 ?_
      exact one r5 (wpOp_value h1 g1 (y1' _) (wpAny_done r8 hq 0))
  · refine wpOp_value h1 g1 (y1 _) ?_
    refine one r3 (wpOp_value h0 g0 (y0' _) ?_)
    rw [← Act.put_comm (a.put em.dst vm) v0 v1 hc] 
    exact one r6 (wpOp_skip h2 g2 hd s1 (wpAny_done r9 hq 0))
/-- ONE WALK IN THE TEXT's ORDER SERVES EVERY ORDER, where the region ends with a pair taken apart of which the first half is stored. -/
theorem wp_region_pair {P : Program} {id : Nat} {Q : Exit → Act → World → Prop} {a : Act} {w : World} {l : List Oper} {em e0 e1 st : Oper} (n : Nat) (pl : Plan) (hp : pl.stable) (hm : P.follows .mixedOrders = true) (hB : lexPairB .any l.toArray n = true)
    (hl : l.drop n = [em, e0, e1, st]) (hg : em.guard = none ∧ e0.guard = none ∧ e1.guard = none ∧ st.guard = none ∧ st.dst = none) (hc : ∀ d, e0.dst = some d → e1.dst ≠ some d)
    (h0 : ∀ ops, Hid (ops = l.toArray) → lexR P ops .any w.drew pl (fun a' T' => ∀ w', Cl w.drew w' → Holds T' w' → Pair P Q em e0 e1 st a' w') 0 (l.take n) a (fun _ _ => True)) : (Code.region id l.toArray true).wp P Q a w := by
  have h := h0 _ rfl
  simp only [lexPairB, Bool.and_eq_true, decide_eq_true_eq] at hB
  obtain ⟨⟨⟨⟨⟨hsel, hn⟩, hs⟩, hch⟩, hpB⟩, hlex⟩ := hB
  have hn4 : n + 4 = l.length := by simpa using hn
  have hn' : n < l.length := by omega
  have htl : (l.take n).length = n := by simp; omega
  have hfin : ∀ j ∈ Region.ready .any l.toArray (doneF n 4), n ≤ j := by
    have := hpB
    simp only [pairB, Bool.and_eq_true, decide_eq_true_eq] at this
    rw [this.1.1.1.1.1.1.1.1.1]
    intro j hj
    have : j = n := by simpa using hj
    omega
  have H := anyR_lexF (md := .any) hp hsel hfin (fun i listed hi inv hun j hj => by
      rcases Nat.lt_or_ge j n with h | h
      · exact h
      · exact absurd hj (tail_waits2 hs hch (by omega) inv _ i rfl hi hun j h)) (l.take n) 0 _ a _ (fun j hj => by
    have hj' : j < n := by rw [htl] at hj; exact hj
    simp [hj']) (by simpa using htl) (inv0 l n) (by rw [htl]; exact hlex) (fun _ _ _ _ _ => trivial) ⟨w.drew, Below.refl _ _, fun _ => trivial⟩ h
  refine wp_region_any hm ?_
  have hat : ∀ j, l[n + j]? = [em, e0, e1, st][j]? := fun j => by rw [← hl, List.getElem?_drop]
  have := wpAny_of_anyR hp (Q := Q) (g := 4) (fun listed a' T' w' hC _ hT hL => by
    rw [hL.1]
    exact wpAny_pair (by simpa using hat 0) (by simpa using hat 1) (by simpa using hat 2) (by simpa using hat 3) hg.1 hg.2.1 hg.2.2.1 hg.2.2.2.1 hg.2.2.2.2 hc hpB (hL.2 w' hC hT)) _ _ _ _ w.drew (Below.refl _ _) (fun _ _ _ _ _ => trivial) (fun _ => trivial) H
  rw [htl, show n + 4 = l.toArray.size by simpa using hn] at this
  exact this
end Go.Proofs.Ytfmmiafdlfdfoaa.Grow
