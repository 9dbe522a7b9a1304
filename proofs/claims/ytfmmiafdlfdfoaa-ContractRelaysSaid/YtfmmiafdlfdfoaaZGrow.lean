/- A law for a region that draws its order: one walk of its operations in the text's order serves every order, where each operation but the last ones only makes new memory ('Below'): its value is one and the same in every such world, or it is told by a fact that later growth keeps. Conditions: those of the theorem at the end. -/
import Derived.StillTail
import Derived.Below
import Derived.WalkKit
namespace Go.Proofs.Ytfmmiafdlfdfoaa.Grow
open Go Go.RowKit

/-! ### A call hands back one value -/
def stop : Frame := { fn := 0, tmps := #[], todo := [.code (.refuse "")], defers := [], mode := .run, kind := .normal }
theorem stop_finish (v : Value) : stop.finish v = stop := rfl
theorem stop_step (P : Program) (w : World) : ∃ o, step P (lone stop [] w) = .ended o w :=
  ⟨_, step_lone_ended (o := .unsupported (.elab "") (stop.pos P)) (by simp [stepG, stepG.exec, stop])⟩

theorem runN_split (P : Program) (a b : Nat) (m m' : Machine) (h : runN P a m = .next m') : runN P (a + b) m = runN P b m' := by
  rw [runN_add, h]

theorem leave_later {P : Program} {fr fr2 : Frame} {w w2 : World} {v : Value} (h : fr.leaving P w (.returned v)) (n : Nat)
    (hn : runN P (n + 1) (lone fr [stop] w) = .next (lone fr2 [stop] w2)) : False := by
  have hs := step_leave_returned (c := stop) (cs := []) h
  rw [stop_finish] at hs
  simp only [runN, hs] at hn
  obtain ⟨o, ho⟩ := stop_step P w
  cases n with
  | zero => simp [runN, lone] at hn
  | succ n => simp [runN, ho] at hn

theorem Calls.one {P : Program} {f : FuncId} {args : Array Value} {w : World} {v v' : Value} {R R' : World → Prop}
    (h : Calls P f args w fun e w' => e = .returned v ∧ R w') (h' : Calls P f args w fun e w' => e = .returned v' ∧ R' w') : v = v' := by
  obtain ⟨e, w1, fr1, ⟨rfl, _⟩, ⟨n1, s1⟩, f1, l1⟩ := h [stop]
  obtain ⟨e', w2, fr2, ⟨rfl, _⟩, ⟨n2, s2⟩, f2, l2⟩ := h' [stop]
  have key : ∀ {n1 n2 : Nat} {fr1 fr2 : Frame} {w1 w2 : World} {v v' : Value}, runN P n1 (lone (Frame.enter P f args .normal) [stop] w) = .next (lone fr1 [stop] w1) →
      runN P n2 (lone (Frame.enter P f args .normal) [stop] w) = .next (lone fr2 [stop] w2) → fr1.leaving P w1 (.returned v) → fr2.leaving P w2 (.returned v') → n1 ≤ n2 → v = v' := by
    intro n1 n2 fr1 fr2 w1 w2 v v' s1 s2 l1 l2 hle
    obtain ⟨d, rfl⟩ := Nat.le.dest hle
    rw [runN_split P n1 d _ _ s1] at s2
    cases d with
    | zero =>
      simp only [runN, lone, Stepped.next.injEq, Machine.mk.injEq] at s2
      obtain ⟨hw, hg, _⟩ := s2
      have hfr : fr1 = fr2 := by simpa using hg
      subst hw; subst hfr
      obtain ⟨_, _, _, fn, hf, hr⟩ := l1
      obtain ⟨_, _, _, fn', hf', hr'⟩ := l2
      obtain rfl : fn = fn' := Option.some.inj (hf.symm.trans hf')
      rw [hr] at hr'
      simpa using hr'
    | succ d => exact (leave_later l1 d s2).elim
  rcases Nat.le_total n1 n2 with hle | hle
  · exact key s1 s2 l1 l2 hle
  · exact (key s2 s1 l2 l1 hle).symm

/-! ### One operation -/
section
variable (P : Program) (ops : Array Oper) (md : Region.Mode) (w0 : World)

abbrev Fact := World → Prop
def Stable (f : Fact) : Prop := ∀ w w', f w → Below w.heap.size w w' → f w'
/-- The class of worlds: what was there when the region began is as it was. -/
def Cl (w : World) : Prop := Below w0.heap.size w0 w

/-- What the operation's run comes to: a value, old memory as it was, and R. -/
def uponR (R : Value → World → Prop) (w : World) : Result Next → Prop
  | .ok (.value u) w' => Below w.heap.size w w' ∧ R u w'
  | .ok .skip w' => Below w.heap.size w w' ∧ R undef w'
  | .ok (.enter f args) w' => Below w.heap.size w w' ∧ Calls P f args w' fun e w'' => ∃ v, e = .returned v ∧ Below w'.heap.size w' w'' ∧ R v w''
  | _ => False
def yields (o : Oper) (a : Act) (w : World) (R : Value → World → Prop) : Prop := uponR P R w ((execOp a.eval o).run P w)

/-- Number j waits, by way of others, for number i ('path': from i on). -/
def pathOk (i : Nat) : List Nat → Nat → Bool
  | [], j => Region.waitsFor md ops j i
  | k :: r, j => Region.waitsFor md ops k i && pathOk k r j
def Anc (i j : Nat) : Prop := ∃ p, pathOk ops md i p j = true

abbrev Facts := Nat → World → Prop
def upd (T : Facts) (i : Nat) (f : Fact) : Facts := fun k w => T k w ∧ (k = i → f w)
def Holds (T : Facts) (w : World) : Prop := ∀ k, T k w
def Known (T : Facts) (i : Nat) (w : World) : Prop := ∀ k, Anc ops md k i → T k w
def Wit (T : Facts) : Prop := ∃ w, Cl w0 w ∧ Holds T w
def vals (o : Oper) (a : Act) : Array Value := o.op.operands.map a.eval

/-- An operation of which a fact is told, not a value: the fact, of the operands' values and of the value. -/
abbrev Plan := Nat → Option (Array Value → Value → World → Prop)
def Plan.stable (pl : Plan) : Prop := ∀ i r, pl i = some r → ∀ xs v, Stable (r xs v)

def opR (pl : Plan) (i : Nat) (o : Oper) (K : Act → Facts → Prop) (a : Act) (T : Facts) : Prop :=
  match pl i with
  | none => ∃ v, (∀ w, Cl w0 w → Known ops md T i w → yields P o a w fun u _ => u = v) ∧ K (a.put o.dst v) T
  | some r => (∀ w, Cl w0 w → Known ops md T i w → yields P o a w (r (vals o a))) ∧ ∀ v, Wit w0 (upd T i (r (vals o a) v)) → K (a.put o.dst v) (upd T i (r (vals o a) v))

def rOp (pl : Plan) (i : Nat) (K : Act → Facts → Prop) (a : Act) (T : Facts) : Prop :=
  match ops[i]? with
  | none => K a T
  | some o => if Region.wanted o (yielded ops a.tmps) then opR P ops md w0 pl i o K a T else K (a.put o.dst undef) T

/-- The walk in the text's order, from number k on. -/
def lexR (pl : Plan) (Q : Act → Facts → Prop) : Nat → List Oper → Act → Facts → Prop
  | _, [], a, T => Q a T
  | k, o :: rest, a, T => if Region.wanted o (yielded ops a.tmps) then opR P ops md w0 pl k o (lexR pl Q (k + 1) rest) a T else lexR pl Q (k + 1) rest (a.put o.dst undef) T

/-- Whatever order is picked, up to the tail. -/
def anyR (pl : Plan) (n : Nat) (L : Array Bool → Act → Facts → Prop) : Nat → Array Bool → Act → Facts → Prop
  | 0, listed, a, T => L listed a T
  | f + 1, listed, a, T => Region.ready md ops listed ≠ [] ∧ ∀ i ∈ Region.ready md ops listed, i < n ∧ rOp P ops md w0 pl i (anyR pl n L f (listed.setIfInBounds i true)) a T
end

section
variable {P : Program} {ops : Array Oper} {md : Region.Mode} {w0 : World} {pl : Plan}

theorem Cl.base {w w' : World} (h : Cl w.drew w') : Below w.heap.size w w' := ⟨h.os, h.tape, h.output, h.size, h.block⟩
theorem Cl.step {w w' : World} (h : Cl w0 w) (hb : Below w.heap.size w w') : Cl w0 w' := Below.trans h (hb.mono h.size)
theorem Holds.step {T : Facts} (hs : ∀ k, Stable (T k)) {w w' : World} (h : Holds T w) (hb : Below w.heap.size w w') : Holds T w' := fun k => hs k w w' (h k) hb
theorem stable_upd {T : Facts} (hs : ∀ k, Stable (T k)) {i : Nat} {f : Fact} (hf : Stable f) : ∀ k, Stable (upd T i f k) :=
  fun k w w' h hb => ⟨hs k w w' h.1 hb, fun e => hf w w' (h.2 e) hb⟩
theorem upd_comm (T : Facts) (i j : Nat) (f g : Fact) : upd (upd T i f) j g = upd (upd T j g) i f := by
  funext k w; unfold upd; exact propext ⟨fun h => ⟨⟨h.1.1, h.2⟩, h.1.2⟩, fun h => ⟨⟨h.1.1, h.2⟩, h.1.2⟩⟩
theorem Holds.upd {T : Facts} {i : Nat} {f : Fact} {w : World} (h : Holds T w) (hf : f w) : Holds (upd T i f) w := fun k => ⟨h k, fun _ => hf⟩
theorem Holds.of_upd {T : Facts} {i : Nat} {f : Fact} {w : World} (h : Holds (Grow.upd T i f) w) : Holds T w ∧ f w := ⟨fun k => (h k).1, (h i).2 rfl⟩
theorem Known.of_upd {T : Facts} {i j : Nat} {f : Fact} {w : World} (h : Known ops md (upd T j f) i w) : Known ops md T i w := fun k hk => (h k hk).1
theorem Known.upd {T : Facts} {i j : Nat} {f : Fact} {w : World} (hn : ¬ Anc ops md j i) (h : Known ops md T i w) : Known ops md (upd T j f) i w :=
  fun k hk => ⟨h k hk, fun e => (hn (e ▸ hk)).elim⟩
theorem Holds.known {T : Facts} {w : World} (h : Holds T w) (i : Nat) : Known ops md T i w := fun k _ => h k

theorem uponR_mono {R R' : Value → World → Prop} {w : World} (h : ∀ v w', Below w.heap.size w w' → R v w' → R' v w') {r : Result Next} (hr : uponR P R w r) : uponR P R' w r := by
  cases r with
  | ok n w' =>
    cases n <;> simp only [uponR] at hr ⊢
    case value u => exact ⟨hr.1, h _ _ hr.1 hr.2⟩
    case skip => exact ⟨hr.1, h _ _ hr.1 hr.2⟩
    case enter f args =>
      refine ⟨hr.1, hr.2.mono fun e w'' ⟨v, he, hb, hR⟩ => ⟨v, he, hb, h _ _ (hr.1.trans (hb.mono hr.1.size)) hR⟩⟩
  | halt x w' => simp only [uponR] at hr
theorem yields_mono {o : Oper} {a : Act} {w : World} {R R' : Value → World → Prop} (h : ∀ v w', Below w.heap.size w w' → R v w' → R' v w') (hr : yields P o a w R) : yields P o a w R' := uponR_mono h hr

theorem yields_one {o : Oper} {a : Act} {w : World} {v v' : Value} (h : yields P o a w fun u _ => u = v) (h' : yields P o a w fun u _ => u = v') : v = v' := by
  unfold yields at *
  generalize (execOp a.eval o).run P w = r at *
  cases r with
  | ok n w' =>
    cases n <;> simp only [uponR] at h h'
    case value u => exact h.2.symm.trans h'.2
    case skip => exact h.2.symm.trans h'.2
    case enter f args =>
      exact Calls.one (R := fun _ => True) (R' := fun _ => True) (h.2.mono fun e w'' ⟨v, he, _, hR⟩ => ⟨by rw [he, hR], trivial⟩) (h'.2.mono fun e w'' ⟨v, he, _, hR⟩ => ⟨by rw [he, hR], trivial⟩)
  | halt x w' => simp only [uponR] at h

theorem yields_some {o : Oper} {a : Act} {w : World} {R : Value → World → Prop} (h : yields P o a w R) : ∃ v w', Below w.heap.size w w' ∧ R v w' := by
  unfold yields at *
  generalize (execOp a.eval o).run P w = r at *
  cases r with
  | ok n w' =>
    cases n <;> simp only [uponR] at h
    case value u => exact ⟨_, _, h⟩
    case skip => exact ⟨_, _, h⟩
    case enter f args =>
      obtain ⟨e, w'', fr, ⟨v, _, hb, hR⟩, _⟩ := h.2 []
      exact ⟨v, w'', h.1.trans (hb.mono h.1.size), hR⟩
  | halt x w' => simp only [uponR] at h

theorem wp_of_yields {o : Oper} {a : Act} {w : World} {R : Value → World → Prop} {K : Act → World → Prop} {Q : Exit → Act → World → Prop} (h : yields P o a w R)
    (hk : ∀ v w', Below w.heap.size w w' → R v w' → K (a.put o.dst v) w') : o.wp P a w K Q := by
  unfold yields at h
  unfold Oper.wp
  generalize (execOp a.eval o).run P w = r at *
  cases r with
  | ok n w' =>
    cases n <;> simp only [uponR] at h
    case value u => exact hk _ _ h.1 h.2
    case skip => exact hk _ _ h.1 h.2
    case enter f args =>
      refine Calls.mono h.2 fun e w'' ⟨v, he, hb, hR⟩ => ?_
      subst he
      exact hk _ _ (h.1.trans (hb.mono h.1.size)) hR
  | halt x w' => simp only [uponR] at h

/-! ### Soundness -/
theorem wpOp_of_rOp (hp : pl.stable) {i : Nat} {a : Act} {T : Facts} {w : World} {K : Act → Facts → Prop} {K' : Act → World → Prop} {Q : Exit → Act → World → Prop} (hC : Cl w0 w) (hs : ∀ k, Stable (T k)) (hT : Holds T w)
    (h : rOp P ops md w0 pl i K a T) (hk : ∀ a' T' w', Cl w0 w' → (∀ k, Stable (T' k)) → Holds T' w' → K a' T' → K' a' w') : wpOp P ops Q i K' a w := by
  unfold rOp at h
  unfold wpOp
  split
  · rename_i ho; simp only [ho] at h; exact hk _ _ _ hC hs hT h
  · rename_i o ho
    simp only [ho] at h
    split
    · rename_i hw
      simp only [hw, if_true] at h
      left
      unfold opR at h
      split at h
      · obtain ⟨v, hy, hK⟩ := h
        refine wp_of_yields (hy w hC (hT.known _)) fun u w' hb hu => ?_
        subst hu
        exact hk _ _ _ (hC.step hb) hs (hT.step hs hb) hK
      · rename_i r hr
        obtain ⟨hy, hK⟩ := h
        refine wp_of_yields (hy w hC (hT.known _)) fun u w' hb hu => ?_
        have hT' : Holds (upd T i (r (vals o a) u)) w' := (hT.step hs hb).upd hu
        exact hk _ _ _ (hC.step hb) (stable_upd hs (hp i r hr _ _)) hT' (hK u ⟨w', hC.step hb, hT'⟩)
    · rename_i hw
      simp only [hw] at h
      exact hk _ _ _ hC hs hT h

theorem wpAny_of_anyR (hp : pl.stable) {n g : Nat} {L : Array Bool → Act → Facts → Prop} {Q : Exit → Act → World → Prop}
    (hL : ∀ listed a T w, Cl w0 w → (∀ k, Stable (T k)) → Holds T w → L listed a T → wpAny P md ops Q g listed a w) :
    ∀ (f : Nat) (listed : Array Bool) (a : Act) (T : Facts) (w : World), Cl w0 w → (∀ k, Stable (T k)) → Holds T w → anyR P ops md w0 pl n L f listed a T → wpAny P md ops Q (f + g) listed a w
  | 0, listed, a, T, w, hC, hs, hT, h => by rw [Nat.zero_add]; exact hL _ _ _ _ hC hs hT h
  | f + 1, listed, a, T, w, hC, hs, hT, h => by
    rw [show f + 1 + g = (f + g) + 1 by omega]
    exact ⟨fun h0 => absurd h0 h.1, fun i hi => wpOp_of_rOp hp hC hs hT (h.2 i hi).2 fun a' T' w' hC' hs' hT' h' => wpAny_of_anyR hp hL f _ a' T' w' hC' hs' hT' h'⟩

/-! ### An operation that is ready may be carried out first -/
theorem vals_put {oi oj : Oper} {a : Act} {v : Value} (h : ∀ d, oi.dst = some d → d ∉ oj.looksAt ops) : vals oj (a.put oi.dst v) = vals oj a := by
  unfold vals
  apply Array.map_congr_left
  intro x hx
  refine Act.eval_put fun d hd e => h d hd ?_
  subst e
  unfold Oper.looksAt
  refine List.mem_append.2 (.inl (List.mem_filterMap.2 ⟨.tmp d, by simpa using hx, rfl⟩))

theorem yields_put {oi oj : Oper} {a : Act} {v : Value} {w : World} {R : Value → World → Prop} (hsj : ∀ cs b, oj.op ≠ .select cs b) (h : ∀ d, oi.dst = some d → d ∉ oj.looksAt ops) :
    yields P oj (a.put oi.dst v) w R ↔ yields P oj a w R := by
  unfold yields; rw [execOp_put oj hsj a oi.dst v h]

theorem not_anc {n i j : Nat} {listed : Array Bool} (inv : HeadInv md ops n listed) (hi : listed.getD i false = false) (hj : ∀ k, Region.waitsFor md ops j k = true → listed.getD k false = true) : ¬ Anc ops md i j := by
  rintro ⟨p, hp⟩
  induction p generalizing i with
  | nil => have := hj i hp; rw [hi] at this; cases this
  | cons k r ih =>
    simp only [pathOk, Bool.and_eq_true] at hp
    obtain ⟨ok, hok, e, he, hb, hon⟩ := Region.waitsFor_spec hp.1
    cases hk : listed.getD k false with
    | true =>
      have := inv.closed k ok hok hk e he hb
      rw [hon, hi] at this; cases this
    | false => exact ih hk hp.2

theorem waits_listed {j : Nat} {listed : Array Bool} (h : j ∈ Region.ready md ops listed) : ∀ k, Region.waitsFor md ops j k = true → listed.getD k false = true := by
  intro k hk
  obtain ⟨_, oj, hoj, hall⟩ := mem_ready.1 h
  obtain ⟨oj', hoj', e, he, hb, hon⟩ := Region.waitsFor_spec hk
  obtain rfl : oj = oj' := Option.some.inj (hoj.symm.trans hoj')
  have := hall e he hb
  rwa [hon] at this

/-- Two operations that do not look at each other. -/
theorem rOp_swap {i j : Nat} {oi oj : Oper} (hi : ops[i]? = some oi) (hj : ops[j]? = some oj) (hap : oi.apart ops oj = true)
    (hsi : ∀ cs b, oi.op ≠ .select cs b) (hsj : ∀ cs b, oj.op ≠ .select cs b) (hnij : ¬ Anc ops md i j) (_hnji : ¬ Anc ops md j i) (hp : pl.stable)
    {a : Act} {T : Facts} (hs : ∀ k, Stable (T k)) (hW : Wit w0 T) {K : Act → Facts → Prop}
    (h : rOp P ops md w0 pl i (fun a' T' => rOp P ops md w0 pl j K a' T') a T) :
    rOp P ops md w0 pl j (fun a' T' => (∀ k, Stable (T' k)) ∧ Wit w0 T' ∧ rOp P ops md w0 pl i K a' T') a T := by
  obtain ⟨h1, h2, h3⟩ := Oper.apart_spec hap
  have wi : ∀ (a : Act) (u : Value), Region.wanted oi (yielded ops (a.put oj.dst u).tmps) = Region.wanted oi (yielded ops a.tmps) := fun a u => wanted_put oi a oj.dst u h3
  have wj : ∀ (a : Act) (u : Value), Region.wanted oj (yielded ops (a.put oi.dst u).tmps) = Region.wanted oj (yielded ops a.tmps) := fun a u => wanted_put oj a oi.dst u h1
  have pc : ∀ (a : Act) (u v : Value), (a.put oi.dst v).put oj.dst u = (a.put oj.dst u).put oi.dst v := fun a u v => Act.put_comm a v u h2
  unfold rOp at h ⊢
  simp only [hi, hj] at h ⊢
  by_cases hwi : Region.wanted oi (yielded ops a.tmps) = true
  · simp only [hwi, if_true] at h
    unfold opR at h
    cases hpi : pl i with
    | none =>
      simp only [hpi] at h
      obtain ⟨v, hy, h⟩ := h
      rw [wj] at h
      by_cases hwj : Region.wanted oj (yielded ops a.tmps) = true
      · simp only [hwj, if_true] at h ⊢
        unfold opR
        cases hpj : pl j with
        | none =>
          simp only [hpj] at h ⊢
          obtain ⟨u, hyj, h⟩ := h
          refine ⟨u, fun w hC hk => (yields_put hsj h1).1 (hyj w hC hk), hs, hW, ?_⟩
          simp only [wi, hwi, if_true, hpi]
          exact ⟨v, fun w hC hk => (yields_put hsi h3).2 (hy w hC hk), by rw [← pc]; exact h⟩
        | some r =>
          simp only [hpj] at h ⊢
          obtain ⟨hyj, h⟩ := h
          rw [vals_put h1] at hyj h
          refine ⟨fun w hC hk => (yields_put hsj h1).1 (hyj w hC hk), fun u hw => ⟨stable_upd hs (hp j r hpj _ _), hw, ?_⟩⟩
          simp only [wi, hwi, if_true, hpi]
          exact ⟨v, fun w hC hk => (yields_put hsi h3).2 (hy w hC hk.of_upd), by rw [← pc]; exact h u hw⟩
      · simp only [hwj] at h ⊢
        refine ⟨hs, hW, ?_⟩
        simp only [wi, hwi, if_true, opR, hpi]
        exact ⟨v, fun w hC hk => (yields_put hsi h3).2 (hy w hC hk), by rw [← pc]; exact h⟩
    | some r =>
      simp only [hpi] at h
      obtain ⟨hy, h⟩ := h
      -- a sample
      obtain ⟨wz, hCz, hTz⟩ := hW
      obtain ⟨v0, w0', hb0, hR0⟩ := yields_some (hy wz hCz (hTz.known _))
      have hWv0 : Wit w0 (upd T i (r (vals oi a) v0)) := ⟨w0', hCz.step hb0, (hTz.step hs hb0).upd hR0⟩
      have hW : Wit w0 T := ⟨wz, hCz, hTz⟩
      by_cases hwj : Region.wanted oj (yielded ops a.tmps) = true
      · simp only [hwj, if_true]
        have hall : ∀ v, Wit w0 (upd T i (r (vals oi a) v)) → opR P ops md w0 pl j oj K (a.put oi.dst v) (upd T i (r (vals oi a) v)) := fun v hv => by
          have := h v hv
          rw [wj] at this
          unfold opR
          simpa only [hwj, if_true] using this
        unfold opR at hall ⊢
        cases hpj : pl j with
        | none =>
          simp only [hpj] at hall ⊢
          obtain ⟨u, hyj, _⟩ := hall v0 hWv0
          have hyj' : ∀ w, Cl w0 w → Known ops md T j w → yields P oj a w fun x _ => x = u := fun w hC hk => (yields_put hsj h1).1 (hyj w hC (hk.upd hnij))
          refine ⟨u, hyj', hs, hW, ?_⟩
          simp only [wi, hwi, if_true, hpi, vals_put h3]
          refine ⟨fun w hC hk => (yields_put hsi h3).2 (hy w hC hk), fun v hv => ?_⟩
          obtain ⟨u', hyj2, hK⟩ := hall v hv
          have : u = u' := yields_one (hyj' wz hCz (hTz.known _)) ((yields_put hsj h1).1 (hyj2 wz hCz ((hTz.known _).upd hnij)))
          subst this
          rw [← pc]; exact hK
        | some q =>
          simp only [hpj] at hall ⊢
          obtain ⟨hyj, _⟩ := hall v0 hWv0
          rw [vals_put h1] at hyj
          refine ⟨fun w hC hk => (yields_put hsj h1).1 (hyj w hC (hk.upd hnij)), fun u hu => ⟨stable_upd hs (hp j q hpj _ _), hu, ?_⟩⟩
          simp only [wi, hwi, if_true, hpi, vals_put h3]
          refine ⟨fun w hC hk => (yields_put hsi h3).2 (hy w hC hk.of_upd), fun v hv => ?_⟩
          have hv' : Wit w0 (upd T i (r (vals oi a) v)) := by
            obtain ⟨w, hC, hT⟩ := hv
            obtain ⟨hT1, hf⟩ := hT.of_upd
            exact ⟨w, hC, hT1.of_upd.1.upd hf⟩
          obtain ⟨_, hK⟩ := hall v hv'
          rw [vals_put h1] at hK
          rw [← pc, upd_comm]
          rw [upd_comm] at hv
          exact hK u hv
      · simp only [hwj]
        refine ⟨hs, hW, ?_⟩
        simp only [wi, hwi, if_true, opR, hpi, vals_put h3]
        refine ⟨fun w hC hk => (yields_put hsi h3).2 (hy w hC hk), fun v hv => ?_⟩
        have := h v hv
        rw [wj] at this
        simp only [hwj] at this
        rw [← pc]; exact this
  · simp only [hwi] at h
    rw [if_neg (by simp), wj] at h
    by_cases hwj : Region.wanted oj (yielded ops a.tmps) = true
    · simp only [hwj, if_true] at h ⊢
      unfold opR at h ⊢
      cases hpj : pl j with
      | none =>
        simp only [hpj] at h ⊢
        obtain ⟨u, hyj, h⟩ := h
        refine ⟨u, fun w hC hk => (yields_put hsj h1).1 (hyj w hC hk), hs, hW, ?_⟩
        simp only [wi, hwi]
        rw [if_neg (by simp), ← pc]; exact h
      | some r =>
        simp only [hpj] at h ⊢
        obtain ⟨hyj, h⟩ := h
        rw [vals_put h1] at hyj h
        refine ⟨fun w hC hk => (yields_put hsj h1).1 (hyj w hC hk), fun u hw => ⟨stable_upd hs (hp j r hpj _ _), hw, ?_⟩⟩
        simp only [wi, hwi]
        rw [if_neg (by simp), ← pc]; exact h u hw
    · simp only [hwj] at h ⊢
      rw [if_neg (by simp)] at h ⊢
      refine ⟨hs, hW, ?_⟩
      simp only [wi, hwi]
      rw [if_neg (by simp), ← pc]; exact h

theorem rOp_mono {i : Nat} {K K' : Act → Facts → Prop} (h : ∀ a T, K a T → K' a T) {a : Act} {T : Facts} (hr : rOp P ops md w0 pl i K a T) : rOp P ops md w0 pl i K' a T := by
  unfold rOp at *
  split
  · rename_i ho; simp only [ho] at hr; exact h _ _ hr
  · rename_i o ho
    simp only [ho] at hr
    split
    · rename_i hw
      simp only [hw, if_true] at hr
      unfold opR at *
      split
      · rename_i hp; simp only [hp] at hr; obtain ⟨v, h1, h2⟩ := hr; exact ⟨v, h1, h _ _ h2⟩
      · rename_i r hp; simp only [hp] at hr; exact ⟨hr.1, fun v hv => h _ _ (hr.2 v hv)⟩
    · rename_i hw; simp only [hw] at hr; exact h _ _ hr

theorem rOp_some {i : Nat} {K : Act → Facts → Prop} {a : Act} {T : Facts} (hs : ∀ k, Stable (T k)) (hW : Wit w0 T) (hr : rOp P ops md w0 pl i K a T) : ∃ a' T', K a' T' := by
  unfold rOp at hr
  split at hr
  · exact ⟨_, _, hr⟩
  · rename_i o ho
    split at hr
    · unfold opR at hr
      split at hr
      · obtain ⟨v, _, h⟩ := hr; exact ⟨_, _, h⟩
      · obtain ⟨hy, h⟩ := hr
        obtain ⟨w, hC, hT⟩ := hW
        obtain ⟨v, w', hb, hR⟩ := yields_some (hy w hC (hT.known _))
        exact ⟨_, _, h v ⟨w', hC.step hb, (hT.step hs hb).upd hR⟩⟩
    · exact ⟨_, _, hr⟩

theorem rOp_mono_wit (hp : pl.stable) {i : Nat} {K K' : Act → Facts → Prop} {a : Act} {T : Facts} (hs : ∀ k, Stable (T k)) (hW : Wit w0 T)
    (h : ∀ a T, (∀ k, Stable (T k)) → Wit w0 T → K a T → K' a T) (hr : rOp P ops md w0 pl i K a T) : rOp P ops md w0 pl i K' a T := by
  unfold rOp at *
  split
  · rename_i ho; simp only [ho] at hr; exact h _ _ hs hW hr
  · rename_i o ho
    simp only [ho] at hr
    split
    · rename_i hw
      simp only [hw, if_true] at hr
      unfold opR at *
      split
      · rename_i hq; simp only [hq] at hr; obtain ⟨v, h1, h2⟩ := hr; exact ⟨v, h1, h _ _ hs hW h2⟩
      · rename_i r hq; simp only [hq] at hr; exact ⟨hr.1, fun v hv => h _ _ (stable_upd hs (hp i r hq _ _)) hv (hr.2 v hv)⟩
    · rename_i hw; simp only [hw] at hr; exact h _ _ hs hW hr

theorem anyR_first (hp : pl.stable) {n i : Nat} {oi : Oper} {L : Array Bool → Act → Facts → Prop} (hi : ops[i]? = some oi) (hsel : ∀ (j : Nat) (o : Oper) cs b, ops[j]? = some o → o.op ≠ .select cs b)
    (hin : i < n) (hlt : ∀ listed, HeadInv md ops n listed → listed.getD i true = false → ∀ j ∈ Region.ready md ops listed, j < n)
    (hdone : ∀ listed a T, L listed a T → ∀ j ∈ Region.ready md ops listed, n ≤ j) :
    ∀ (f : Nat) (listed : Array Bool) (a : Act) (T : Facts), HeadInv md ops n listed →
      (∀ j oj, ops[j]? = some oj → j ≠ i → listed.getD j true = false → (∀ e ∈ oj.after, Region.binds md e = true → e.on ≠ i) → oi.apart ops oj = true) →
      i ∈ Region.ready md ops listed → (∀ k, Stable (T k)) → Wit w0 T →
      rOp P ops md w0 pl i (fun a' T' => anyR P ops md w0 pl n L f (listed.setIfInBounds i true) a' T') a T → anyR P ops md w0 pl n L (f + 1) listed a T := by
  intro f
  induction f with
  | zero =>
    intro listed a T inv _ hr hs hW H
    have hun := (mem_ready.1 hr).1
    refine ⟨fun h => (by rw [h] at hr; cases hr), fun j hj => ?_⟩
    have hjn := hlt listed inv hun j hj
    refine ⟨hjn, ?_⟩
    by_cases hji : j = i
    · subst hji; exact H
    · obtain ⟨a', T', hL⟩ := rOp_some hs hW H
      have := hdone _ _ _ hL j (ready_mono hj hji)
      omega
  | succ f ih =>
    intro listed a T inv hfree hr hs hW H
    have hun := (mem_ready.1 hr).1
    refine ⟨fun h => (by rw [h] at hr; cases hr), fun j hj => ?_⟩
    have hjn := hlt listed inv hun j hj
    refine ⟨hjn, ?_⟩
    by_cases hji : j = i
    · subst hji; exact H
    · obtain ⟨hjun, oj, hoj, hall⟩ := mem_ready.1 hj
      have hnot : ∀ e ∈ oj.after, Region.binds md e = true → e.on ≠ i := fun e he hb heq => by
        have h1 := hall e he hb
        rw [heq, getD_both hun] at h1
        cases h1
      have h1 : rOp P ops md w0 pl i (fun a' T' => rOp P ops md w0 pl j (fun a'' T'' => anyR P ops md w0 pl n L f ((listed.setIfInBounds i true).setIfInBounds j true) a'' T'') a' T') a T :=
        rOp_mono (fun a' T' h => (h.2 j (ready_mono hj hji)).2) H
      have hnij := not_anc inv (getD_both hun) (waits_listed hj)
      have hnji := not_anc inv (getD_both hjun) (waits_listed hr)
      have h2 := rOp_swap hi hoj (hfree j oj hoj hji hjun hnot) (fun cs b => hsel i oi cs b hi) (fun cs b => hsel j oj cs b hoj) hnij hnji hp hs hW h1
      have hfree' : ∀ k ok, ops[k]? = some ok → k ≠ i → (listed.setIfInBounds j true).getD k true = false →
          (∀ e ∈ ok.after, Region.binds md e = true → e.on ≠ i) → oi.apart ops ok = true := fun k ok hk hki hun hno => by
        refine hfree k ok hk hki ?_ hno
        by_cases hjk : j = k
        · subst hjk; exact hjun
        · rw [getD_set_ne true hjk] at hun; exact hun
      refine rOp_mono (fun a' T' h3 => ih (listed.setIfInBounds j true) a' T' (inv.set hj hjn) hfree' (ready_mono hr (Ne.symm hji)) h3.1 h3.2.1 ?_) h2
      rw [Array.setIfInBounds_comm _ _ hji]
      exact h3.2.2

theorem anyR_lex (hp : pl.stable) {n g : Nat} {Lq : Act → Facts → Prop} (hsel : Region.noSelect ops = true)
    (hlt : ∀ i listed, i < n → HeadInv md ops n listed → listed.getD i true = false → ∀ j ∈ Region.ready md ops listed, j < n) :
    ∀ (l : List Oper) (k : Nat) (listed : Array Bool) (a : Act) (T : Facts), (∀ j, j < l.length → l[j]? = ops[k + j]?) → k + l.length = n → HeadInv md ops n listed →
    Region.lexHead md ops g l.length k listed = true → (∀ k, Stable (T k)) → Wit w0 T → lexR P ops md w0 pl Lq k l a T →
    anyR P ops md w0 pl n (fun listed' a' T' => Region.seqB md ops g n listed' = true ∧ Lq a' T') l.length listed a T
  | [], k, listed, a, T, _, hk, _, hB, _, _, h => by
    have : k = n := by simpa using hk
    subst this
    exact ⟨by simpa [Region.lexHead] using hB, h⟩
  | o :: l, k, listed, a, T, hl, hk, inv, hB, hs, hW, h => by
    have h0 : ops[k]? = some o := by simpa using (hl 0 (by simp)).symm
    simp only [List.length_cons, Region.lexHead, Bool.and_eq_true] at hB
    obtain ⟨⟨hr, hf⟩, hB'⟩ := hB
    have hkn : k < n := by simp only [List.length_cons] at hk; omega
    have hr' : k ∈ Region.ready md ops listed := by simpa using hr
    have hst : rOp P ops md w0 pl k (lexR P ops md w0 pl Lq (k + 1) l) a T := by unfold rOp; simp only [h0]; exact h
    refine anyR_first hp h0 (Region.noSelect_spec hsel) hkn (fun listed inv hun => hlt k listed hkn inv hun) (fun listed' a' T' hL => seqB_ready hL.1) l.length listed a T inv (Region.free_spec h0 hf) hr' hs hW ?_
    exact rOp_mono_wit hp hs hW (fun a' T' hs' hW' h' => anyR_lex hp hsel hlt l (k + 1) _ a' T' (fun j hj => by have := hl (j + 1) (by simp; omega); simpa [Nat.add_assoc, Nat.add_comm 1 j] using this)
      (by simp only [List.length_cons] at hk; omega) (inv.set hr' hkn) hB' hs' hW' h') hst

/-- The Bool of a region without a tail. -/
def lexB (md : Region.Mode) (ops : Array Oper) : Bool := Region.noSelect ops && Region.lexHead md ops 0 ops.size 0 (Array.replicate ops.size false)

theorem inv0 (l : List Oper) (n : Nat) : HeadInv .any l.toArray n (Array.replicate l.toArray.size false) :=
  ⟨by simp, fun j oj _ hl => (by rw [getD_replicate_false] at hl; cases hl), fun t _ ht => getD_in (by simpa using ht) (getD_replicate_false _ _)⟩

/-- ONE WALK IN THE TEXT's ORDER SERVES EVERY ORDER: the first n operations only make new memory; the others come last, in their order. -/
theorem wp_region_tail {id : Nat} {Q : Exit → Act → World → Prop} {a : Act} {w : World} {l : List Oper} (n : Nat) (pl : Plan) (hp : pl.stable) (hm : P.follows .mixedOrders = true) (hB : Region.lexTailB .any l.toArray n = true)
    (h0 : ∀ ops, Hid (ops = l.toArray) → lexR P ops .any w.drew pl (fun a' T' => ∀ w', Cl w.drew w' → Holds T' w' → wpList P l.toArray Q (l.drop n) a' w') 0 (l.take n) a (fun _ _ => True)) : (Code.region id l.toArray true).wp P Q a w := by
  have h := h0 _ rfl
  simp only [Region.lexTailB, Bool.and_eq_true, decide_eq_true_eq] at hB
  obtain ⟨⟨⟨⟨hsel, hn⟩, hs⟩, hc⟩, hlex⟩ := hB
  have hn' : n < l.length := by simpa using hn
  have htl : (l.take n).length = n := by simp; omega
  have hdl : (l.drop n).length = l.toArray.size - n := by simp
  have H := anyR_lex (md := .any) (g := l.toArray.size - n) hp hsel (fun i listed hi inv hun j hj => by
      rcases Nat.lt_or_ge j n with h | h
      · exact h
      · exact absurd hj (tail_waits hs hc hn inv _ i rfl hi hun j h)) (l.take n) 0 _ a _ (fun j hj => by
    have hj' : j < n := by rw [htl] at hj; exact hj
    simp [hj']) (by simpa using htl) (inv0 l n) (by rw [htl]; exact hlex) (fun _ _ _ _ _ => trivial) ⟨w.drew, Below.refl _ _, fun _ => trivial⟩ h
  refine wp_region_any hm ?_
  have := wpAny_of_anyR hp (Q := Q) (g := l.toArray.size - n) (fun listed a' T' w' hC _ hT hL => by
    have := wpAny_of_seq (md := .any) (Q' := Q) (l.drop n) n listed a' w' (fun j => by simp [List.getElem?_drop]) (by rw [hdl]; exact hL.1) (hL.2 w' hC hT)
    rwa [hdl] at this) _ _ _ _ w.drew (Below.refl _ _) (fun _ _ _ _ _ => trivial) (fun _ => trivial) H
  rw [htl, show n + (l.toArray.size - n) = l.toArray.size by omega] at this
  exact this

/-- The same without a tail. -/
theorem wp_region {id : Nat} {Q : Exit → Act → World → Prop} {a : Act} {w : World} {l : List Oper} (pl : Plan) (hp : pl.stable) (hm : P.follows .mixedOrders = true) (hB : lexB .any l.toArray = true)
    (h0 : ∀ ops, Hid (ops = l.toArray) → lexR P ops .any w.drew pl (fun a' T' => ∀ w', Cl w.drew w' → Holds T' w' → Q .normal a' w') 0 l a (fun _ _ => True)) : (Code.region id l.toArray true).wp P Q a w := by
  have h := h0 _ rfl
  simp only [lexB, Bool.and_eq_true] at hB
  obtain ⟨hsel, hlex⟩ := hB
  have hsz : l.toArray.size = l.length := by simp
  have H := anyR_lex (md := .any) (g := 0) (n := l.length) hp hsel (fun i listed hi inv hun j hj => by
      obtain ⟨_, oj, hoj, _⟩ := mem_ready.1 hj
      have := (Array.getElem?_eq_some_iff.1 hoj).1
      simpa using this) l 0 _ a _ (fun j hj => by simp) (by simp) (inv0 l l.length) (by rw [← hsz]; exact hlex) (fun _ _ _ _ _ => trivial) ⟨w.drew, Below.refl _ _, fun _ => trivial⟩ h
  refine wp_region_any hm ?_
  have := wpAny_of_anyR hp (Q := Q) (g := 0) (fun listed a' T' w' hC _ hT hL => ⟨by simpa [Region.seqB] using hL.1, hL.2 w' hC hT⟩) _ _ _ _ w.drew (Below.refl _ _) (fun _ _ _ _ _ => trivial) (fun _ => trivial) H
  simpa using this
end

/-! ### Frames that are written out -/
def nth : List Value → Nat → Value
  | [], _ => undef
  | x :: _, 0 => x
  | _ :: l, n + 1 => nth l n
def ev : List Value → Operand → Value
  | _, .const v => v
  | _, .global g => .pointer (some ⟨g, 0, none⟩)
  | _, .func f => .func (.func f) #[] #[]
  | [], .tmp _ => undef
  | x :: _, .tmp 0 => x
  | _ :: l, .tmp (n + 1) => ev l (.tmp n)
def setAt : List Value → Nat → Value → List Value
  | [], _, _ => []
  | _ :: l, 0, v => v :: l
  | x :: l, n + 1, v => x :: setAt l n v
theorem setAt_eq : ∀ (l : List Value) (n : Nat) (v : Value), setAt l n v = l.set n v
  | [], _, _ => rfl
  | _ :: _, 0, _ => rfl
  | x :: l, n + 1, v => by rw [setAt, setAt_eq l n v]; rfl
theorem nth_eq : ∀ (l : List Value) (n : Nat), nth l n = l[n]?.getD undef
  | [], _ => rfl
  | _ :: _, 0 => rfl
  | _ :: l, n + 1 => by rw [nth, nth_eq l n]; rfl
theorem ev_tmp : ∀ (l : List Value) (n : Nat), ev l (.tmp n) = nth l n
  | [], _ => rfl
  | _ :: _, 0 => rfl
  | _ :: l, n + 1 => by rw [ev, ev_tmp l n]; rfl
theorem eval_lit (l : List Value) (ds : List Deferred) (x : Operand) : (Act.mk l.toArray ds).eval x = ev l x := by
  cases x with
  | tmp n => rw [ev_tmp, nth_eq]; simp [Act.eval]
  | const v => cases l <;> rfl
  | global g => cases l <;> rfl
  | func f => cases l <;> rfl
theorem put_lit (l : List Value) (ds : List Deferred) (n : Nat) (v : Value) : (Act.mk l.toArray ds).put (some n) v = Act.mk (setAt l n v).toArray ds := by
  rw [setAt_eq]; simp [Act.put]
theorem getD_lit (l : List Value) (n : Nat) : l.toArray.getD n undef = nth l n := by rw [nth_eq]; simp

/-! ### The walk's steps -/
/-- Operations that yield a value by themselves. -/
def plainOp : Op → Bool
  | .move _ | .assign _ | .pick _ _ _ | .alloc _ | .box _ _ | .build _ _ | .buildSlice _ _ _ | .load _ _ | .binOp _ _ _ _ _ | .unOp _ _ _ | .convert _ _ _ => true
  | .call c => match c.callee with
    | .builtin b => (match b with | .len | .cap | .min | .max | .append => true | _ => false)
    | _ => false
  | .makeInterface _ _ | .makeFunc _ _ _ | .makeMap _ _ | .makeSlice _ _ _ | .slice _ _ _ _ _ | .fieldAddr _ _ _ | .field _ _ _ | .indexAddr _ _ _ | .index _ _ _ | .extract _ _ => true
  | _ => false

theorem run_value {P : Program} {w w' : World} {s : Sem Value} {n : Next} (h : (do pure (Next.value (← s)) : Sem Next).run P w = .ok n w') : ∃ x, n = .value x := by
  simp only [Sem.run_bind] at h
  generalize s.run P w = r at h
  cases r with
  | ok x w1 => simp [Result.andThen] at h; exact ⟨_, h.1.symm⟩
  | halt x w1 => simp [Result.andThen] at h

theorem plain_value {P : Program} {o : Oper} (hp : plainOp o.op = true) {ρ : Operand → Value} {w w' : World} {n : Next} (h : (execOp ρ o).run P w = .ok n w') : ∃ x, n = .value x := by
  obtain ⟨dst, op, type, pos, after, guard⟩ := o
  cases op <;> simp only [plainOp, Bool.false_eq_true] at hp
  case move x => simp [execOp] at h; exact ⟨_, h.1.symm⟩
  case assign x => simp [execOp] at h; exact ⟨_, h.1.symm⟩
  case pick c x y =>
    simp only [execOp, Sem.run_bind] at h
    generalize (asBool (ρ c)).run P w = r at h
    cases r with
    | ok x w1 => simp [Result.andThen] at h; exact ⟨_, h.1.symm⟩
    | halt x w1 => simp [Result.andThen] at h
  case call c =>
    obtain ⟨callee, args, tys⟩ := c
    cases callee <;> simp only [Bool.false_eq_true] at hp
    case builtin b =>
      simp only [execOp, resolve, Sem.run_bind, Sem.run_pure, Result.andThen, invoke] at h
      cases b <;> simp only [Bool.false_eq_true] at hp
      all_goals exact run_value h
  all_goals exact run_value h

section
variable {P : Program} {ops : Array Oper} {md : Region.Mode} {w0 : World} {pl : Plan} {Q : Act → Facts → Prop} {k : Nat} {o : Oper} {rest : List Oper} {a : Act} {T : Facts}

theorem execOp_bare (ρ : Operand → Value) (dst dst' : Option Tmp) (op : Op) (ty : TypeId) (pos pos' : String) (aft aft' : Array Edge) (g g' : Option (Nat × Bool)) :
    execOp ρ ⟨dst, op, ty, pos, aft, g⟩ = execOp ρ ⟨dst', op, ty, pos', aft', g'⟩ := rfl

theorem wanted_none {dst : Option Tmp} {op : Op} {ty : TypeId} {pos : String} {aft : Array Edge} {y : Nat → Option Bool} : Region.wanted ⟨dst, op, ty, pos, aft, none⟩ y = true := rfl

theorem yields_of_wp {d : Nat} {op : Op} {ty : TypeId} {pos : String} {aft : Array Edge} {g : Option (Nat × Bool)} {w : World} {R : Value → World → Prop} (hsz : Nat.blt d a.tmps.size = true) (hp : plainOp op = true)
    (h : wpList P #[] (fun e a' w' => e = .normal ∧ Below w.heap.size w w' ∧ R (a'.tmps.getD d undef) w') [⟨some d, op, ty, "", #[], none⟩] a w) : yields P ⟨some d, op, ty, pos, aft, g⟩ a w R := by
  unfold wpList at h
  rw [if_pos wanted_none] at h
  rcases h with h | ⟨_, a', w', h⟩
  · unfold Oper.wp at h
    unfold yields
    rw [execOp_bare a.eval (some d) (some d) op ty pos "" aft #[] g none]
    generalize hr : (execOp a.eval ⟨some d, op, ty, "", #[], none⟩).run P w = r at h
    cases r with
    | ok n w' =>
      obtain ⟨x, rfl⟩ := plain_value (o := ⟨some d, op, ty, "", #[], none⟩) hp hr
      obtain ⟨_, hb, hR⟩ : _ ∧ _ ∧ _ := h
      refine ⟨hb, ?_⟩
      have hsz' : d < a.tmps.size := by simpa using hsz
      simpa [Act.put, hsz'] using hR
    | halt x w' =>
      cases x
      case panic v =>
        obtain ⟨h, _⟩ : _ ∧ _ := h
        cases h
      all_goals exact h.elim
  · cases h.1

/-- On, with what is left behind a name. -/
abbrev On (P : Program) (ops : Array Oper) (md : Region.Mode) (w0 : World) (pl : Plan) (Q : Act → Facts → Prop) (k : Nat) (rest : List Oper) (a : Act) (T : Facts) : Prop :=
  ∀ K : Act → Facts → Prop, (∀ a T, lexR P ops md w0 pl Q k rest a T → K a T) → K a T
theorem On.out (h : On P ops md w0 pl Q k rest a T) : lexR P ops md w0 pl Q k rest a T := h _ fun _ _ h => h

theorem lex_skip (hw : Region.wanted o (yielded ops a.tmps) = false) (h : On P ops md w0 pl Q (k + 1) rest (a.put o.dst undef) T) : lexR P ops md w0 pl Q k (o :: rest) a T := by
  unfold lexR; rw [if_neg (by rw [hw]; exact Bool.false_ne_true)]; exact h.out

theorem lex_exact (hw : Region.wanted o (yielded ops a.tmps) = true) (hpl : pl k = none) (v : Value) (hy : ∀ w, Cl w0 w → Known ops md T k w → yields P o a w fun u _ => u = v)
    (h : lexR P ops md w0 pl Q (k + 1) rest (a.put o.dst v) T) : lexR P ops md w0 pl Q k (o :: rest) a T := by
  unfold lexR; rw [if_pos hw]; unfold opR; rw [hpl]; exact ⟨v, hy, h⟩

theorem lex_rel (hw : Region.wanted o (yielded ops a.tmps) = true) {r : Array Value → Value → World → Prop} (hpl : pl k = some r) (hy : ∀ w, Cl w0 w → Known ops md T k w → yields P o a w (r (vals o a)))
    (h : ∀ v, Wit w0 (upd T k (r (vals o a) v)) → lexR P ops md w0 pl Q (k + 1) rest (a.put o.dst v) (upd T k (r (vals o a) v))) : lexR P ops md w0 pl Q k (o :: rest) a T := by
  unfold lexR; rw [if_pos hw]; unfold opR; rw [hpl]; exact ⟨hy, h⟩

theorem lex_move {x : Operand} (hop : o.op = .move x) (hw : Region.wanted o (yielded ops a.tmps) = true) (hpl : pl k = none) (h : On P ops md w0 pl Q (k + 1) rest (a.put o.dst (a.eval x)) T) : lexR P ops md w0 pl Q k (o :: rest) a T :=
  lex_exact hw hpl _ (fun w _ _ => by unfold yields; simp [execOp, hop, uponR]; exact Below.refl _ _) h.out
theorem lex_assign {x : Operand} (hop : o.op = .assign x) (hw : Region.wanted o (yielded ops a.tmps) = true) (hpl : pl k = none) (h : On P ops md w0 pl Q (k + 1) rest (a.put o.dst (a.eval x)) T) : lexR P ops md w0 pl Q k (o :: rest) a T :=
  lex_exact hw hpl _ (fun w _ _ => by unfold yields; simp [execOp, hop, uponR]; exact Below.refl _ _) h.out
theorem lex_nilCheck {x : Operand} {p : Addr} (hop : o.op = .nilCheck x) (hx : a.eval x = .pointer (some p)) (hw : Region.wanted o (yielded ops a.tmps) = true) (hpl : pl k = none) (h : On P ops md w0 pl Q (k + 1) rest (a.put o.dst (.pointer (some p))) T) : lexR P ops md w0 pl Q k (o :: rest) a T :=
  lex_exact hw hpl _ (fun w _ _ => by unfold yields; simp [execOp, hop, hx, uponR]; exact Below.refl _ _) h.out

/-- What one operation's own walk must end in. -/
def Fin (w : World) (d : Nat) (v : Value) (e : Exit) (a' : Act) (w' : World) : Prop := e = .normal ∧ Below w.heap.size w w' ∧ a'.tmps.getD d undef = v
theorem lex_plain {d : Nat} {op : Op} {ty : TypeId} {pos : String} {aft : Array Edge} {g : Option (Nat × Bool)} (hsz : Nat.blt d a.tmps.size = true) (hp : plainOp op = true) (hw : Region.wanted ⟨some d, op, ty, pos, aft, g⟩ (yielded ops a.tmps) = true) (hpl : pl k = none)
    (h : ∃ v, (∀ w, Cl w0 w → Known ops md T k w → wpList P #[] (Fin w d v) [⟨some d, op, ty, "", #[], none⟩] a w) ∧ On P ops md w0 pl Q (k + 1) rest (a.put (some d) v) T) : lexR P ops md w0 pl Q k (⟨some d, op, ty, pos, aft, g⟩ :: rest) a T := by
  obtain ⟨v, hy, h⟩ := h
  exact lex_exact hw hpl v (fun w hC hK => yields_of_wp (R := fun u _ => u = v) hsz hp (hy w hC hK)) h.out

theorem lex_call (hw : Region.wanted o (yielded ops a.tmps) = true) (hpl : pl k = none)
    (h : ∃ f args, (∀ w, (execOp a.eval o).run P w = .ok (.enter f args) w) ∧ ∃ v, (∀ w, Cl w0 w → Known ops md T k w → Calls P f args w fun e w' => e = .returned v ∧ Below w.heap.size w w') ∧
      On P ops md w0 pl Q (k + 1) rest (a.put o.dst v) T) : lexR P ops md w0 pl Q k (o :: rest) a T := by
  obtain ⟨f, args, hr, v, hc, h⟩ := h
  exact lex_exact hw hpl v (fun w hC hK => by unfold yields; rw [hr]; exact ⟨Below.refl _ _, (hc w hC hK).mono fun e w' ⟨he, hb⟩ => ⟨v, he, hb, rfl⟩⟩) h.out
theorem same_world {f : FuncId} {args : Array Value} {w : World} {v : Value} (h : Calls P f args w fun e w' => e = .returned v ∧ w' = w) : Calls P f args w fun e w' => e = .returned v ∧ Below w.heap.size w w' :=
  h.mono fun e w' ⟨he, hw⟩ => ⟨he, by rw [hw]; exact Below.refl _ _⟩
theorem lex_callR (hw : Region.wanted o (yielded ops a.tmps) = true) {r : Array Value → Value → World → Prop} (hpl : pl k = some r)
    (h : ∃ f args, (∀ w, (execOp a.eval o).run P w = .ok (.enter f args) w) ∧
      (∀ w, Cl w0 w → Known ops md T k w → Calls P f args w fun e w' => ∃ v, e = .returned v ∧ Below w.heap.size w w' ∧ r (vals o a) v w') ∧
      ∀ v, Wit w0 (upd T k (r (vals o a) v)) → On P ops md w0 pl Q (k + 1) rest (a.put o.dst v) (upd T k (r (vals o a) v))) : lexR P ops md w0 pl Q k (o :: rest) a T := by
  obtain ⟨f, args, hr, hc, h⟩ := h
  exact lex_rel hw hpl (fun w hC hK => by unfold yields; rw [hr]; exact ⟨Below.refl _ _, hc w hC hK⟩) fun v hv => (h v hv).out
theorem lex_nil (h : Q a T) : lexR P ops md w0 pl Q k [] a T := h

def noPlan : Plan := fun _ => none
theorem noPlan_stable : noPlan.stable := fun _ _ h => by cases h
end
end Go.Proofs.Ytfmmiafdlfdfoaa.Grow
