/- Taking a law's belief apart. Conditions: none. -/
import Derived.Test.YtnnkldidlgiipaaArgs
import Derived.Deep.Slices
import Derived.Deep.Fields
import Derived.ChangeSame
namespace Go.Proofs.Ytnnkldidlgiipaa
open Go.ChangeShapes Go.WideShapes Go.ChangeAt Go.RowKit Go.Deep
/-- A list of which each element is told. -/
theorem list_of {α : Type} (Q : Nat → α → Prop) (n : Nat) (h : ∀ i, i < n → ∃ e, Q i e) : ∃ l : List α, l.length = n ∧ ∀ i e, l[i]? = some e → Q i e := by
  induction n with
  | zero => exact ⟨[], rfl, fun i e he => by simp at he⟩
  | succ n ih =>
    obtain ⟨l, hl, hq⟩ := ih (fun i hi => h i (by omega))
    obtain ⟨e, he⟩ := h n (by omega)
    refine ⟨l ++ [e], by simp [hl], fun i x hx => ?_⟩
    by_cases hi : i < l.length
    · rw [List.getElem?_append_left hi] at hx; exact hq i x hx
    · have hlt := (List.getElem?_eq_some_iff.1 hx).1
      simp at hlt
      have : i = l.length := by omega
      subst this
      simp at hx
      subst hx
      rw [hl]; exact he
/-- A belief as it lies in a row: with its duties' place. -/
abbrev BelE : Type := BelV × Option Addr × Nat
/-- A slice of beliefs. -/
def RdB (w : World) (q : Option Addr) (l : List BelE) : Prop := ∀ (i : Nat) e, l[i]? = some e → ∃ A, q = some A ∧ A.block < w.heap.size ∧ (∀ j u, (e.1.cells e.2.1 e.2.2)[j]? = some u → w.cell? (A.add (i * 6 + j)) = some u) ∧ RdD w e.2.1 e.1.du
theorem RdB.next {w w' : World} {q : Option Addr} {l : List BelE} (h : RdB w q l) (hb : Below w.heap.size w w') : RdB w' q l := by
  intro i p hp
  obtain ⟨A, hq, hA, hc, hd⟩ := h i p hp
  exact ⟨A, hq, Nat.lt_of_lt_of_le hA hb.size, fun j u hu => cell_later hb (hc j u hu), hd.next hb⟩
section
variable {H : Type} {enc : TypeId × Value → H} {W : World}
set_option maxRecDepth 100000 in
theorem open_duties {fuel : Nat} {c : Value} {y : DataW H × List MemPlace} (hf : DataW.trod enc Try.prog W 0 (fun _ => true) true fuel 33 [c] = some y) : ∃ (l : List Duty) (q : Option Addr) (cap : Nat), c = .slice q l.length cap ∧ RdD W q l := by
  rcases open_slice Try.underlying33 hf with ⟨h1, _⟩ | ⟨A, len', cap', m, n, D, Pl, h1, _, hl, _, hmm, _, hi⟩
  · have h2 := List.head_eq_of_cons_eq h1
    exact ⟨[], none, 0, h2, fun i e he => by simp at he⟩
  · have h2 := List.head_eq_of_cons_eq h1
    have hC : (Try.prog).cellsOf 71 = 3 := by kernel_rfl
    have hCi : (Try.prog).cellsOf 3 = 1 := by kernel_rfl
    have hm : m = cap' := by rw [hmm]; rfl
    have each : ∀ i, i < len' → ∃ e : Duty, A.block < W.heap.size ∧ ∀ j u, (Duty.cells e)[j]? = some u → W.cell? (A.add (i * 3 + j)) = some u := by
      intro i hil
      obtain ⟨cs', hc, ht⟩ := hi i (by omega)
      rw [hC] at hc
      obtain ⟨ys, n', _, _, _, hyl, hg⟩ := DataW.trod_struct Try.underlying71 ht
      obtain ⟨_, hcl, hat⟩ := World.cells?_some hc
      match cs', hcl with
      | [x0, x1, x2], _ =>
        have hys : ys.length = 3 := hyl
        match ys, hys with
        | [z0, z1, z2], _ =>
          have y0 := hg 0 _ rfl; have y1 := hg 1 _ rfl; have y2 := hg 2 _ rfl
          simp [hCi] at y0 y1 y2
          obtain ⟨v0, e0, _, _⟩ := DataW.trod_int Try.underlying3 y0
          obtain ⟨v1, e1, _, _⟩ := DataW.trod_int Try.underlying3 y1
          obtain ⟨v2, e2, _, _⟩ := DataW.trod_int Try.underlying3 y2
          have q0 := hat 0 (by omega); have q1 := hat 1 (by omega); have q2 := hat 2 (by omega)
          simp only [List.cons.injEq, and_true] at e0 e1 e2
          subst e0 e1 e2
          refine ⟨(v0, v1, v2), by have := cell_blk (q0.trans rfl); simpa [addr_block] using this, fun j u hu => ?_⟩
          have hj : j < 3 := (List.getElem?_eq_some_iff.1 hu).1
          rw [← Go.Deep.add_add]
          match j, hj with
          | 0, _ => exact q0.trans hu
          | 1, _ => exact q1.trans hu
          | 2, _ => exact q2.trans hu
    obtain ⟨l, hl, hq⟩ := list_of _ len' each
    exact ⟨l, some A, cap', by rw [hl]; exact h2, fun i e he => ⟨A, rfl, hq i e he⟩⟩
set_option maxRecDepth 100000 in
theorem open_bel {r : Reach} {b0 : Nat} {v : Value} {d : DataW H} {p : List MemPlace} (hv : Value.okWide Try.prog W r b0 35 v) (h : DataW.Trod enc Try.prog W 0 (fun _ => true) true 35 v d p) : ∃ (V : BelV) (q : Option Addr) (cap : Nat), v = cvS V q cap ∧ RdD W q V.du := by
  obtain ⟨cs, rfl, hsz⟩ := okWide_struct Try.underlying35 hv
  have hsz6 : cs.size = 6 := hsz.trans (by kernel_rfl)
  obtain ⟨c0, c1, c2, c3, c4, c5, rfl⟩ : ∃ c0 c1 c2 c3 c4 c5, cs = #[c0, c1, c2, c3, c4, c5] := by
    obtain ⟨l⟩ := cs
    match l, hsz6 with
    | [c0, c1, c2, c3, c4, c5], _ => exact ⟨c0, c1, c2, c3, c4, c5, rfl⟩
  obtain ⟨fuel, hf⟩ := h
  obtain ⟨ys, n', _, _, _, hyl, hg⟩ := DataW.trod_struct Try.underlying35 hf
  have hCi : (Try.prog).cellsOf 3 = 1 := by kernel_rfl
  have hCb : (Try.prog).cellsOf 4 = 1 := by kernel_rfl
  have hCs : (Try.prog).cellsOf 33 = 1 := by kernel_rfl
  have hys : ys.length = 6 := hyl
  match ys, hys with
  | [z0, z1, z2, z3, z4, z5], _ =>
    have y0 := hg 0 _ rfl; have y1 := hg 1 _ rfl; have y2 := hg 2 _ rfl; have y3 := hg 3 _ rfl; have y4 := hg 4 _ rfl; have y5 := hg 5 _ rfl
    simp [hCi, hCb, hCs, Value.cells] at y0 y1 y2 y3 y4 y5
    obtain ⟨v0, e0, _, _⟩ := DataW.trod_int Try.underlying3 y0
    obtain ⟨v1, e1, _, _⟩ := DataW.trod_int Try.underlying3 y1
    obtain ⟨v2, e2, _, _⟩ := DataW.trod_int Try.underlying3 y2
    obtain ⟨v4, e4, _, _⟩ := DataW.trod_int Try.underlying3 y4
    obtain ⟨v5, e5, _⟩ := DataW.trod_bool Try.underlying4 y5
    obtain ⟨l, q, cap, e3, hr⟩ := open_duties y3
    simp only [List.cons.injEq, and_true] at e0 e1 e2 e4 e5
    subst e0 e1 e2 e3 e4 e5
    exact ⟨⟨v0, v1, v2, l, v4, v5⟩, q, cap, rfl, hr⟩
set_option maxRecDepth 100000 in
theorem open_belC {fuel : Nat} {cs : List Value} {y : DataW H × List MemPlace} (hf : DataW.trod enc Try.prog W 0 (fun _ => true) true fuel 35 cs = some y) (hl : cs.length = 6) : ∃ (V : BelV) (q : Option Addr) (cap : Nat), cs = V.cells q cap ∧ RdD W q V.du := by
  match cs, hl with
  | [c0, c1, c2, c3, c4, c5], _ =>
  obtain ⟨ys, n', _, _, _, hyl, hg⟩ := DataW.trod_struct Try.underlying35 hf
  have hCi : (Try.prog).cellsOf 3 = 1 := by kernel_rfl
  have hCb : (Try.prog).cellsOf 4 = 1 := by kernel_rfl
  have hCs : (Try.prog).cellsOf 33 = 1 := by kernel_rfl
  have hys : ys.length = 6 := hyl
  match ys, hys with
  | [z0, z1, z2, z3, z4, z5], _ =>
    have y0 := hg 0 _ rfl; have y1 := hg 1 _ rfl; have y2 := hg 2 _ rfl; have y3 := hg 3 _ rfl; have y4 := hg 4 _ rfl; have y5 := hg 5 _ rfl
    simp [hCi, hCb, hCs] at y0 y1 y2 y3 y4 y5
    obtain ⟨v0, e0, _, _⟩ := DataW.trod_int Try.underlying3 y0
    obtain ⟨v1, e1, _, _⟩ := DataW.trod_int Try.underlying3 y1
    obtain ⟨v2, e2, _, _⟩ := DataW.trod_int Try.underlying3 y2
    obtain ⟨v4, e4, _, _⟩ := DataW.trod_int Try.underlying3 y4
    obtain ⟨v5, e5, _⟩ := DataW.trod_bool Try.underlying4 y5
    obtain ⟨l, q, cap, e3, hr⟩ := open_duties y3
    simp only [List.cons.injEq, and_true] at e0 e1 e2 e4 e5
    subst e0 e1 e2 e3 e4 e5
    exact ⟨⟨v0, v1, v2, l, v4, v5⟩, q, cap, rfl, hr⟩
set_option maxRecDepth 100000 in
theorem open_bels {r : Reach} {b0 : Nat} {v : Value} {d : DataW H} {p : List MemPlace} (hv : Value.okWide Try.prog W r b0 51 v) (h : DataW.Trod enc Try.prog W 0 (fun _ => true) true 51 v d p) : ∃ (l : List BelE) (q : Option Addr) (cap : Nat), v = .slice q l.length cap ∧ l.length ≤ maxLen ∧ RdB W q l := by
  obtain ⟨a, len, cap, rfl⟩ := okWide_slice Try.underlying51 hv
  obtain ⟨fuel, hf0⟩ := h
  have hf : DataW.trod enc Try.prog W 0 (fun _ => true) true fuel 51 [.slice a len cap] = some (d, p) := hf0
  rcases open_slice Try.underlying51 hf with ⟨h1, _⟩ | ⟨A, len', cap', m, n, D, Pl, h1, _, hl, hcm, hmm, _, hi⟩
  · have h2 := List.head_eq_of_cons_eq h1
    exact ⟨[], none, 0, h2, by simp [maxLen], fun i e he => by simp at he⟩
  · have h2 := List.head_eq_of_cons_eq h1
    have hC : (Try.prog).cellsOf 35 = 6 := by kernel_rfl
    have hm : m = cap' := by rw [hmm]; rfl
    have each : ∀ i, i < len' → ∃ e : BelE, (A.block < W.heap.size ∧ ∀ j u, (e.1.cells e.2.1 e.2.2)[j]? = some u → W.cell? (A.add (i * 6 + j)) = some u) ∧ RdD W e.2.1 e.1.du := by
      intro i hil
      obtain ⟨cs', hc, ht⟩ := hi i (by omega)
      rw [hC] at hc
      obtain ⟨_, hcl, hat⟩ := World.cells?_some hc
      obtain ⟨V, q, cap, rfl, hr⟩ := open_belC ht hcl
      have q0 := hat 0 (by omega)
      refine ⟨(V, q, cap), ⟨by have := cell_blk (q0.trans rfl); simpa [addr_block] using this, fun j u hu => ?_⟩, hr⟩
      have hj : j < 6 := (List.getElem?_eq_some_iff.1 hu).1
      rw [← Go.Deep.add_add]
      exact (hat j hj).trans hu
    obtain ⟨l, hl2, hq⟩ := list_of _ len' each
    exact ⟨l, some A, cap', by rw [hl2]; exact h2, by omega, fun i e he => ⟨A, rfl, (hq i e he).1.1, (hq i e he).1.2, (hq i e he).2⟩⟩
end
end Go.Proofs.Ytnnkldidlgiipaa
