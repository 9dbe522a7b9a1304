/- Taking a law's row of marks apart. Conditions: none. -/
import Derived.Test.YtfmmiafdlfdfoaaArgs
import Derived.Test.YtfmmiafdlfdfoaaMade
import Derived.Deep.Slices
import Derived.Deep.Fields
import Derived.ChangeSame
namespace Go.Proofs.Ytfmmiafdlfdfoaa
open Go.ChangeShapes Go.WideShapes Go.ChangeAt Go.RowKit Go.Deep
/-- A list of which each element is told. -/
theorem list_of' {α : Type} (Q : Nat → α → Prop) (n : Nat) (h : ∀ i, i < n → ∃ e, Q i e) : ∃ l : List α, l.length = n ∧ ∀ i e, l[i]? = some e → Q i e := by
  induction n with
  | zero => exact ⟨[], rfl, fun i e he => by simp at he⟩
  | succ n ih =>
    obtain ⟨l, hl, hq⟩ := ih (fun i hi => h i (by omega))
    obtain ⟨e, he⟩ := h n (by omega)
    refine ⟨l ++ [e], by simp [hl], fun i x hx => ?_⟩
    by_cases hi : i < l.length
    · rw [List.getElem?_append_left hi] at hx; exact hq i x hx
    · have hlt := (List.getElem?_eq_some_iff.1 hx).1
      simp at hlt
      have : i = l.length := by omega
      subst this
      simp at hx
      subst hx
      rw [hl]; exact he
theorem u32_bvM {a : Int} (h : (Lit.int .u32 a).wf = true) : ∃ x : BitVec 32, a = (x.toNat : Int) := by
  have : 0 ≤ a ∧ a < 4294967296 := by
    simp [Lit.wf, IntKind.min, IntKind.max, IntKind.signed, IntKind.bits] at h
    omega
  exact ⟨BitVec.ofNat 32 a.toNat, by rw [BitVec.toNat_ofNat, Nat.mod_eq_of_lt (by omega)]; omega⟩
section
variable {H : Type} {enc : TypeId × Value → H} {W : World}
set_option maxRecDepth 100000 in
theorem open_markC {fuel : Nat} {cs : List Value} {y : DataW H × List MemPlace} (hf : DataW.trod enc Try.prog W 0 (fun _ => true) true fuel 51 cs = some y) (hl : cs.length = 5) : ∃ m : MarkV, cs = m.cells := by
  match cs, hl with
  | [c0, c1, c2, c3, c4], _ =>
  obtain ⟨ys, n', _, _, _, hyl, hg⟩ := DataW.trod_struct Try.underlying51 hf
  have hCi : (Try.prog).cellsOf 3 = 1 := by kernel_rfl
  have hCu : (Try.prog).cellsOf 43 = 1 := by kernel_rfl
  have hCc : (Try.prog).cellsOf 45 = 2 := by kernel_rfl
  have hCo : (Try.prog).cellsOf 49 = 3 := by kernel_rfl
  have hys : ys.length = 2 := hyl
  match ys, hys with
  | [z0, z1], _ =>
    have y0 := hg 0 _ rfl; have y1 := hg 1 _ rfl
    simp [hCc, hCo] at y0 y1
    obtain ⟨yc, _, _, _, _, hycl, hgc⟩ := DataW.trod_struct Try.underlying45 y0
    obtain ⟨yo, _, _, _, _, hyol, hgo⟩ := DataW.trod_struct Try.underlying49 y1
    have hyc : yc.length = 2 := hycl
    have hyo : yo.length = 3 := hyol
    match yc, hyc, yo, hyo with
    | [p0, p1], _, [r0, r1, r2], _ =>
      have a0 := hgc 0 _ rfl; have a1 := hgc 1 _ rfl
      have o0 := hgo 0 _ rfl; have o1 := hgo 1 _ rfl; have o2 := hgo 2 _ rfl
      simp [hCu] at a0 a1
      simp [hCi] at o0 o1 o2
      obtain ⟨v0, e0, _, w0⟩ := DataW.trod_int Try.underlying43 a0
      obtain ⟨v1, e1, _, w1⟩ := DataW.trod_int Try.underlying43 a1
      obtain ⟨v2, e2, _, _⟩ := DataW.trod_int Try.underlying3 o0
      obtain ⟨v3, e3, _, _⟩ := DataW.trod_int Try.underlying3 o1
      obtain ⟨v4, e4, _, _⟩ := DataW.trod_int Try.underlying3 o2
      obtain ⟨u0, rfl⟩ := u32_bvM w0
      obtain ⟨u1, rfl⟩ := u32_bvM w1
      simp only [List.cons.injEq, and_true] at e0 e1 e2 e3 e4
      subst e0 e1 e2 e3 e4
      exact ⟨((u0, u1), v2, v3, v4), rfl⟩
set_option maxRecDepth 100000 in
theorem open_marks {r : Reach} {b0 : Nat} {v : Value} {d : DataW H} {p : List MemPlace} (hv : Value.okWide Try.prog W r b0 24 v) (h : DataW.Trod enc Try.prog W 0 (fun _ => true) true 24 v d p) : ∃ (l : List MarkV) (q : Option Addr) (cap : Nat), v = .slice q l.length cap ∧ l.length ≤ maxLen ∧ RdM W q l := by
  obtain ⟨a, len, cap, rfl⟩ := okWide_slice Try.underlying24 hv
  obtain ⟨fuel, hf0⟩ := h
  have hf : DataW.trod enc Try.prog W 0 (fun _ => true) true fuel 24 [.slice a len cap] = some (d, p) := hf0
  rcases open_slice Try.underlying24 hf with ⟨h1, _⟩ | ⟨A, len', cap', m, n, D, Pl, h1, _, hl, hcm, hmm, _, hi⟩
  · have h2 := List.head_eq_of_cons_eq h1
    exact ⟨[], none, 0, h2, by simp [maxLen], fun i e he => by simp at he⟩
  · have h2 := List.head_eq_of_cons_eq h1
    have hC : (Try.prog).cellsOf 51 = 5 := by kernel_rfl
    have hm : m = cap' := by rw [hmm]; rfl
    have each : ∀ i, i < len' → ∃ e : MarkV, A.block < W.heap.size ∧ ∀ j u, (MarkV.cells e)[j]? = some u → W.cell? (A.add (i * 5 + j)) = some u := by
      intro i hil
      obtain ⟨cs', hc, ht⟩ := hi i (by omega)
      rw [hC] at hc
      obtain ⟨_, hcl, hat⟩ := World.cells?_some hc
      obtain ⟨mk, rfl⟩ := open_markC ht hcl
      have q0 := hat 0 (by omega)
      refine ⟨mk, by have := cell_blk (q0.trans rfl); simpa [addr_block] using this, fun j u hu => ?_⟩
      have hj : j < 5 := (List.getElem?_eq_some_iff.1 hu).1
      rw [← Go.Deep.add_add]
      exact (hat j hj).trans hu
    obtain ⟨l, hl2, hq⟩ := list_of' _ len' each
    exact ⟨l, some A, cap', by rw [hl2]; exact h2, by omega, fun i e he => ⟨A, rfl, (hq i e he).1, (hq i e he).2⟩⟩
end
end Go.Proofs.Ytfmmiafdlfdfoaa
