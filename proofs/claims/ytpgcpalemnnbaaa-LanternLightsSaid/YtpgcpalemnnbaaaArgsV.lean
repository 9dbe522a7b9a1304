/- Taking a law's row of views apart. Conditions: none. -/
import Derived.Test.YtpgcpalemnnbaaaArgsU
import Derived.Test.YtpgcpalemnnbaaaView
import Derived.Deep.Slices
import Derived.Deep.Fields
import Derived.ChangeSame
namespace Go.Proofs.Ytpgcpalemnnbaaa
open Go.ChangeShapes Go.WideShapes Go.ChangeAt Go.RowKit Go.Deep
section
variable {H : Type} {enc : TypeId × Value → H} {W : World}
set_option maxRecDepth 100000 in
theorem open_viewC {fuel : Nat} {cs : List Value} {y : DataW H × List MemPlace} (hf : DataW.trod enc Try.prog W 0 (fun _ => true) true fuel 50 cs = some y) (hl : cs.length = 12) : ∃ m : ViewV, cs = m.cells := by
  match cs, hl with
  | [c0, c1, c2, c3, c4, c5, c6, c7, c8, c9, c10, c11], _ =>
  obtain ⟨ys, n', _, _, _, hyl, hg⟩ := DataW.trod_struct Try.underlying50 hf
  have hCi : (Try.prog).cellsOf 3 = 1 := by kernel_rfl
  have hCb : (Try.prog).cellsOf 4 = 1 := by kernel_rfl
  have hCu : (Try.prog).cellsOf 31 = 1 := by kernel_rfl
  have hCc : (Try.prog).cellsOf 33 = 2 := by kernel_rfl
  have hCs : (Try.prog).cellsOf 48 = 3 := by kernel_rfl
  have hys : ys.length = 9 := hyl
  match ys, hys with
  | [z0, z1, z2, z3, z4, z5, z6, z7, z8], _ =>
    have y0 := hg 0 _ rfl; have y1 := hg 1 _ rfl; have y2 := hg 2 _ rfl; have y3 := hg 3 _ rfl; have y4 := hg 4 _ rfl; have y5 := hg 5 _ rfl; have y6 := hg 6 _ rfl; have y7 := hg 7 _ rfl; have y8 := hg 8 _ rfl
    simp [hCc, hCs, hCi, hCb] at y0 y1 y2 y3 y4 y5 y6 y7 y8
    obtain ⟨yc, _, _, _, _, hycl, hgc⟩ := DataW.trod_struct Try.underlying33 y7
    obtain ⟨yo, _, _, _, _, hyol, hgo⟩ := DataW.trod_struct Try.underlying48 y8
    have hyc : yc.length = 2 := hycl
    have hyo : yo.length = 2 := hyol
    match yc, hyc, yo, hyo with
    | [p0, p1], _, [r0, r1], _ =>
      have a0 := hgc 0 _ rfl; have a1 := hgc 1 _ rfl
      have o0 := hgo 0 _ rfl; have o1 := hgo 1 _ rfl
      simp [hCu] at a0 a1
      simp [hCu, hCc] at o0 o1
      obtain ⟨yh, _, _, _, _, hyhl, hgh⟩ := DataW.trod_struct Try.underlying33 o1
      have hyh : yh.length = 2 := hyhl
      match yh, hyh with
      | [s0, s1], _ =>
        have b0 := hgh 0 _ rfl; have b1 := hgh 1 _ rfl
        simp [hCu] at b0 b1
        obtain ⟨v0, e0, _⟩ := DataW.trod_bool Try.underlying4 y0
        obtain ⟨v1, e1, _⟩ := DataW.trod_bool Try.underlying4 y1
        obtain ⟨v2, e2, _⟩ := DataW.trod_bool Try.underlying4 y2
        obtain ⟨v3, e3, _⟩ := DataW.trod_bool Try.underlying4 y3
        obtain ⟨v4, e4, _, _⟩ := DataW.trod_int Try.underlying3 y4
        obtain ⟨v5, e5, _, _⟩ := DataW.trod_int Try.underlying3 y5
        obtain ⟨v6, e6, _, _⟩ := DataW.trod_int Try.underlying3 y6
        obtain ⟨v7, e7, _, w7⟩ := DataW.trod_int Try.underlying31 a0
        obtain ⟨v8, e8, _, w8⟩ := DataW.trod_int Try.underlying31 a1
        obtain ⟨v9, e9, _, _⟩ := DataW.trod_int Try.underlying31 o0
        obtain ⟨v10, e10, _, _⟩ := DataW.trod_int Try.underlying31 b0
        obtain ⟨v11, e11, _, _⟩ := DataW.trod_int Try.underlying31 b1
        obtain ⟨u7, rfl⟩ := u32_bvM w7
        obtain ⟨u8, rfl⟩ := u32_bvM w8
        simp only [List.cons.injEq, and_true] at e0 e1 e2 e3 e4 e5 e6 e7 e8 e9 e10 e11
        subst e0 e1 e2 e3 e4 e5 e6 e7 e8 e9 e10 e11
        exact ⟨⟨v0, v1, v2, v3, v4, v5, v6, (u7, u8), v9, v10, v11⟩, rfl⟩
set_option maxRecDepth 100000 in
theorem open_views {r : Reach} {b0 : Nat} {v : Value} {d : DataW H} {p : List MemPlace} (hv : Value.okWide Try.prog W r b0 23 v) (h : DataW.Trod enc Try.prog W 0 (fun _ => true) true 23 v d p) : ∃ (l : List ViewV) (q : Option Addr) (cap : Nat), v = .slice q l.length cap ∧ l.length ≤ maxLen ∧ RdV W q l := by
  obtain ⟨a, len, cap, rfl⟩ := okWide_slice Try.underlying23 hv
  obtain ⟨fuel, hf0⟩ := h
  have hf : DataW.trod enc Try.prog W 0 (fun _ => true) true fuel 23 [.slice a len cap] = some (d, p) := hf0
  rcases open_slice Try.underlying23 hf with ⟨h1, _⟩ | ⟨A, len', cap', m, n, D, Pl, h1, _, hl, hcm, hmm, _, hi⟩
  · have h2 := List.head_eq_of_cons_eq h1
    exact ⟨[], none, 0, h2, by simp [maxLen], fun i e he => by simp at he⟩
  · have h2 := List.head_eq_of_cons_eq h1
    have hC : (Try.prog).cellsOf 50 = 12 := by kernel_rfl
    have hm : m = cap' := by rw [hmm]; rfl
    have each : ∀ i, i < len' → ∃ e : ViewV, A.block < W.heap.size ∧ ∀ j u, (ViewV.cells e)[j]? = some u → W.cell? (A.add (i * 12 + j)) = some u := by
      intro i hil
      obtain ⟨cs', hc, ht⟩ := hi i (by omega)
      rw [hC] at hc
      obtain ⟨_, hcl, hat⟩ := World.cells?_some hc
      obtain ⟨mk, rfl⟩ := open_viewC ht hcl
      have q0 := hat 0 (by omega)
      refine ⟨mk, by have := cell_blk (q0.trans rfl); simpa [addr_block] using this, fun j u hu => ?_⟩
      have hj : j < 12 := (List.getElem?_eq_some_iff.1 hu).1
      rw [← Go.Deep.add_add]
      exact (hat j hj).trans hu
    obtain ⟨l, hl2, hq⟩ := list_of' _ len' each
    exact ⟨l, some A, cap', by rw [hl2]; exact h2, by omega, fun i e he => ⟨A, rfl, (hq i e he).1, (hq i e he).2⟩⟩
end
end Go.Proofs.Ytpgcpalemnnbaaa
