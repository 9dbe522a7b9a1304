/- Taking a law's image apart. Conditions: none. · Arrays of two and of three bytes as they come in. Conditions: none. -/
import Derived.Test.YtgoojlfpngmdlaaZArgsU
import Derived.Test.YtgoojlfpngmdlaaZImg
import Derived.Deep.Slices
import Derived.Deep.Fields
import Derived.ChangeSame
import Derived.Laws.IdiomArrays
namespace Go.Proofs.Ytgoojlfpngmdlaa
open Go.ChangeShapes Go.WideShapes Go.ChangeAt Go.RowKit Go.Deep
section
variable {H : Type} {enc : TypeId × Value → H} {W : World}
theorem rdX_of_en {q : Option Addr} {l : List E5} (h : ∀ (i : Nat) e, l[i]? = some e → ∃ A, q = some A ∧ A.block < W.heap.size ∧ ∀ j u, e.cell[j]? = some u → W.cell? (A.add (i * 5 + j)) = some u) : RdX W q (entCells l) := by
  intro k u hu
  have hk : k < l.length * 5 := by rw [← entCells_len]; exact (List.getElem?_eq_some_iff.1 hu).1
  obtain ⟨e, he⟩ : ∃ e, l[k / 5]? = some e := ⟨_, List.getElem?_eq_getElem (by omega)⟩
  obtain ⟨A, hq, hA, hc⟩ := h (k / 5) e he
  have h5 : k / 5 * 5 + k % 5 = k := by omega
  refine ⟨A, hq, hA, ?_⟩
  have := hc (k % 5) u (by rw [← entCells_at l (k / 5) e he (k % 5) (by omega), h5]; exact hu)
  rwa [h5] at this
set_option maxRecDepth 100000 in
theorem open_ents {fuel : Nat} {c : Value} {y : DataW H × List MemPlace} (hf : DataW.trod enc Try.prog W 0 (fun _ => true) true fuel 33 [c] = some y) : ∃ (l : List E5) (q : Option Addr) (cap : Nat), c = .slice q l.length cap ∧ l.length ≤ maxLen ∧ RdX W q (entCells l) := by
  rcases open_slice Try.underlying33 hf with ⟨h1, _⟩ | ⟨A, len', cap', m, n, D, Pl, h1, _, hl, hcm, hmm, _, hi⟩
  · have h2 := List.head_eq_of_cons_eq h1
    exact ⟨[], none, 0, h2, by simp [maxLen], fun i e he => by simp [entCells] at he⟩
  · have h2 := List.head_eq_of_cons_eq h1
    have hC : (Try.prog).cellsOf 52 = 5 := by kernel_rfl
    have hCi : (Try.prog).cellsOf 3 = 1 := by kernel_rfl
    have hCb : (Try.prog).cellsOf 4 = 1 := by kernel_rfl
    have hm : m = cap' := by rw [hmm]; rfl
    have each : ∀ i, i < len' → ∃ e : E5, A.block < W.heap.size ∧ ∀ j u, (E5.cell e)[j]? = some u → W.cell? (A.add (i * 5 + j)) = some u := by
      intro i hil
      obtain ⟨cs', hc, ht⟩ := hi i (by omega)
      rw [hC] at hc
      obtain ⟨ys, n', _, _, _, hyl, hg⟩ := DataW.trod_struct Try.underlying52 ht
      obtain ⟨_, hcl, hat⟩ := World.cells?_some hc
      match cs', hcl with
      | [x0, x1, x2, x3, x4], _ =>
        have hys : ys.length = 5 := hyl
        match ys, hys with
        | [z0, z1, z2, z3, z4], _ =>
          have y0 := hg 0 _ rfl; have y1 := hg 1 _ rfl; have y2 := hg 2 _ rfl; have y3 := hg 3 _ rfl; have y4 := hg 4 _ rfl
          simp [hCi, hCb] at y0 y1 y2 y3 y4
          obtain ⟨v0, e0, _, _⟩ := DataW.trod_int Try.underlying3 y0
          obtain ⟨v1, e1, _, _⟩ := DataW.trod_int Try.underlying3 y1
          obtain ⟨v2, e2, _, _⟩ := DataW.trod_int Try.underlying3 y2
          obtain ⟨v3, e3, _, _⟩ := DataW.trod_int Try.underlying3 y3
          obtain ⟨v4, e4, _⟩ := DataW.trod_bool Try.underlying4 y4
          have q0 := hat 0 (by omega); have q1 := hat 1 (by omega); have q2 := hat 2 (by omega); have q3 := hat 3 (by omega); have q4 := hat 4 (by omega)
          simp only [List.cons.injEq, and_true] at e0 e1 e2 e3 e4
          subst e0 e1 e2 e3 e4
          refine ⟨(v0, v1, v2, v3, v4), by have := cell_blk (q0.trans rfl); simpa [addr_block] using this, fun j u hu => ?_⟩
          have hj : j < 5 := (List.getElem?_eq_some_iff.1 hu).1
          rw [← Go.Deep.add_add]
          match j, hj with
          | 0, _ => exact q0.trans hu
          | 1, _ => exact q1.trans hu
          | 2, _ => exact q2.trans hu
          | 3, _ => exact q3.trans hu
          | 4, _ => exact q4.trans hu
    obtain ⟨l, hl2, hq⟩ := list_of' _ len' each
    exact ⟨l, some A, cap', by rw [hl2]; exact h2, by omega, rdX_of_en fun i e he => ⟨A, rfl, hq i e he⟩⟩
set_option maxRecDepth 100000 in
theorem open_boolsI {fuel : Nat} {c : Value} {y : DataW H × List MemPlace} (hf : DataW.trod enc Try.prog W 0 (fun _ => true) true fuel 32 [c] = some y) : ∃ (l : List Bool) (q : Option Addr) (cap : Nat), c = .slice q l.length cap ∧ l.length ≤ maxLen ∧ RdX W q (boolCells l) := by
  rcases open_slice Try.underlying32 hf with ⟨h1, _⟩ | ⟨A, len', cap', m, n, D, Pl, h1, _, hl, hcm, hmm, _, hi⟩
  · have h2 := List.head_eq_of_cons_eq h1
    exact ⟨[], none, 0, h2, by simp [maxLen], fun i e he => by simp [boolCells] at he⟩
  · have h2 := List.head_eq_of_cons_eq h1
    have hC : (Try.prog).cellsOf 4 = 1 := by kernel_rfl
    have hm : m = cap' := by rw [hmm]; rfl
    have each : ∀ i, i < len' → ∃ e : Bool, A.block < W.heap.size ∧ W.cell? (A.add i) = some ((Value.bool) e) := by
      intro i hil
      obtain ⟨cs', hc, ht⟩ := hi i (by omega)
      rw [hC] at hc
      obtain ⟨_, hcl, hat⟩ := World.cells?_some hc
      match cs', hcl with
      | [x0], _ =>
        obtain ⟨v0, e0, _⟩ := DataW.trod_bool Try.underlying4 ht
        have q0 := hat 0 (by omega)
        simp only [List.cons.injEq, and_true] at e0
        subst e0
        have q1 : W.cell? (A.add i) = some ((Value.bool) v0) := by
          have h : W.cell? ((A.add (i * 1)).add 0) = some ((Value.bool) v0) := q0.trans rfl
          rw [Go.Deep.add_add] at h
          simpa using h
        exact ⟨v0, by have := cell_blk q1; simpa [addr_block] using this, q1⟩
    obtain ⟨l, hl2, hq⟩ := list_of' _ len' each
    refine ⟨l, some A, cap', by rw [hl2]; exact h2, by omega, fun i u hu => ?_⟩
    obtain ⟨x, hx, rfl⟩ : ∃ x, l[i]? = some x ∧ (Value.bool) x = u := by
      have h := hu
      unfold boolCells at h
      rw [List.getElem?_map] at h
      exact Option.map_eq_some_iff.1 h
    exact ⟨A, rfl, (hq i x hx).1, (hq i x hx).2⟩
set_option maxRecDepth 100000 in
theorem open_intsI {fuel : Nat} {c : Value} {y : DataW H × List MemPlace} (hf : DataW.trod enc Try.prog W 0 (fun _ => true) true fuel 31 [c] = some y) : ∃ (l : List Int) (q : Option Addr) (cap : Nat), c = .slice q l.length cap ∧ l.length ≤ maxLen ∧ RdX W q (intCells l) := by
  rcases open_slice Try.underlying31 hf with ⟨h1, _⟩ | ⟨A, len', cap', m, n, D, Pl, h1, _, hl, hcm, hmm, _, hi⟩
  · have h2 := List.head_eq_of_cons_eq h1
    exact ⟨[], none, 0, h2, by simp [maxLen], fun i e he => by simp [intCells] at he⟩
  · have h2 := List.head_eq_of_cons_eq h1
    have hC : (Try.prog).cellsOf 3 = 1 := by kernel_rfl
    have hm : m = cap' := by rw [hmm]; rfl
    have each : ∀ i, i < len' → ∃ e : Int, A.block < W.heap.size ∧ W.cell? (A.add i) = some ((Value.int .i64) e) := by
      intro i hil
      obtain ⟨cs', hc, ht⟩ := hi i (by omega)
      rw [hC] at hc
      obtain ⟨_, hcl, hat⟩ := World.cells?_some hc
      match cs', hcl with
      | [x0], _ =>
        obtain ⟨v0, e0, _, _⟩ := DataW.trod_int Try.underlying3 ht
        have q0 := hat 0 (by omega)
        simp only [List.cons.injEq, and_true] at e0
        subst e0
        have q1 : W.cell? (A.add i) = some ((Value.int .i64) v0) := by
          have h : W.cell? ((A.add (i * 1)).add 0) = some ((Value.int .i64) v0) := q0.trans rfl
          rw [Go.Deep.add_add] at h
          simpa using h
        exact ⟨v0, by have := cell_blk q1; simpa [addr_block] using this, q1⟩
    obtain ⟨l, hl2, hq⟩ := list_of' _ len' each
    refine ⟨l, some A, cap', by rw [hl2]; exact h2, by omega, fun i u hu => ?_⟩
    obtain ⟨x, hx, rfl⟩ : ∃ x, l[i]? = some x ∧ (Value.int .i64) x = u := by
      have h := hu
      unfold intCells at h
      rw [List.getElem?_map] at h
      exact Option.map_eq_some_iff.1 h
    exact ⟨A, rfl, (hq i x hx).1, (hq i x hx).2⟩
set_option maxRecDepth 100000 in
theorem open_img {r : Reach} {b0 : Nat} {v : Value} {d : DataW H} {p : List MemPlace} (hv : Value.okWide Try.prog W r b0 35 v) (h : DataW.Trod enc Try.prog W 0 (fun _ => true) true 35 v d p) : ∃ (m : ImgV) (a : ImgA), v = cvM m a ∧ RdM W m a ∧ m.ph.length ≤ maxLen ∧ m.fg.length ≤ maxLen ∧ m.lv.length ≤ maxLen ∧ m.en.length ≤ maxLen := by
  obtain ⟨cs, rfl, hsz⟩ := okWide_struct Try.underlying35 hv
  have hsz6 : cs.size = 4 := hsz.trans (by kernel_rfl)
  obtain ⟨c0, c1, c2, c3, rfl⟩ : ∃ c0 c1 c2 c3, cs = #[c0, c1, c2, c3] := by
    obtain ⟨l⟩ := cs
    match l, hsz6 with
    | [c0, c1, c2, c3], _ => exact ⟨c0, c1, c2, c3, rfl⟩
  obtain ⟨fuel, hf⟩ := h
  obtain ⟨ys, n', _, _, _, hyl, hg⟩ := DataW.trod_struct Try.underlying35 hf
  have hC0 : (Try.prog).cellsOf 31 = 1 := by kernel_rfl
  have hC1 : (Try.prog).cellsOf 32 = 1 := by kernel_rfl
  have hC3 : (Try.prog).cellsOf 33 = 1 := by kernel_rfl
  have hys : ys.length = 4 := hyl
  match ys, hys with
  | [z0, z1, z2, z3], _ =>
    have y0 := hg 0 _ rfl; have y1 := hg 1 _ rfl; have y2 := hg 2 _ rfl; have y3 := hg 3 _ rfl
    simp [hC0, hC1, hC3, Value.cells] at y0 y1 y2 y3
    obtain ⟨l0, q0, k0, e0, m0, r0⟩ := open_intsI y0
    obtain ⟨l1, q1, k1, e1, m1, r1⟩ := open_boolsI y1
    obtain ⟨l2, q2, k2, e2, m2, r2⟩ := open_boolsI y2
    obtain ⟨l3, q3, k3, e3, m3, r3⟩ := open_ents y3
    subst e0 e1 e2 e3
    exact ⟨⟨l0, l1, l2, l3⟩, ⟨q0, k0, q1, k1, q2, k2, q3, k3⟩, rfl, ⟨r0, r1, r2, r3⟩, m0, m1, m2, m3⟩
end
end Go.Proofs.Ytgoojlfpngmdlaa
namespace Go.Proofs.Ytgoojlfpngmdlaa
open Go.ChangeShapes Go.WideShapes Go.ChangeAt Go.RowKit
section
variable {H : Type} {enc : TypeId × Value → H} {w : World}
set_option maxRecDepth 100000 in
theorem open_b2 {r : Reach} {b0 : Nat} {v : Value} {d : DataW H} {p : List MemPlace} (hv : Value.okWide Try.prog w r b0 24 v) (h : DataW.Trod enc Try.prog w 0 (fun _ => true) true 24 v d p) : ∃ a b : Nat, v = .agg #[.int .u8 a, .int .u8 b] ∧ a < 256 ∧ b < 256 := by
  obtain ⟨cs, rfl, hsz⟩ := okWide_array Try.underlying24 hv
  have hsz2 : cs.size = 2 := hsz.trans (by kernel_rfl)
  obtain ⟨c0, c1, rfl⟩ : ∃ c0 c1, cs = #[c0, c1] := by
    obtain ⟨l⟩ := cs
    match l, hsz2 with
    | [c0, c1], _ => exact ⟨c0, c1, rfl⟩
  obtain ⟨fuel, hf⟩ := h
  obtain ⟨y0, y1, n, h0, h1⟩ := trod_array2 Try.underlying24 (by kernel_rfl) hf
  obtain ⟨x, ex, _, wx⟩ := DataW.trod_int Try.underlying5 h0
  obtain ⟨y, ey, _, wy⟩ := DataW.trod_int Try.underlying5 h1
  obtain rfl : c0 = _ := List.head_eq_of_cons_eq ex
  obtain rfl : c1 = _ := List.head_eq_of_cons_eq ey
  obtain ⟨a, rfl, ha⟩ := u8_wf wx
  obtain ⟨b, rfl, hb⟩ := u8_wf wy
  exact ⟨a, b, rfl, ha, hb⟩
set_option maxRecDepth 100000 in
theorem open_b3 {r : Reach} {b0 : Nat} {v : Value} {d : DataW H} {p : List MemPlace} (hv : Value.okWide Try.prog w r b0 55 v) (h : DataW.Trod enc Try.prog w 0 (fun _ => true) true 55 v d p) : ∃ a b c : Nat, v = .agg #[.int .u8 a, .int .u8 b, .int .u8 c] ∧ a < 256 ∧ b < 256 ∧ c < 256 := by
  obtain ⟨cs, rfl, hsz⟩ := okWide_array Try.underlying55 hv
  have hsz3 : cs.size = 3 := hsz.trans (by kernel_rfl)
  obtain ⟨c0, c1, c2, rfl⟩ : ∃ c0 c1 c2, cs = #[c0, c1, c2] := by
    obtain ⟨l⟩ := cs
    match l, hsz3 with
    | [c0, c1, c2], _ => exact ⟨c0, c1, c2, rfl⟩
  obtain ⟨fuel, hf⟩ := h
  obtain ⟨y0, y1, y2, n, _, h0, h1, h2⟩ := trod_array3 Try.underlying55 (by kernel_rfl) hf
  obtain ⟨x, ex, _, wx⟩ := DataW.trod_int Try.underlying5 h0
  obtain ⟨y, ey, _, wy⟩ := DataW.trod_int Try.underlying5 h1
  obtain ⟨z, ez, _, wz⟩ := DataW.trod_int Try.underlying5 h2
  obtain rfl : c0 = _ := List.head_eq_of_cons_eq ex
  obtain rfl : c1 = _ := List.head_eq_of_cons_eq ey
  obtain rfl : c2 = _ := List.head_eq_of_cons_eq ez
  obtain ⟨a, rfl, ha⟩ := u8_wf wx
  obtain ⟨b, rfl, hb⟩ := u8_wf wy
  obtain ⟨c, rfl, hc⟩ := u8_wf wz
  exact ⟨a, b, c, rfl, ha, hb, hc⟩
end
end Go.Proofs.Ytgoojlfpngmdlaa
