/- Taking a law's arguments apart: a slice of bytes. Conditions: none. -/
import Derived.Test.YtgoojlfpngmdlaaZFrame
import Derived.Test.YtgoojlfpngmdlaaZU8
import Derived.ChangeSlices
namespace Go.Proofs.Ytgoojlfpngmdlaa
open Go.ChangeShapes Go.WideShapes Go.ChangeAt Go.RowKit
/-- A list of which each element is told. -/
theorem list_of' {α : Type} (Q : Nat → α → Prop) (n : Nat) (h : ∀ i, i < n → ∃ e, Q i e) : ∃ l : List α, l.length = n ∧ ∀ i e, l[i]? = some e → Q i e := by
  induction n with
  | zero => exact ⟨[], rfl, fun i e he => by simp at he⟩
  | succ n ih =>
    obtain ⟨l, hl, hq⟩ := ih (fun i hi => h i (by omega))
    obtain ⟨e, he⟩ := h n (by omega)
    refine ⟨l ++ [e], by simp [hl], fun i x hx => ?_⟩
    by_cases hi : i < l.length
    · rw [List.getElem?_append_left hi] at hx; exact hq i x hx
    · have hlt := (List.getElem?_eq_some_iff.1 hx).1
      simp at hlt
      have : i = l.length := by omega
      subst this
      simp at hx
      subst hx
      rw [hl]; exact he
theorem u32_bvM {a : Int} (h : (Lit.int .u32 a).wf = true) : ∃ x : BitVec 32, a = (x.toNat : Int) := by
  have : 0 ≤ a ∧ a < 4294967296 := by
    simp [Lit.wf, IntKind.min, IntKind.max, IntKind.signed, IntKind.bits] at h
    omega
  exact ⟨BitVec.ofNat 32 a.toNat, by rw [BitVec.toNat_ofNat, Nat.mod_eq_of_lt (by omega)]; omega⟩
section
variable {H : Type} {enc : TypeId × Value → H} {P : Program} {w : World} {base : Nat} {spare : Nat → Bool} {held : Bool}
theorem trod_array2 {t e : TypeId} {fuel : Nat} {c0 c1 : Value} {x : DataW H × List MemPlace} (ht : P.underlying t = some (.array 2 e)) (hce : P.cellsOf e = 1)
    (h : DataW.trod enc P w base spare held fuel t [c0, c1] = some x) :
    ∃ y0 y1 n, DataW.trod enc P w base spare held n e [c0] = some y0 ∧ DataW.trod enc P w base spare held n e [c1] = some y1 := by
  cases fuel with
  | zero => simp [DataW.trod] at h
  | succ n =>
    unfold DataW.trod at h
    rw [ht] at h
    have r2 : List.range 2 = [0, 1] := rfl
    simp [r2, hce] at h
    obtain ⟨_, h⟩ := h
    cases h0 : DataW.trod enc P w base spare held n e [c0] with
    | none => simp [h0] at h
    | some y0 =>
      cases h1 : DataW.trod enc P w base spare held n e [c1] with
      | none => simp [h0, h1] at h
      | some y1 => exact ⟨y0, y1, n, h0, h1⟩
theorem okWide_array {t e : TypeId} {n : Nat} {r : Reach} {b0 : Nat} {v : Value} (ht : P.underlying t = some (.array n e)) (h : Value.okWide P w r b0 t v) : ∃ cs, v = .agg cs ∧ cs.size = P.cellsOf t := by
  simp only [Value.okWide, ht] at h
  obtain ⟨cs, h1, h2, _⟩ := h
  exact ⟨cs, h1, h2⟩
theorem cell_blk {p : Addr} {v : Value} (h : w.cell? p = some v) : p.block < w.heap.size := by
  rcases Nat.lt_or_ge p.block w.heap.size with h' | h'
  · exact h'
  · unfold World.cell? at h; rw [Array.getElem?_eq_none h'] at h; simp at h
theorem u8_wf {n : Int} (h : (Lit.int .u8 n).wf = true) : ∃ a : Nat, n = (a : Int) ∧ a < 256 := by
  simp only [Lit.wf, Bool.and_eq_true, decide_eq_true_eq] at h
  obtain ⟨h0, h1⟩ := h
  have h1' : n ≤ 255 := h1
  have h0' : 0 ≤ n := h0
  obtain ⟨m, rfl⟩ := Int.eq_ofNat_of_zero_le h0'
  exact ⟨m, rfl, by omega⟩
end
section
variable {H : Type} {enc : TypeId × Value → H} {w : World}
set_option maxRecDepth 100000 in
theorem open_u8s {r : Reach} {b0 : Nat} {v : Value} {d : DataW H} {p : List MemPlace} (hv : Value.okWide Try.prog w r b0 25 v) (h : DataW.Trod enc Try.prog w 0 (fun _ => true) true 25 v d p) : ∃ (l : List Nat) (q : Option Addr) (cap : Nat), v = .slice q l.length cap ∧ l.length ≤ maxLen ∧ RdU w q l := by
  obtain ⟨a, len, cap, rfl⟩ := okWide_slice Try.underlying25 hv
  obtain ⟨fuel, hf⟩ := h
  have hf' : DataW.trod enc Try.prog w 0 (fun _ => true) true fuel 25 [.slice a len cap] = some (d, p) := hf
  rcases open_ints Try.underlying25 Try.underlying5 (by kernel_rfl) hf' with ⟨h1, _⟩ | ⟨A, len', cap', zs, h1, _, hl, hm, hzl, _, hc, hwf⟩
  · have h2 := List.head_eq_of_cons_eq h1
    rw [h2]
    exact ⟨[], none, 0, rfl, by simp [maxLen], fun i e he => by simp at he⟩
  · have h2 := List.head_eq_of_cons_eq h1
    rw [h2]
    have hz : zs.length = cap' := by rw [hzl]; rfl
    have hlen : ((zs.take len').map Int.toNat).length = len' := by simp; omega
    refine ⟨(zs.take len').map Int.toNat, some A, cap', by rw [hlen], by rw [hlen]; omega, fun i x hx => ?_⟩
    rw [List.getElem?_map] at hx
    obtain ⟨z, hz', rfl⟩ := Option.map_eq_some_iff.1 hx
    have hi : i < len' := by
      have := (List.getElem?_eq_some_iff.1 hz').1
      simp at this; omega
    rw [List.getElem?_take_of_lt hi] at hz'
    obtain ⟨m, rfl, hm'⟩ := u8_wf (hwf z (List.mem_of_getElem? hz'))
    have hcc := hc i (by omega)
    have hg : zs.getD i 0 = (m : Int) := by rw [List.getD_eq_getElem?_getD, hz']; rfl
    rw [hg] at hcc
    refine ⟨by simpa using hm', A, rfl, ?_, by simpa using hcc⟩
    have := cell_blk hcc
    simpa [addr_block] using this
set_option maxRecDepth 100000 in
theorem open_u8c {r : Reach} {b0 : Nat} {v : Value} {d : DataW H} {p : List MemPlace} (hv : Value.okWide Try.prog w r b0 25 v) (h : DataW.Trod enc Try.prog w 0 (fun _ => true) true 25 v d p) : ∃ (l : List Nat) (q : Option Addr) (cap : Nat), v = .slice q l.length cap ∧ l.length ≤ maxLen ∧ RdU w q l ∧ l.length ≤ cap := by
  obtain ⟨a, len, cap, rfl⟩ := okWide_slice Try.underlying25 hv
  obtain ⟨fuel, hf⟩ := h
  have hf' : DataW.trod enc Try.prog w 0 (fun _ => true) true fuel 25 [.slice a len cap] = some (d, p) := hf
  rcases open_ints Try.underlying25 Try.underlying5 (by kernel_rfl) hf' with ⟨h1, _⟩ | ⟨A, len', cap', zs, h1, _, hl, hm, hzl, _, hc, hwf⟩
  · have h2 := List.head_eq_of_cons_eq h1
    rw [h2]
    exact ⟨[], none, 0, rfl, by simp [maxLen], fun i e he => by simp at he, by simp⟩
  · have h2 := List.head_eq_of_cons_eq h1
    rw [h2]
    have hz : zs.length = cap' := by rw [hzl]; rfl
    have hlen : ((zs.take len').map Int.toNat).length = len' := by simp; omega
    refine ⟨(zs.take len').map Int.toNat, some A, cap', by rw [hlen], by rw [hlen]; omega, fun i x hx => ?_, by rw [hlen]; omega⟩
    rw [List.getElem?_map] at hx
    obtain ⟨z, hz', rfl⟩ := Option.map_eq_some_iff.1 hx
    have hi : i < len' := by
      have := (List.getElem?_eq_some_iff.1 hz').1
      simp at this; omega
    rw [List.getElem?_take_of_lt hi] at hz'
    obtain ⟨m, rfl, hm'⟩ := u8_wf (hwf z (List.mem_of_getElem? hz'))
    have hcc := hc i (by omega)
    have hg : zs.getD i 0 = (m : Int) := by rw [List.getD_eq_getElem?_getD, hz']; rfl
    rw [hg] at hcc
    refine ⟨by simpa using hm', A, rfl, ?_, by simpa using hcc⟩
    have := cell_blk hcc
    simpa [addr_block] using this
end
end Go.Proofs.Ytgoojlfpngmdlaa
