/- Small facts that several laws of the sums use. No conditions. -/
import Derived.Test.YtbmkjgfhdbajbaaCrcFlip
namespace Go.Proofs.Ytbmkjgfhdbajbaa
open Go.RowKit

theorem seal_len (l : List UInt8) : (Crc.seal16 l).length = l.length + 2 := by simp [Crc.seal16]
theorem openB_bad (l : List UInt8) (h2 : 2 ≤ l.length) (h : Crc.sum16 l ≠ 0#16) : openB (bs l) = .tuple #[.string ByteArray.empty, .int .i64 5] := by
  rw [openB, bs_size, bs_list, if_neg (by omega), if_neg (fun e => h (Crc.open_iff _ _ e))]
theorem u16_nat {x : Int} (h : (Lit.int .u16 x).wf = true) : ∃ a : Nat, x = (a : Int) ∧ a < 65536 := by
  have hb : 0 ≤ x ∧ x < 65536 := by
    simp [Lit.wf, IntKind.min, IntKind.max, IntKind.bits, IntKind.signed] at h; omega
  obtain ⟨a, rfl⟩ := Int.eq_ofNat_of_zero_le hb.1
  exact ⟨a, rfl, by omega⟩
theorem burst_length (l : List UInt8) (a m : Nat) : (Crc.burst l a m).length = l.length :=
  (Crc.burst_sum (List.range 16) l a m _ rfl 0).2
theorem bs_eq (l m : List UInt8) : ((bs l).toList == (bs m).toList) = (l == m) := by
  rw [ByteArray.toList_eq, ByteArray.toList_eq]; rfl
theorem burst_one (l : List UInt8) (k : Nat) (hk : k < 8 * l.length) : Crc.burst l k 1 = Crc.flip l k := by
  have h : ∀ (is : List Nat) (l : List UInt8), (∀ i ∈ is, 0 < i) → is.foldl (fun l i => if Crc.cond 1 k (8 * l.length) i then Crc.flip l (k + i) else l) l = l := by
    intro is
    induction is with
    | nil => intros; rfl
    | cons i is ih =>
      intro l hi
      have h0 : 0 < i := hi i List.mem_cons_self
      have : Crc.cond 1 k (8 * l.length) i = false := by
        have ht : Nat.testBit 1 i = false := by
          match i, h0 with
          | i + 1, _ => simp [Nat.testBit_succ]
        simp [Crc.cond, ht]
      simp only [List.foldl_cons, this]
      exact ih l (fun j hj => hi j (List.mem_cons_of_mem _ hj))
  unfold Crc.burst
  rw [show List.range 16 = 0 :: (List.range 15).map (· + 1) from rfl, List.foldl_cons]
  have hc : Crc.cond 1 k (8 * l.length) 0 = true := by simp [Crc.cond, hk]
  rw [if_pos hc, Nat.add_zero]
  exact h _ _ (fun i hi => by simp at hi; omega)
theorem row8_set {w : World} {B : Nat} {l : List UInt8} (hr : Row8 w B l) (j : Nat) (_hj : j < l.length) (v : UInt8) : Row8 (w.setCell ⟨B, j, none⟩ (.int .u8 (v.toNat : Int))) B (l.set j v) := by
  intro i hi
  have hi' : i < l.length := by simpa using hi
  obtain ⟨h1, h2⟩ := hr i hi'
  refine ⟨?_, by rw [World.frozen?_setCell]; exact h2⟩
  by_cases e : j = i
  · subst e
    rw [World.cell?_setCell_same _ _ _ h1]; simp
  · rw [World.cell?_setCell_other _ _ _ _ (by simp), h1]; simp [e]
theorem conv_row {w : World} {B : Nat} {l : List UInt8} (hr : Row8 w B l) (n c : Nat) (hn : l.length = n) :
    (convert 33 9 (.slice (some ⟨B, 0, none⟩) n c)).run Try.prog w = .ok (.string (bs l)) w := by
  have h := run_convert_bytes_arg (P := Try.prog) w 33 5 Try.underlying33 Try.underlying5 B 0 n c (l.map fun b => (b.toNat : Int)) (by simpa using hn)
    (fun i hi => by
      have hi' : i < l.length := by rw [hn]; exact hi
      rw [Nat.zero_add, (hr i hi').1]; simp [List.getD, hi']) 9 Try.underlying9
  rw [h]
  have e : (l.map fun b => (b.toNat : Int)).map (fun n => UInt8.ofNat n.toNat) = l := by
    rw [List.map_map]; conv => rhs; rw [← List.map_id l]
    apply List.map_congr_left; intro x _; simp
  rw [strOfNums, e]; rfl
end Go.Proofs.Ytbmkjgfhdbajbaa
