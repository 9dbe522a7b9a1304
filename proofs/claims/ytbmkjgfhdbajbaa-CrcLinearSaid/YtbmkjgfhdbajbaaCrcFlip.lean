/- The walk over the statements' helper 'flipped', and over 'sane'. Conditions: the string holds at most 10000 bytes, the place is at most 100000, the mask fits 16 bits. -/
import Derived.Test.YtbmkjgfhdbajbaaCrcWalk
import Derived.Lib.ConvBytes
namespace Go.Proofs.Ytbmkjgfhdbajbaa
open Go.RowKit

/-- Block B holds the bytes of l, and they may be written. -/
def Row8 (w : World) (B : Nat) (l : List UInt8) : Prop :=
  ∀ j (h : j < l.length), w.cell? ⟨B, j, none⟩ = some (.int .u8 (l[j].toNat : Int)) ∧ w.frozen? ⟨B, j, none⟩ = false
theorem row8_made (w : World) (s : ByteArray) : Row8 (Lib.bytesWorld w 5 s) w.heap.size s.data.toList := by
  intro j h
  have hj : j < s.size := by simpa using h
  refine ⟨?_, ?_⟩
  · rw [Lib.bytesWorld_cell w _ s j hj]; simp [List.getD, hj]
  · have hsz : (Lib.bytesCells w 5 s).size = s.size + (grownCap w s.size 0 5 - s.size) := by rw [Lib.bytesCells]; simp
    simp only [World.frozen?, Lib.bytesWorld_at_new]
    simp; omega
theorem below_made (w : World) (s : ByteArray) : Below w.heap.size w (Lib.bytesWorld w 5 s) :=
  ⟨rfl, rfl, rfl, by rw [Lib.bytesWorld_size]; omega, fun k hk => Lib.bytesWorld_at_old w _ s k hk⟩

theorem bit_test (m k : Nat) (hm : m < 65536) : (bits BinOp.and IntKind.i64 ((m : Int) / 2 ^ k) 1 == 1) = m.testBit k := by
  have e : ((m : Int) / 2 ^ k) = ((m / 2 ^ k : Nat) : Int) := by simp
  have hb : m / 2 ^ k < 65536 := Nat.lt_of_le_of_lt (Nat.div_le_self _ _) hm
  have h := (bits_nat .i64 32 (by decide) (fun n h0 h1 => by rw [IntKind.wrap_i64]; omega) (m / 2 ^ k) 1 (by omega) (by omega)).1
  rw [e]
  have h' : bits BinOp.and IntKind.i64 ((m / 2 ^ k : Nat) : Int) 1 = ((m / 2 ^ k &&& 1 : Nat) : Int) := h
  rw [h', Nat.testBit, Nat.shiftRight_eq_div_pow, Nat.and_comm 1]
  have hz : m / 2 ^ k &&& 1 ≤ 1 := Nat.and_le_right
  generalize m / 2 ^ k &&& 1 = z at hz
  match z, hz with
  | 0, _ => rfl
  | 1, _ => rfl
def burstTo (l : List UInt8) (a m k : Nat) : List UInt8 :=
  (List.range k).foldl (fun l i => if Crc.cond m a (8 * l.length) i then Crc.flip l (a + i) else l) l

theorem burstTo_yes {l0 l : List UInt8} {a m k : Nat} (hl : l = burstTo l0 a m k) (hc : Crc.cond m a (8 * l.length) k = true) : Crc.flip l (a + k) = burstTo l0 a m (k + 1) := by
  unfold burstTo at *
  rw [List.range_succ, List.foldl_append, ← hl]; simp [hc]
theorem burstTo_no {l0 l : List UInt8} {a m k : Nat} (hl : l = burstTo l0 a m k) (hc : Crc.cond m a (8 * l.length) k = false) : l = burstTo l0 a m (k + 1) := by
  unfold burstTo at *
  rw [List.range_succ, List.foldl_append, ← hl]; simp [hc]
theorem pow_byte : ∀ j, j < 8 → ((2 : Int) ^ j % 256) = (((1 : UInt8) <<< (UInt8.ofNat j)).toNat : Int) := by decide
theorem xor_byte (b : UInt8) (j : Nat) (hj : j < 8) : bits BinOp.xor IntKind.u8 (b.toNat : Int) (2 ^ j % 256) = ((b ^^^ ((1 : UInt8) <<< (UInt8.ofNat j))).toNat : Int) := by
  rw [pow_byte j hj, u8_xor_nat _ _ b.toNat_lt (UInt8.toNat_lt _)]; rfl
theorem row8_flip {w : World} {B : Nat} {l : List UInt8} {p : Nat} {b : UInt8} (hr : Row8 w B l) (hb : l[p / 8]? = some b) :
    Row8 (w.setCell ⟨B, p / 8, none⟩ (.int .u8 (bits BinOp.xor IntKind.u8 (b.toNat : Int) (2 ^ (7 - p % 8) % 256)))) B (Crc.flip l p) := by
  obtain ⟨hlt, hbe⟩ := List.getElem?_eq_some_iff.1 hb
  rw [xor_byte b _ (by omega)]
  intro j hj
  have hj' : j < l.length := by simpa [Crc.length_flip] using hj
  obtain ⟨h1, h2⟩ := hr j hj'
  have hf : ∀ v, (w.setCell ⟨B, p / 8, none⟩ v).frozen? ⟨B, j, none⟩ = w.frozen? ⟨B, j, none⟩ := fun v => by simp
  refine ⟨?_, by rw [hf]; exact h2⟩
  by_cases e : j = p / 8
  · subst e
    obtain ⟨h3, _⟩ := hr (p / 8) hlt
    have hx : (w.setCell ⟨B, p / 8, none⟩ (.int .u8 ((b ^^^ ((1 : UInt8) <<< (UInt8.ofNat (7 - p % 8)))).toNat : Int))).cell? ⟨B, p / 8, none⟩ = some (.int .u8 ((b ^^^ ((1 : UInt8) <<< (UInt8.ofNat (7 - p % 8)))).toNat : Int)) := World.cell?_setCell_same _ _ _ h3
    rw [hx]
    simp [Crc.flip, hbe]
  · have hx : ∀ v, (w.setCell ⟨B, p / 8, none⟩ v).cell? ⟨B, j, none⟩ = w.cell? ⟨B, j, none⟩ := fun v => by
      rw [World.cell?_setCell_other]; simp
    rw [hx, h1]
    simp [Crc.flip, Ne.symm e]
set_option maxHeartbeats 400000 in
theorem flipped_any (s : ByteArray) (a m : Nat) (w : World) (hs : s.size ≤ 10000) (ha : a ≤ 100000) (hm : m < 65536) :
    Calls Try.prog 18 #[.string s, .int .i64 a, .int .i64 m] w fun e w' => e = .returned (.string (bs (Crc.burst s.data.toList a m))) ∧ Below w.heap.size w w' := by
  have hcv := Lib.run_convert_string_bytes (P := Try.prog) w 9 33 5 s Try.underlying9 Try.underlying33 Try.underlying5
  have hr0 := row8_made w s
  have hb0 := below_made w s
  generalize Lib.bytesWorld w 5 s = w0 at hcv hr0 hb0
  generalize grownCap w s.size 0 5 = c at hcv
  go_enter Try.func18, Try.ntmps18
  go_wp2
  go_loopw [8] (fun i wr => ∃ (k : Nat) (l : List UInt8), k ≤ 16 ∧ i = .int .i64 k ∧ l = burstTo s.data.toList a m k ∧ l.length = s.size ∧ Row8 wr w.heap.size l ∧ Below w.heap.size w wr) (fun i _ => 16 - (intOf i).toNat)
  case atStart => exact ⟨0, _, Nat.zero_le _, rfl, rfl, rfl, hr0, hb0⟩
  case round =>
    obtain ⟨k, l, hk, rfl, hl, hll, hr, hb⟩ := hrel
    have Hl := Lib.hid hl; clear hl
    have Hll := Lib.hid hll; clear hll
    have Hr := Lib.hid hr; clear hr
    have Hb := Lib.hid hb; clear hb
    clear hb0 hr0
    by_cases hlt : k < 16
    · by_cases h1 : m.testBit k = true
      · have e1 : (bits BinOp.and IntKind.i64 ((m : Int) / 2 ^ k) 1 == 1) = true := by rw [bit_test m k hm, h1]
        by_cases h2 : a + k < 8 * s.size
        · have hlen : (a + k) / 8 < l.length := by have := Hll.out; omega
          obtain ⟨bv, hbv, hc1, hf1⟩ : ∃ bv : UInt8, l[(a + k) / 8]? = some bv ∧ wr.cell? ⟨w.heap.size, (a + k) / 8, none⟩ = some (.int .u8 (bv.toNat : Int)) ∧ wr.frozen? ⟨w.heap.size, (a + k) / 8, none⟩ = false :=
            ⟨_, List.getElem?_eq_getElem hlen, Hr.out _ hlen⟩
          have Hbv := Lib.hid hbv; clear hbv
          have H1 := Lib.hid h1; clear h1 hlen
          go_wp2_with fail
          refine ⟨⟨k + 1, Crc.flip l (a + k), by omega, by go_num, burstTo_yes Hl.out (by rw [Hll.out, Crc.cond]; simpa [h2] using H1.out), by rw [Crc.length_flip]; exact Hll.out, row8_flip Hr.out Hbv.out, Hb.out.setCell (Nat.le_refl _) _⟩, by simp [intOf]; omega⟩
        · go_wp2_with fail
          refine ⟨⟨k + 1, l, by omega, by go_num, burstTo_no Hl.out (by rw [Hll.out, Crc.cond]; simp [h2]), Hll.out, Hr.out, Hb.out⟩, by simp [intOf]; omega⟩
      · have h1' : m.testBit k = false := by simpa using h1
        have e1 : (bits BinOp.and IntKind.i64 ((m : Int) / 2 ^ k) 1 == 1) = false := by rw [bit_test m k hm, h1']
        go_wp2_with fail
        refine ⟨⟨k + 1, l, by omega, by go_num, burstTo_no Hl.out (by rw [Crc.cond, h1']; rfl), Hll.out, Hr.out, Hb.out⟩, by simp [intOf]; omega⟩
    · obtain rfl : k = 16 := by omega
      have hcs := run_convert_bytes_arg (P := Try.prog) wr 33 5 Try.underlying33 Try.underlying5 w.heap.size 0 s.size c (l.map fun b => (b.toNat : Int)) (by simpa using Hll.out)
        (fun i hi => by
          have hi' : i < l.length := by rw [Hll.out]; exact hi
          rw [Nat.zero_add, (Hr.out i hi').1]; simp [List.getD, hi']) 9 Try.underlying9
      go_wp2
      go_ret
      exact ⟨ret_str (by
        have e : (l.map fun b => (b.toNat : Int)).map (fun n => UInt8.ofNat n.toNat) = l := by
          rw [List.map_map]; conv => rhs; rw [← List.map_id l]
          apply List.map_congr_left; intro x _; simp
        rw [strOfNums, e, Hl.out]; rfl), Hb.out⟩

theorem lift_open : openB (bs (Crc.seal16 [108, 105, 102, 116])) = .tuple #[.string (bs [108, 105, 102, 116]), .int .i64 0] := by
  have h : Crc.seal16 [108, 105, 102, 116] = [108, 105, 102, 116, (Crc.seal16 [108, 105, 102, 116]).getD 4 0, (Crc.seal16 [108, 105, 102, 116]).getD 5 0] := by decide +kernel
  rw [openB, if_neg (by rw [bs_size, h]; decide), if_pos (by rw [bs_size, bs_list, h]; decide +kernel)]
  rw [bs_size, bs_list, h]; rfl
set_option maxHeartbeats 400000 in
theorem sane_any (w : World) :
    Calls Try.prog 9 #[] w fun e w' => e = .returned (.bool true) ∧ Below w.heap.size w w' := by
  go_enter Try.func9, Try.ntmps9
  go_wp2_with fail
  refine (seal_any _ _ (by decide)).mono ?_
  rintro e w1 ⟨rfl, hb1⟩
  go_wp2_with fail
  refine (open_any _ _ (by decide)).mono ?_
  rintro e w2 ⟨rfl, hb2⟩
  have e1 : openB (bs (Crc.seal16 ({ data := #[108, 105, 102, 116] } : ByteArray).data.toList)) = _ := lift_open
  rw [e1]
  clear e1
  go_wp2_with fail
  refine (open_any _ _ (by decide)).mono ?_
  rintro e w3 ⟨rfl, hb3⟩
  have e1 : openB ({ data := #[120] } : ByteArray) = .tuple #[.string ByteArray.empty, .int .i64 4] := rfl
  rw [e1]
  clear e1
  go_wp2_with fail
  refine (sum16_any _ _ (by decide)).mono ?_
  rintro e w4 ⟨rfl, rfl⟩
  have e1 : (((Crc.sum16 ({ data := #[49, 50, 51, 52, 53, 54, 55, 56, 57] } : ByteArray).data.toList).toNat : Nat) : Int) = 10673 := by decide +kernel
  rw [e1]
  clear e1
  go_wp2_with fail
  refine (sum8_any _ _ (by decide)).mono ?_
  rintro e w5 ⟨rfl, rfl⟩
  have e1 : (((Crc.sum8 ({ data := #[49, 50, 51, 52, 53, 54, 55, 56, 57] } : ByteArray).data.toList).toNat : Nat) : Int) = 244 := by decide +kernel
  rw [e1]
  clear e1
  have hl : (bs [108, 105, 102, 116]).toList = [108, 105, 102, 116] := by rw [ByteArray.toList_eq]; rfl
  go_wp2_with fail
  go_ret
  exact ⟨rfl, hb1.trans ((hb2.mono hb1.size).trans (hb3.mono (Nat.le_trans hb1.size hb2.size)))⟩
end Go.Proofs.Ytbmkjgfhdbajbaa
