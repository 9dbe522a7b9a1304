/- The walks over package crc, its reference and the helpers of the statements: what each call returns, in the words of the plain law. Conditions: a string's length is at most maxLen. -/
import Derived.Test.YtbmkjgfhdbajbaaRows
import Derived.Test.YtbmkjgfhdbajbaaCrcLaw
import Derived.WalkKit
import Derived.WalkSpells
import Derived.WalkLawsBesides
import Derived.Lib.Hide
namespace Go.Proofs.Ytbmkjgfhdbajbaa
open Go.RowKit

theorem xor16 (x y : BitVec 16) : bits .xor .u16 (x.toNat : Int) (y.toNat : Int) = ((x ^^^ y).toNat : Int) := by
  rw [u16_xor_nat _ _ x.isLt y.isLt, BitVec.toNat_xor]
theorem up_val (c : UInt8) : IntKind.u16.wrap (IntKind.u16.wrap (c.toNat : Int) * 256) = ((Crc.up c).toNat : Int) := by
  have := c.toNat_lt
  rw [IntKind.wrap_u16, IntKind.wrap_u16]
  have e : (Crc.up c).toNat = c.toNat * 256 := by
    simp [Crc.up, Nat.shiftLeft_eq]; omega
  rw [e]; omega
theorem dbl16 (x : BitVec 16) : IntKind.u16.wrap ((x.toNat : Int) * 2) = ((x <<< 1).toNat : Int) := by
  rw [IntKind.wrap_u16, BitVec.toNat_shiftLeft, Nat.shiftLeft_eq]; omega

theorem step16 (x : BitVec 16) : bits .xor .u16 (IntKind.u16.wrap ((x.toNat : Int) * 2)) ((x.toNat : Int) / 32768 * 4129) = ((Crc.T x).toNat : Int) := by
  have e : ((x.toNat : Int) / 32768 * 4129) = (((if x.msb then 0x1021#16 else 0#16) : BitVec 16).toNat : Int) := by
    rw [BitVec.msb_eq_decide]
    by_cases h : 2 ^ (16 - 1) ≤ x.toNat
    · have := x.isLt; simp [h]; omega
    · simp [h]; omega
  rw [dbl16, e, xor16]; rfl
theorem xor8 (x y : BitVec 8) : bits .xor .u8 (x.toNat : Int) (y.toNat : Int) = ((x ^^^ y).toNat : Int) := by
  rw [u8_xor_nat _ _ x.isLt y.isLt, BitVec.toNat_xor]
theorem dbl8 (x : BitVec 8) : IntKind.u8.wrap ((x.toNat : Int) * 2) = ((x <<< 1).toNat : Int) := by
  rw [IntKind.wrap_u8, BitVec.toNat_shiftLeft, Nat.shiftLeft_eq]; omega
theorem step8 (x : BitVec 8) : bits .xor .u8 ((x.toNat : Int) * 2 % 256) ((x.toNat : Int) / 128 * 7) = ((Crc.T8 x).toNat : Int) := by
  have e : ((x.toNat : Int) / 128 * 7) = (((if x.msb then 0x07#8 else 0#8) : BitVec 8).toNat : Int) := by
    rw [BitVec.msb_eq_decide]
    by_cases h : 2 ^ (8 - 1) ≤ x.toNat
    · have := x.isLt; simp [h]; omega
    · simp [h]; omega
  rw [← IntKind.wrap_u8, dbl8, e, xor8]; rfl
theorem ret_int {k : IntKind} {a b : Int} (h : a = b) : Ending.returned (.int k a) = .returned (.int k b) := by rw [h]
theorem ret_str {a b : ByteArray} (h : a = b) : Ending.returned (.string a) = .returned (.string b) := by rw [h]
/-- A list of bytes as a string. -/
def bs (l : List UInt8) : ByteArray := ⟨l.toArray⟩
theorem bs_list (l : List UInt8) : (bs l).data.toList = l := rfl
theorem bs_size (l : List UInt8) : (bs l).size = l.length := rfl
theorem bs_self (s : ByteArray) : bs s.data.toList = s := rfl
theorem bs_append (s : ByteArray) (l : List UInt8) : s ++ bs l = bs (s.data.toList ++ l) := by
  apply ByteArray.ext; simp [bs, ByteArray.data_append]
theorem nums_hilo (x : BitVec 16) : strOfNums [(x.toNat : Int) / 256, (x.toNat : Int) % 256] = bs [Crc.hi x, Crc.lo x] := by
  have h1 : UInt8.ofNat ((x.toNat : Int) / 256).toNat = Crc.hi x := by
    apply UInt8.toNat_inj.1
    have := x.isLt
    rw [show (Crc.hi x).toNat = ((x >>> 8).setWidth 8).toNat from rfl, UInt8.toNat_ofNat', BitVec.toNat_setWidth, BitVec.toNat_ushiftRight, Nat.shiftRight_eq_div_pow]
    omega
  have h2 : UInt8.ofNat ((x.toNat : Int) % 256).toNat = Crc.lo x := by
    apply UInt8.toNat_inj.1
    have := x.isLt
    rw [show (Crc.lo x).toNat = (x.setWidth 8).toNat from rfl, UInt8.toNat_ofNat', BitVec.toNat_setWidth]
    omega
  simp [strOfNums, bs, h1, h2]
theorem conv2 (W : World) (a b : Int) :
    (convert 33 9 (.slice (some ⟨W.heap.size, 0, none⟩) 2 2)).run Try.prog (W.alloc (.cells #[.int .u8 a, .int .u8 b] 5)) = .ok (.string (strOfNums [a, b])) (W.alloc (.cells #[.int .u8 a, .int .u8 b] 5)) := by
  refine run_convert_bytes_arg _ _ _ Try.underlying33 Try.underlying5 _ _ 2 2 [a, b] rfl (fun i hi => ?_) _ Try.underlying9
  match i, hi with
  | 0, _ => simp [World.cell?, World.alloc, -World.alloc_eq]
  | 1, _ => simp [World.cell?, World.alloc, -World.alloc_eq]
theorem take_snoc (s : ByteArray) (k : Nat) (h : k < s.size) : s.data.toList.take (k + 1) = s.data.toList.take k ++ [s[k]] := by
  rw [List.take_succ_eq_append_getElem (by simpa using h)]; rfl
theorem sum16_snoc (s : ByteArray) (k : Nat) (h : k < s.size) : Crc.sum16 (s.data.toList.take (k + 1)) = Crc.it Crc.T 8 (Crc.sum16 (s.data.toList.take k) ^^^ Crc.up s[k]) := by
  rw [take_snoc s k h, Crc.sum16, Crc.sumFrom16_append]; rfl
theorem sum8_snoc (s : ByteArray) (k : Nat) (h : k < s.size) : Crc.sum8 (s.data.toList.take (k + 1)) = Crc.it Crc.T8 8 (Crc.sum8 (s.data.toList.take k) ^^^ s[k].toBitVec) := by
  rw [take_snoc s k h, Crc.sum8, Crc.sumFrom8_append]; rfl
theorem take_all (s : ByteArray) (k : Nat) (h : ¬ k < s.size) : s.data.toList.take k = s.data.toList := List.take_of_length_le (by simp; omega)

set_option maxHeartbeats 400000 in
theorem sum16_any (s : ByteArray) (w : World) (hs : s.size ≤ maxLen) :
    Calls Try.prog 13 #[.string s] w fun e w' => e = .returned (.int .u16 ((Crc.sum16 s.data.toList).toNat : Int)) ∧ w' = w := by
  unfold maxLen at hs
  go_enter Try.func13, Try.ntmps13
  go_wp2
  go_loop [3, 8] (fun r i => ∃ k : Nat, k ≤ s.size ∧ i = .int .i64 k ∧ r = .int .u16 ((Crc.sum16 (s.data.toList.take k)).toNat : Int)) (fun _ i => s.size - (intOf i).toNat)
  case atStart => exact ⟨0, Nat.zero_le _, rfl, rfl⟩
  case round =>
    obtain ⟨k, hk, rfl, rfl⟩ := hrel
    by_cases hlt : k < s.size
    · go_wp2
      go_loop [3, 18] (fun r i => ∃ n : Nat, n ≤ 8 ∧ i = .int .i64 n ∧ r = .int .u16 ((Crc.it Crc.T n (Crc.sum16 (s.data.toList.take k) ^^^ Crc.up s[k])).toNat : Int)) (fun _ i => 8 - (intOf i).toNat)
      case atStart => exact ⟨0, Nat.zero_le _, rfl, by rw [up_val, xor16]; rfl⟩
      case round =>
        obtain ⟨n, hn, rfl, rfl⟩ := hrel
        by_cases hlt8 : n < 8
        · go_wp2
          go_round
          case rel => exact ⟨n + 1, by omega, by go_num, by rw [Crc.it_succ, step16]⟩
          case measure => simp [intOf]; omega
        · go_wp2
          go_round
          case rel => exact ⟨k + 1, by omega, by go_num, by rw [sum16_snoc s k hlt, show n = 8 from by omega]⟩
          case measure => simp [intOf]; omega
    · go_wp2
      go_ret
      exact ⟨ret_int (by rw [take_all s k hlt]), rfl⟩

set_option maxHeartbeats 400000 in
theorem sum8_any (s : ByteArray) (w : World) (hs : s.size ≤ maxLen) :
    Calls Try.prog 15 #[.string s] w fun e w' => e = .returned (.int .u8 ((Crc.sum8 s.data.toList).toNat : Int)) ∧ w' = w := by
  unfold maxLen at hs
  go_enter Try.func15, Try.ntmps15
  go_wp2
  go_loop [3, 8] (fun r i => ∃ k : Nat, k ≤ s.size ∧ i = .int .i64 k ∧ r = .int .u8 ((Crc.sum8 (s.data.toList.take k)).toNat : Int)) (fun _ i => s.size - (intOf i).toNat)
  case atStart => exact ⟨0, Nat.zero_le _, rfl, rfl⟩
  case round =>
    obtain ⟨k, hk, rfl, rfl⟩ := hrel
    by_cases hlt : k < s.size
    · go_wp2
      go_loop [3, 16] (fun r i => ∃ n : Nat, n ≤ 8 ∧ i = .int .i64 n ∧ r = .int .u8 ((Crc.it Crc.T8 n (Crc.sum8 (s.data.toList.take k) ^^^ s[k].toBitVec)).toNat : Int)) (fun _ i => 8 - (intOf i).toNat)
      case atStart => exact ⟨0, Nat.zero_le _, rfl, by rw [← UInt8.toNat_toBitVec, xor8]; rfl⟩
      case round =>
        obtain ⟨n, hn, rfl, rfl⟩ := hrel
        by_cases hlt8 : n < 8
        · go_wp2
          go_round
          case rel => exact ⟨n + 1, by omega, by go_num, by rw [Crc.it_succ, step8]⟩
          case measure => simp [intOf]; omega
        · go_wp2
          go_round
          case rel => exact ⟨k + 1, by omega, by go_num, by rw [sum8_snoc s k hlt, show n = 8 from by omega]⟩
          case measure => simp [intOf]; omega
    · go_wp2
      go_ret
      exact ⟨ret_int (by rw [take_all s k hlt]), rfl⟩

theorem i64_xor (a b : Nat) (ha : a < 65536) (hb : b < 65536) : bits .xor .i64 (a : Int) (b : Int) = ((a ^^^ b : Nat) : Int) := by
  have h : a ^^^ b < 65536 := Nat.xor_lt_two_pow (n := 16) ha hb
  show IntKind.i64.wrap ((BitVec.ofInt 64 (a : Int) ^^^ BitVec.ofInt 64 (b : Int)).toNat : Int) = _
  rw [BitVec.ofInt_natCast, BitVec.ofInt_natCast, BitVec.toNat_xor, BitVec.toNat_ofNat, BitVec.toNat_ofNat, Nat.mod_eq_of_lt (by omega), Nat.mod_eq_of_lt (by omega), IntKind.wrap_i64]
  omega
/-- Of the two steps of the reference: the top bit is out, or not. -/
theorem T_hi (x : BitVec 16) (h : 32768 ≤ x.toNat) : (Crc.T x).toNat = (x.toNat * 2 % 65536) ^^^ 4129 := by
  have : x.msb = true := by rw [BitVec.msb_eq_decide]; simpa using h
  simp [Crc.T, this, Nat.shiftLeft_eq]
theorem T_lo (x : BitVec 16) (h : x.toNat < 32768) : (Crc.T x).toNat = x.toNat * 2 % 65536 := by
  have : x.msb = false := by rw [BitVec.msb_eq_decide]; simpa using h
  simp [Crc.T, this, Nat.shiftLeft_eq]
theorem T8_hi (x : BitVec 8) (h : 128 ≤ x.toNat) : (Crc.T8 x).toNat = (x.toNat * 2 % 256) ^^^ 7 := by
  have : x.msb = true := by rw [BitVec.msb_eq_decide]; simpa using h
  simp [Crc.T8, this, Nat.shiftLeft_eq]
theorem T8_lo (x : BitVec 8) (h : x.toNat < 128) : (Crc.T8 x).toNat = x.toNat * 2 % 256 := by
  have : x.msb = false := by rw [BitVec.msb_eq_decide]; simpa using h
  simp [Crc.T8, this, Nat.shiftLeft_eq]
/-- The number n steps on. -/
def at16 (X : BitVec 16) (n x : Nat) : Prop := x = (Crc.it Crc.T n X).toNat
def at8 (X : BitVec 8) (n x : Nat) : Prop := x = (Crc.it Crc.T8 n X).toNat
theorem at16_hi {X : BitVec 16} {n x : Nat} (h : at16 X n x) (hx : 32768 ≤ x) : at16 X (n + 1) ((x * 2 % 65536) ^^^ 4129) := by
  unfold at16 at *; rw [Crc.it_succ, T_hi _ (by omega), h]
theorem at16_lo {X : BitVec 16} {n x : Nat} (h : at16 X n x) (hx : x < 32768) : at16 X (n + 1) (x * 2 % 65536) := by
  unfold at16 at *; rw [Crc.it_succ, T_lo _ (by omega), h]
theorem at8_hi {X : BitVec 8} {n x : Nat} (h : at8 X n x) (hx : 128 ≤ x) : at8 X (n + 1) ((x * 2 % 256) ^^^ 7) := by
  unfold at8 at *; rw [Crc.it_succ, T8_hi _ (by omega), h]
theorem at8_lo {X : BitVec 8} {n x : Nat} (h : at8 X n x) (hx : x < 128) : at8 X (n + 1) (x * 2 % 256) := by
  unfold at8 at *; rw [Crc.it_succ, T8_lo _ (by omega), h]
theorem start16 (S : BitVec 16) (c : UInt8) : bits .xor .i64 (S.toNat : Int) ((c.toNat : Int) * 256) = ((S ^^^ Crc.up c).toNat : Int) := by
  have e : (Crc.up c).toNat = c.toNat * 256 := by
    have := c.toNat_lt
    simp [Crc.up, Nat.shiftLeft_eq]; omega
  have hc := c.toNat_lt
  rw [BitVec.toNat_xor, e, ← i64_xor _ _ S.isLt (by omega)]; simp
theorem start8 (S : BitVec 8) (c : UInt8) : bits .xor .i64 (S.toNat : Int) (c.toNat : Int) = ((S ^^^ c.toBitVec).toNat : Int) := by
  have hc := c.toNat_lt
  have hS := S.isLt
  rw [BitVec.toNat_xor, i64_xor _ _ (by omega) (by omega)]; rfl

set_option maxHeartbeats 400000 in
theorem refSum16_any (s : ByteArray) (w : World) (hs : s.size ≤ maxLen) :
    Calls Try.prog 14 #[.string s] w fun e w' => e = .returned (.int .u16 ((Crc.sum16 s.data.toList).toNat : Int)) ∧ w' = w := by
  unfold maxLen at hs
  go_enter Try.func14, Try.ntmps14
  go_wp2
  go_loop [3, 4] (fun r i => ∃ k : Nat, k ≤ s.size ∧ i = .int .i64 k ∧ r = .int .i64 ((Crc.sum16 (s.data.toList.take k)).toNat : Int)) (fun _ i => s.size - (intOf i).toNat)
  case atStart => exact ⟨0, Nat.zero_le _, rfl, rfl⟩
  case round =>
    obtain ⟨k, hk, rfl, rfl⟩ := hrel
    by_cases hlt : k < s.size
    · have hc := s[k].toNat_lt
      go_wp2
      clear hc
      go_loop [3, 5] (fun r i => ∃ n x : Nat, n ≤ 8 ∧ x < 65536 ∧ at16 (Crc.sum16 (s.data.toList.take k) ^^^ Crc.up s[k]) n x ∧ i = .int .i64 n ∧ r = .int .i64 (x : Int)) (fun _ i => 8 - (intOf i).toNat)
      case atStart => exact ⟨0, _, Nat.zero_le _, BitVec.isLt _, rfl, rfl, by rw [start16]; rfl⟩
      case round =>
        obtain ⟨n, x, hn, hx, hat, rfl, rfl⟩ := hrel
        by_cases hlt8 : n < 8
        · by_cases h15 : (32768 : Int) ≤ (x : Int)
          · go_wp2
            go_round
            case rel => exact ⟨n + 1, (x * 2 % 65536) ^^^ 4129, by omega, Nat.xor_lt_two_pow (n := 16) (by omega) (by omega), at16_hi hat (by omega), by go_num, by rw [← i64_xor _ _ (by omega) (by omega)]; simp⟩
            case measure => simp [intOf]; omega
          · go_wp2
            go_round
            case rel => exact ⟨n + 1, x * 2 % 65536, by omega, by omega, at16_lo hat (by omega), by go_num, by simp⟩
            case measure => simp [intOf]; omega
        · go_wp2
          go_round
          case rel =>
            obtain rfl : n = 8 := by omega
            exact ⟨k + 1, by omega, by go_num, by rw [sum16_snoc s k hlt]; exact congrArg (fun z : Nat => Value.int .i64 (z : Int)) hat⟩
          case measure => simp [intOf]; omega
    · have hb := (Crc.sum16 (s.data.toList.take k)).isLt
      go_wp2
      go_ret
      exact ⟨ret_int (by rw [take_all s k hlt]), rfl⟩

set_option maxHeartbeats 400000 in
theorem refSum8_any (s : ByteArray) (w : World) (hs : s.size ≤ maxLen) :
    Calls Try.prog 16 #[.string s] w fun e w' => e = .returned (.int .u8 ((Crc.sum8 s.data.toList).toNat : Int)) ∧ w' = w := by
  unfold maxLen at hs
  go_enter Try.func16, Try.ntmps16
  go_wp2
  go_loop [3, 4] (fun r i => ∃ k : Nat, k ≤ s.size ∧ i = .int .i64 k ∧ r = .int .i64 ((Crc.sum8 (s.data.toList.take k)).toNat : Int)) (fun _ i => s.size - (intOf i).toNat)
  case atStart => exact ⟨0, Nat.zero_le _, rfl, rfl⟩
  case round =>
    obtain ⟨k, hk, rfl, rfl⟩ := hrel
    by_cases hlt : k < s.size
    · have hc := s[k].toNat_lt
      go_wp2
      clear hc
      go_loop [3, 5] (fun r i => ∃ n x : Nat, n ≤ 8 ∧ x < 256 ∧ at8 (Crc.sum8 (s.data.toList.take k) ^^^ s[k].toBitVec) n x ∧ i = .int .i64 n ∧ r = .int .i64 (x : Int)) (fun _ i => 8 - (intOf i).toNat)
      case atStart => exact ⟨0, _, Nat.zero_le _, BitVec.isLt _, rfl, rfl, by rw [start8]; rfl⟩
      case round =>
        obtain ⟨n, x, hn, hx, hat, rfl, rfl⟩ := hrel
        by_cases hlt8 : n < 8
        · by_cases h15 : (128 : Int) ≤ (x : Int)
          · go_wp2
            go_round
            case rel => exact ⟨n + 1, (x * 2 % 256) ^^^ 7, by omega, Nat.xor_lt_two_pow (n := 8) (by omega) (by omega), at8_hi hat (by omega), by go_num, by rw [← i64_xor _ _ (by omega) (by omega)]; simp⟩
            case measure => simp [intOf]; omega
          · go_wp2
            go_round
            case rel => exact ⟨n + 1, x * 2 % 256, by omega, by omega, at8_lo hat (by omega), by go_num, by simp⟩
            case measure => simp [intOf]; omega
        · go_wp2
          go_round
          case rel =>
            obtain rfl : n = 8 := by omega
            exact ⟨k + 1, by omega, by go_num, by rw [sum8_snoc s k hlt]; exact congrArg (fun z : Nat => Value.int .i64 (z : Int)) hat⟩
          case measure => simp [intOf]; omega
    · have hb := (Crc.sum8 (s.data.toList.take k)).isLt
      go_wp2
      go_ret
      exact ⟨ret_int (by rw [take_all s k hlt]), rfl⟩

set_option maxHeartbeats 400000 in
theorem seal_any (s : ByteArray) (w : World) (hs : s.size + 2 ≤ maxLen) :
    Calls Try.prog 12 #[.string s] w fun e w' => e = .returned (.string (bs (Crc.seal16 s.data.toList))) ∧ Below w.heap.size w w' := by
  unfold maxLen at hs
  have hs1 : s.size ≤ maxLen := by unfold maxLen; omega
  have hc := conv2 w
  have h2 : ∀ a b, (strOfNums [a, b]).size = 2 := fun _ _ => rfl
  go_enter Try.func12, Try.ntmps12
  go_wp2_with (go_at_call 13; refine (sum16_any _ _ hs1).mono ?_; rintro e w' ⟨rfl, rfl⟩)
  go_ret
  exact ⟨ret_str (by rw [nums_hilo, bs_append]; rfl), (Below.refl _ _).alloc (Nat.le_refl _) _⟩

set_option maxHeartbeats 400000 in
theorem refSeal_any (s : ByteArray) (w : World) (hs : s.size + 2 ≤ maxLen) :
    Calls Try.prog 17 #[.string s] w fun e w' => e = .returned (.string (bs (Crc.seal16 s.data.toList))) ∧ Below w.heap.size w w' := by
  unfold maxLen at hs
  have hs1 : s.size ≤ maxLen := by unfold maxLen; omega
  have hc := conv2 w
  have h2 : ∀ a b, (strOfNums [a, b]).size = 2 := fun _ _ => rfl
  go_enter Try.func17, Try.ntmps17
  go_wp2_with (go_at_call 14; refine (refSum16_any _ _ hs1).mono ?_; rintro e w' ⟨rfl, rfl⟩)
  go_ret
  exact ⟨ret_str (by rw [nums_hilo, bs_append]; rfl), (Below.refl _ _).alloc (Nat.le_refl _) _⟩

/-- What Open answers. -/
def openB (s : ByteArray) : Value :=
  if s.size < 2 then .tuple #[.string ByteArray.empty, .int .i64 4]
  else if Crc.seal16 (s.data.toList.take (s.size - 2)) = s.data.toList then .tuple #[.string (bs (s.data.toList.take (s.size - 2))), .int .i64 0]
  else .tuple #[.string ByteArray.empty, .int .i64 5]
theorem ext0 (s : ByteArray) (n : Nat) : s.extract 0 n = bs (s.data.toList.take n) := by
  apply ByteArray.ext; apply Array.toList_inj.1; simp [bs]
set_option maxHeartbeats 400000 in
theorem open_any (s : ByteArray) (w : World) (hs : s.size ≤ maxLen) :
    Calls Try.prog 10 #[.string s] w fun e w' => e = .returned (openB s) ∧ Below w.heap.size w w' := by
  unfold maxLen at hs
  by_cases hlt : s.size < 2
  · go_enter Try.func10, Try.ntmps10
    go_wp2
    go_ret2
    exact ⟨by rw [openB, if_pos hlt]; rfl, Below.refl _ _⟩
  · go_enter Try.func10, Try.ntmps10
    go_wp2_with fail
    refine (seal_any _ _ (by simp [ByteArray.size_extract]; unfold maxLen; omega)).mono ?_
    rintro e w1 ⟨rfl, hb⟩
    rw [ext0, bs_list]
    by_cases hE : Crc.seal16 (s.data.toList.take (s.size - 2)) = s.data.toList
    · have H := Lib.hid hE
      rw [hE, bs_self]
      clear hE
      go_wp2_with fail
      go_ret2
      exact ⟨by rw [openB, if_neg hlt, if_pos H.out, ext0]; rfl, hb⟩
    · have hn : ((bs (Crc.seal16 (s.data.toList.take (s.size - 2)))).toList == s.toList) = false := by
        rw [ByteArray.toList_eq, ByteArray.toList_eq, bs_list]; simpa using hE
      have H := Lib.hid hE
      clear hE
      go_wp2_with fail
      go_ret2
      exact ⟨by rw [openB, if_neg hlt, if_neg H.out]; rfl, hb⟩

set_option maxHeartbeats 400000 in
theorem refOpen_any (s : ByteArray) (w : World) (hs : s.size ≤ maxLen) :
    Calls Try.prog 11 #[.string s] w fun e w' => e = .returned (openB s) ∧ Below w.heap.size w w' := by
  unfold maxLen at hs
  by_cases hlt : s.size < 2
  · go_enter Try.func11, Try.ntmps11
    go_wp2
    go_ret2
    exact ⟨by rw [openB, if_pos hlt]; rfl, Below.refl _ _⟩
  · go_enter Try.func11, Try.ntmps11
    go_wp2_with fail
    refine (refSeal_any _ _ (by simp [ByteArray.size_extract]; unfold maxLen; omega)).mono ?_
    rintro e w1 ⟨rfl, hb⟩
    rw [ext0, bs_list]
    by_cases hE : Crc.seal16 (s.data.toList.take (s.size - 2)) = s.data.toList
    · have H := Lib.hid hE
      rw [hE, bs_self]
      clear hE
      go_wp2_with fail
      go_ret2
      exact ⟨by rw [openB, if_neg hlt, if_pos H.out]; rfl, hb⟩
    · have hn : ((bs (Crc.seal16 (s.data.toList.take (s.size - 2)))).toList == s.toList) = false := by
        rw [ByteArray.toList_eq, ByteArray.toList_eq, bs_list]; simpa using hE
      have H := Lib.hid hE
      clear hE
      go_wp2_with fail
      go_ret2
      exact ⟨by rw [openB, if_neg hlt, if_neg H.out]; rfl, hb⟩
end Go.Proofs.Ytbmkjgfhdbajbaa
