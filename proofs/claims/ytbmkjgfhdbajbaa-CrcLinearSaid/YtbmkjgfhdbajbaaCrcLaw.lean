/- The plain law of the sums: the registers of 16 and of 8 bits as bit vectors, their linearity, and what a change of bits does to a sum. No program is named. Conditions: none. -/
namespace Go.Proofs.Ytbmkjgfhdbajbaa.Crc

/-- One step of the register of 16 bits. -/
def T (r : BitVec 16) : BitVec 16 := (r <<< 1) ^^^ (if r.msb then 0x1021#16 else 0#16)
/-- One step of the register of 8 bits. -/
def T8 (r : BitVec 8) : BitVec 8 := (r <<< 1) ^^^ (if r.msb then 0x07#8 else 0#8)
def it {α : Type} (f : α → α) : Nat → α → α
  | 0, r => r
  | n + 1, r => it f n (f r)
def up (c : UInt8) : BitVec 16 := c.toBitVec.setWidth 16 <<< 8
def byte16 (r : BitVec 16) (c : UInt8) : BitVec 16 := it T 8 (r ^^^ up c)
def byte8 (r : BitVec 8) (c : UInt8) : BitVec 8 := it T8 8 (r ^^^ c.toBitVec)
def sumFrom16 (r : BitVec 16) (l : List UInt8) : BitVec 16 := l.foldl byte16 r
def sumFrom8 (r : BitVec 8) (l : List UInt8) : BitVec 8 := l.foldl byte8 r
def sum16 (l : List UInt8) : BitVec 16 := sumFrom16 0xFFFF#16 l
def sum8 (l : List UInt8) : BitVec 8 := sumFrom8 0#8 l
def hi (r : BitVec 16) : UInt8 := ⟨(r >>> 8).setWidth 8⟩
def lo (r : BitVec 16) : UInt8 := ⟨r.setWidth 8⟩
def seal16 (l : List UInt8) : List UInt8 := l ++ [hi (sum16 l), lo (sum16 l)]

theorem it_succ {α : Type} (f : α → α) (n : Nat) (r : α) : it f (n + 1) r = f (it f n r) := by
  induction n generalizing r with
  | zero => rfl
  | succ n ih => rw [it, ih]; rfl
theorem it_add {α : Type} (f : α → α) (m n : Nat) (r : α) : it f (m + n) r = it f m (it f n r) := by
  induction n generalizing r with
  | zero => rfl
  | succ n ih => show it f (m + n) (f r) = _; rw [ih]; rfl

theorem T_xor (a b : BitVec 16) : T (a ^^^ b) = T a ^^^ T b := by
  unfold T
  rw [BitVec.shiftLeft_xor_distrib, BitVec.msb_xor]
  cases a.msb <;> cases b.msb <;> simp
  · rw [BitVec.xor_assoc]
  · rw [BitVec.xor_assoc, BitVec.xor_comm (b <<< 1), ← BitVec.xor_assoc]
  · rw [show (a <<< 1 ^^^ 4129#16) ^^^ (b <<< 1 ^^^ 4129#16) = (a <<< 1 ^^^ b <<< 1) ^^^ (4129#16 ^^^ 4129#16) from by ac_rfl]; simp
theorem T8_xor (a b : BitVec 8) : T8 (a ^^^ b) = T8 a ^^^ T8 b := by
  unfold T8
  rw [BitVec.shiftLeft_xor_distrib, BitVec.msb_xor]
  cases a.msb <;> cases b.msb <;> simp
  · rw [BitVec.xor_assoc]
  · rw [BitVec.xor_assoc, BitVec.xor_comm (b <<< 1), ← BitVec.xor_assoc]
  · rw [show (a <<< 1 ^^^ 7#8) ^^^ (b <<< 1 ^^^ 7#8) = (a <<< 1 ^^^ b <<< 1) ^^^ (7#8 ^^^ 7#8) from by ac_rfl]; simp
theorem T_zero : T 0#16 = 0#16 := by decide
theorem T8_zero : T8 0#8 = 0#8 := by decide
theorem T_inj0 (a : BitVec 16) (h : T a = 0#16) : a = 0#16 := by
  unfold T at h
  cases hm : a.msb
  · simp [hm] at h
    apply BitVec.eq_of_getLsbD_eq
    intro i hi
    by_cases h15 : i = 15
    · subst h15; simpa [BitVec.msb_eq_getLsbD_last] using hm
    · have := congrArg (fun x => x.getLsbD (i + 1)) h
      simp at this
      have h2 := this (by omega)
      simpa using h2
  · have := congrArg (fun x => x.getLsbD 0) h
    simp [hm] at this
theorem T8_inj0 (a : BitVec 8) (h : T8 a = 0#8) : a = 0#8 := by
  unfold T8 at h
  cases hm : a.msb
  · simp [hm] at h
    apply BitVec.eq_of_getLsbD_eq
    intro i hi
    by_cases h7 : i = 7
    · subst h7; simpa [BitVec.msb_eq_getLsbD_last] using hm
    · have := congrArg (fun x => x.getLsbD (i + 1)) h
      simp at this
      have h2 := this (by omega)
      simpa using h2
  · have := congrArg (fun x => x.getLsbD 0) h
    simp [hm] at this

theorem it_xor (n : Nat) (a b : BitVec 16) : it T n (a ^^^ b) = it T n a ^^^ it T n b := by
  induction n generalizing a b with
  | zero => rfl
  | succ n ih => simp only [it, T_xor, ih]
theorem it8_xor (n : Nat) (a b : BitVec 8) : it T8 n (a ^^^ b) = it T8 n a ^^^ it T8 n b := by
  induction n generalizing a b with
  | zero => rfl
  | succ n ih => simp only [it, T8_xor, ih]
theorem it_zero (n : Nat) : it T n 0#16 = 0#16 := by
  induction n with
  | zero => rfl
  | succ n ih => simp only [it, T_zero, ih]
theorem it8_zero (n : Nat) : it T8 n 0#8 = 0#8 := by
  induction n with
  | zero => rfl
  | succ n ih => simp only [it, T8_zero, ih]
theorem it_inj0 (n : Nat) (a : BitVec 16) (h : it T n a = 0#16) : a = 0#16 := by
  induction n generalizing a with
  | zero => exact h
  | succ n ih => exact T_inj0 _ (ih _ h)
theorem it8_inj0 (n : Nat) (a : BitVec 8) (h : it T8 n a = 0#8) : a = 0#8 := by
  induction n generalizing a with
  | zero => exact h
  | succ n ih => exact T8_inj0 _ (ih _ h)

theorem up_xor (a b : UInt8) : up (a ^^^ b) = up a ^^^ up b := by
  unfold up
  rw [show (a ^^^ b).toBitVec = a.toBitVec ^^^ b.toBitVec from rfl, BitVec.setWidth_xor, BitVec.shiftLeft_xor_distrib]
theorem byte16_xor (r q : BitVec 16) (a b : UInt8) : byte16 (r ^^^ q) (a ^^^ b) = byte16 r a ^^^ byte16 q b := by
  unfold byte16
  rw [← it_xor, up_xor]; congr 1; ac_rfl
theorem byte8_xor (r q : BitVec 8) (a b : UInt8) : byte8 (r ^^^ q) (a ^^^ b) = byte8 r a ^^^ byte8 q b := by
  unfold byte8
  rw [← it8_xor, show (a ^^^ b).toBitVec = a.toBitVec ^^^ b.toBitVec from rfl]; congr 1; ac_rfl

/-- The register is linear. -/
theorem sumFrom16_xor (l m : List UInt8) (h : l.length = m.length) (r q : BitVec 16) :
    sumFrom16 (r ^^^ q) (List.zipWith (· ^^^ ·) l m) = sumFrom16 r l ^^^ sumFrom16 q m := by
  induction l generalizing m r q with
  | nil => cases m with | nil => rfl | cons _ _ => simp at h
  | cons a l ih => cases m with
    | nil => simp at h
    | cons b m => simp only [sumFrom16, List.zipWith_cons_cons, List.foldl_cons, byte16_xor] at ih ⊢; exact ih m (by simpa using h) _ _
theorem sumFrom8_xor (l m : List UInt8) (h : l.length = m.length) (r q : BitVec 8) :
    sumFrom8 (r ^^^ q) (List.zipWith (· ^^^ ·) l m) = sumFrom8 r l ^^^ sumFrom8 q m := by
  induction l generalizing m r q with
  | nil => cases m with | nil => rfl | cons _ _ => simp at h
  | cons a l ih => cases m with
    | nil => simp at h
    | cons b m => simp only [sumFrom8, List.zipWith_cons_cons, List.foldl_cons, byte8_xor] at ih ⊢; exact ih m (by simpa using h) _ _

theorem byte16_add (r d : BitVec 16) (c : UInt8) : byte16 (r ^^^ d) c = byte16 r c ^^^ it T 8 d := by
  unfold byte16; rw [← it_xor]; congr 1; ac_rfl
theorem byte8_add (r d : BitVec 8) (c : UInt8) : byte8 (r ^^^ d) c = byte8 r c ^^^ it T8 8 d := by
  unfold byte8; rw [← it8_xor]; congr 1; ac_rfl
theorem sumFrom16_add (l : List UInt8) (r d : BitVec 16) : sumFrom16 (r ^^^ d) l = sumFrom16 r l ^^^ it T (8 * l.length) d := by
  induction l generalizing r d with
  | nil => rfl
  | cons c l ih =>
    show sumFrom16 (byte16 (r ^^^ d) c) l = sumFrom16 (byte16 r c) l ^^^ _
    rw [byte16_add, ih, ← it_add]; congr 2
theorem sumFrom8_add (l : List UInt8) (r d : BitVec 8) : sumFrom8 (r ^^^ d) l = sumFrom8 r l ^^^ it T8 (8 * l.length) d := by
  induction l generalizing r d with
  | nil => rfl
  | cons c l ih =>
    show sumFrom8 (byte8 (r ^^^ d) c) l = sumFrom8 (byte8 r c) l ^^^ _
    rw [byte8_add, ih, ← it_add]; congr 2
theorem sumFrom16_append (r : BitVec 16) (l m : List UInt8) : sumFrom16 r (l ++ m) = sumFrom16 (sumFrom16 r l) m := by simp [sumFrom16]
theorem sumFrom8_append (r : BitVec 8) (l m : List UInt8) : sumFrom8 r (l ++ m) = sumFrom8 (sumFrom8 r l) m := by simp [sumFrom8]

/-- Bit k of a list of bytes is changed (the first bit is the highest of the first byte). -/
def flip (l : List UInt8) (k : Nat) : List UInt8 := l.modify (k / 8) (· ^^^ ((1 : UInt8) <<< (UInt8.ofNat (7 - k % 8))))
theorem length_flip (l : List UInt8) (k : Nat) : (flip l k).length = l.length := by simp [flip]

theorem bit16 : ∀ j, j < 8 → it T 8 (up ((1 : UInt8) <<< (UInt8.ofNat (7 - j)))) = it T (8 - j) 0x8000#16 := by decide
theorem bit8 : ∀ j, j < 8 → it T8 8 ((1 : UInt8) <<< (UInt8.ofNat (7 - j))).toBitVec = it T8 (8 - j) 0x80#8 := by decide

theorem sumFrom16_flip (l : List UInt8) (k : Nat) (hk : k < 8 * l.length) (r : BitVec 16) :
    sumFrom16 r (flip l k) = sumFrom16 r l ^^^ it T (8 * l.length - k) 0x8000#16 := by
  induction l generalizing k r with
  | nil => simp at hk
  | cons c l ih =>
    simp only [List.length_cons] at hk ⊢
    by_cases h0 : k < 8
    · have e : flip (c :: l) k = (c ^^^ ((1 : UInt8) <<< (UInt8.ofNat (7 - k)))) :: l := by
        simp [flip, Nat.div_eq_of_lt h0, Nat.mod_eq_of_lt h0]
      rw [e]
      show sumFrom16 (byte16 r (c ^^^ _)) l = sumFrom16 (byte16 r c) l ^^^ _
      have hb : byte16 r (c ^^^ ((1 : UInt8) <<< (UInt8.ofNat (7 - k)))) = byte16 r c ^^^ it T (8 - k) 0x8000#16 := by
        rw [← bit16 k h0]; unfold byte16; rw [up_xor, ← it_xor]; congr 1; ac_rfl
      rw [hb, sumFrom16_add, ← it_add]; congr 2; omega
    · have e : flip (c :: l) k = c :: flip l (k - 8) := by
        have : k / 8 = (k - 8) / 8 + 1 := by omega
        have h2 : k % 8 = (k - 8) % 8 := by omega
        simp only [flip, this, h2, List.modify_succ_cons]
      rw [e]
      show sumFrom16 (byte16 r c) (flip l (k - 8)) = sumFrom16 (byte16 r c) l ^^^ _
      rw [ih (k - 8) (by omega)]; congr 2; omega
theorem sumFrom8_flip (l : List UInt8) (k : Nat) (hk : k < 8 * l.length) (r : BitVec 8) :
    sumFrom8 r (flip l k) = sumFrom8 r l ^^^ it T8 (8 * l.length - k) 0x80#8 := by
  induction l generalizing k r with
  | nil => simp at hk
  | cons c l ih =>
    simp only [List.length_cons] at hk ⊢
    by_cases h0 : k < 8
    · have e : flip (c :: l) k = (c ^^^ ((1 : UInt8) <<< (UInt8.ofNat (7 - k)))) :: l := by
        simp [flip, Nat.div_eq_of_lt h0, Nat.mod_eq_of_lt h0]
      rw [e]
      show sumFrom8 (byte8 r (c ^^^ _)) l = sumFrom8 (byte8 r c) l ^^^ _
      have hb : byte8 r (c ^^^ ((1 : UInt8) <<< (UInt8.ofNat (7 - k)))) = byte8 r c ^^^ it T8 (8 - k) 0x80#8 := by
        rw [← bit8 k h0]; unfold byte8
        rw [← it8_xor, show ∀ a b : UInt8, (a ^^^ b).toBitVec = a.toBitVec ^^^ b.toBitVec from fun _ _ => rfl]; congr 1; ac_rfl
      rw [hb, sumFrom8_add, ← it_add]; congr 2; omega
    · have e : flip (c :: l) k = c :: flip l (k - 8) := by
        have : k / 8 = (k - 8) / 8 + 1 := by omega
        have h2 : k % 8 = (k - 8) % 8 := by omega
        simp only [flip, this, h2, List.modify_succ_cons]
      rw [e]
      show sumFrom8 (byte8 r c) (flip l (k - 8)) = sumFrom8 (byte8 r c) l ^^^ _
      rw [ih (k - 8) (by omega)]; congr 2; omega

/-- A sealed string has the sum 0. -/
theorem lo_feed : ∀ c : Fin 256, it T 8 (BitVec.ofNat 16 c.val) = up (UInt8.ofNat c.val) := by decide +kernel
theorem seal_zero (l : List UInt8) : sum16 (seal16 l) = 0#16 := by
  unfold seal16 sum16
  rw [sumFrom16_append]
  generalize sumFrom16 0xFFFF#16 l = S
  show byte16 (byte16 S (hi S)) (lo S) = 0#16
  have h1 : S ^^^ up (hi S) = BitVec.ofNat 16 (lo S).toNat := by
    apply BitVec.eq_of_getLsbD_eq
    intro i hi'
    have e2 : (lo S).toNat = S.toNat % 256 := by simp [lo, UInt8.toNat]
    rw [e2]
    simp only [up, hi, BitVec.getLsbD_xor, BitVec.getLsbD_shiftLeft, BitVec.getLsbD_setWidth, BitVec.getLsbD_ushiftRight, BitVec.getLsbD_ofNat]
    rw [show (256 : Nat) = 2 ^ 8 from rfl, Nat.testBit_mod_two_pow]
    by_cases h8 : i < 8
    · simp [h8, hi', BitVec.getLsbD]
    · have : 8 + (i - 8) = i := by omega
      have h3 : i - 8 < 8 := by omega
      have h4 : i - 8 < 16 := by omega
      simp [h8, this, h3, h4, hi']
  have h2 : byte16 S (hi S) = up (lo S) := by
    unfold byte16; rw [h1]
    have := lo_feed ⟨(lo S).toNat, (lo S).toNat_lt⟩
    simp only at this
    rw [this]; simp
  rw [h2]; unfold byte16; rw [BitVec.xor_self, it_zero]

/-- What is opened. -/
theorem open_iff (p : List UInt8) (u : List UInt8) (h : seal16 p = u) : sum16 u = 0#16 := by rw [← h, seal_zero]

/-! ### Bursts -/
def cond (mask at' N i : Nat) : Bool := mask.testBit i && decide (at' + i < N)
def burst (l : List UInt8) (at' mask : Nat) : List UInt8 :=
  (List.range 16).foldl (fun l i => if cond mask at' (8 * l.length) i then flip l (at' + i) else l) l
def diff (mask at' N : Nat) (n : Nat) : List Nat → BitVec 16
  | [] => 0#16
  | i :: r => (if cond mask at' N i then it T (n - i) 0x8000#16 else 0#16) ^^^ diff mask at' N n r

theorem burst_sum (is : List Nat) (l : List UInt8) (at' mask N : Nat) (hN : 8 * l.length = N) (r : BitVec 16) :
    sumFrom16 r (is.foldl (fun l i => if cond mask at' (8 * l.length) i then flip l (at' + i) else l) l) = sumFrom16 r l ^^^ diff mask at' N (N - at') is ∧
    (is.foldl (fun l i => if cond mask at' (8 * l.length) i then flip l (at' + i) else l) l).length = l.length := by
  induction is generalizing l with
  | nil => simp [diff]
  | cons i is ih =>
    simp only [List.foldl_cons, diff]
    rw [hN]
    by_cases h : cond mask at' N i = true
    · have hk : at' + i < N := by unfold cond at h; simp at h; exact h.2
      rw [if_pos h, if_pos h]
      have hl := length_flip l (at' + i)
      obtain ⟨h1, h2⟩ := ih (flip l (at' + i)) (by rw [hl]; exact hN)
      refine ⟨?_, by rw [h2, hl]⟩
      rw [h1, sumFrom16_flip l _ (by omega), hN, Nat.sub_sub, BitVec.xor_assoc]
    · rw [if_neg h, if_neg h]
      simpa using ih l hN

theorem diff_it (mask at' N n m : Nat) (is : List Nat) (h : ∀ i ∈ is, cond mask at' N i = true → i ≤ n) :
    it T m (diff mask at' N n is) = diff mask at' N (m + n) is := by
  induction is with
  | nil => exact it_zero m
  | cons i is ih =>
    simp only [diff]
    rw [it_xor, ih (fun j hj => h j (List.mem_cons_of_mem _ hj))]
    congr 1
    by_cases hc : cond mask at' N i = true
    · have := h i List.mem_cons_self hc
      rw [if_pos hc, if_pos hc, ← it_add]; congr 1; omega
    · rw [if_neg hc, if_neg hc, it_zero]

def window (mask at' N : Nat) : List Nat → BitVec 16
  | [] => 0#16
  | i :: r => (if cond mask at' N i then 0x8000#16 >>> i else 0#16) ^^^ window mask at' N r
theorem shifted : ∀ i, i < 16 → it T (16 - i) 0x8000#16 = it T 16 (0x8000#16 >>> i) := by decide
theorem diff16 (mask at' N : Nat) (is : List Nat) (h : ∀ i ∈ is, i < 16) : diff mask at' N 16 is = it T 16 (window mask at' N is) := by
  induction is with
  | nil => exact (it_zero 16).symm
  | cons i is ih =>
    simp only [diff, window]
    rw [it_xor, ih (fun j hj => h j (List.mem_cons_of_mem _ hj))]
    congr 1
    by_cases hc : cond mask at' N i = true
    · rw [if_pos hc, if_pos hc, shifted i (h i List.mem_cons_self)]
    · rw [if_neg hc, if_neg hc, it_zero]

theorem window_bit (mask at' N : Nat) (is : List Nat) (hn : is.Nodup) (h : ∀ i ∈ is, i < 16) (j : Nat) (hj : j < 16) :
    (window mask at' N is).getLsbD (15 - j) = (decide (j ∈ is) && cond mask at' N j) := by
  induction is with
  | nil => simp [window]
  | cons i is ih =>
    have hn' := List.nodup_cons.1 hn
    have hi := h i List.mem_cons_self
    simp only [window, BitVec.getLsbD_xor, ih hn'.2 (fun j hj => h j (List.mem_cons_of_mem _ hj))]
    have hb : (0x8000#16 >>> i).getLsbD (15 - j) = decide (i = j) := by
      have : ∀ i, i < 16 → ∀ j, j < 16 → (0x8000#16 >>> i).getLsbD (15 - j) = decide (i = j) := by decide
      exact this i hi j hj
    by_cases hij : i = j
    · subst hij
      have : decide (i ∈ is) = false := by simpa using hn'.1
      rw [this]
      cases hc : cond mask at' N i <;> simp [hb]
    · have e : decide (j ∈ i :: is) = decide (j ∈ is) := by simp [Ne.symm hij]
      rw [e]
      cases hc : cond mask at' N i <;> simp [hb, hij]

theorem burst_same (is : List Nat) (l : List UInt8) (at' mask N : Nat) (hN : 8 * l.length = N) (h : ∀ i ∈ is, cond mask at' N i = false) :
    is.foldl (fun l i => if cond mask at' (8 * l.length) i then flip l (at' + i) else l) l = l := by
  induction is with
  | nil => rfl
  | cons i is ih =>
    have := h i List.mem_cons_self
    simp only [List.foldl_cons]
    rw [hN, if_neg (by simp [this])]
    exact ih fun j hj => h j (List.mem_cons_of_mem _ hj)

/-- A burst of at most 16 bits changes the sum, if it changes anything. -/
theorem burst_law (l : List UInt8) (at' mask : Nat) (hne : burst l at' mask ≠ l) : sum16 (burst l at' mask) ≠ sum16 l := by
  intro h
  apply hne
  have hb := (burst_sum (List.range 16) l at' mask (8 * l.length) rfl 0xFFFF#16).1
  have h0 : diff mask at' (8 * l.length) (8 * l.length - at') (List.range 16) = 0#16 := by
    have e : sumFrom16 0xFFFF#16 l ^^^ diff mask at' (8 * l.length) (8 * l.length - at') (List.range 16) = sumFrom16 0xFFFF#16 l := hb.symm.trans h
    have := congrArg (sumFrom16 0xFFFF#16 l ^^^ ·) e
    simp only [← BitVec.xor_assoc, BitVec.xor_self, BitVec.zero_xor] at this
    exact this
  have hw : window mask at' (8 * l.length) (List.range 16) = 0#16 := by
    apply it_inj0 16
    rw [← diff16 _ _ _ _ (fun i hi => by simpa using hi)]
    by_cases hc : 8 * l.length - at' ≤ 16
    · have := diff_it mask at' (8 * l.length) (8 * l.length - at') (16 - (8 * l.length - at')) (List.range 16) (fun i _ hc => by
        simp [cond] at hc; omega)
      rw [h0, it_zero, show 16 - (8 * l.length - at') + (8 * l.length - at') = 16 from by omega] at this
      exact this.symm
    · have := diff_it mask at' (8 * l.length) 16 (8 * l.length - at' - 16) (List.range 16) (fun i hi _ => by simp at hi; omega)
      rw [show 8 * l.length - at' - 16 + 16 = 8 * l.length - at' from by omega, h0] at this
      exact it_inj0 _ _ this
  apply burst_same (List.range 16) l at' mask (8 * l.length) rfl
  intro i hi
  have hi' : i < 16 := by simpa using hi
  have := window_bit mask at' (8 * l.length) (List.range 16) List.nodup_range (fun i hi => by simpa using hi) i hi'
  rw [hw] at this
  simpa [hi'] using this.symm

/-! ### Pairs: the order of the step is greater than 8015 -/
def far (n : Nat) (r : BitVec 16) : Bool := match n with
  | 0 => true
  | n + 1 => (T r != 0x8000#16) && far n (T r)
theorem far_spec (n : Nat) (r : BitVec 16) (h : far n r = true) (d : Nat) (h0 : 0 < d) (hd : d ≤ n) : it T d r ≠ 0x8000#16 := by
  induction n generalizing r d with
  | zero => omega
  | succ n ih =>
    simp only [far, Bool.and_eq_true, bne_iff_ne] at h
    cases d with
    | zero => omega
    | succ d => cases d with
      | zero => exact h.1
      | succ d => exact ih (T r) h.2 (d + 1) (by omega) (by omega)

theorem bit_law16 (l : List UInt8) (k : Nat) (hk : k < 8 * l.length) : sum16 (flip l k) ≠ sum16 l := by
  intro h
  unfold sum16 at h
  rw [sumFrom16_flip l k hk] at h
  have := congrArg (sumFrom16 0xFFFF#16 l ^^^ ·) h
  simp only [← BitVec.xor_assoc, BitVec.xor_self, BitVec.zero_xor] at this
  exact absurd (it_inj0 _ _ this) (by decide)
theorem bit_law8 (l : List UInt8) (k : Nat) (hk : k < 8 * l.length) : sum8 (flip l k) ≠ sum8 l := by
  intro h
  unfold sum8 at h
  rw [sumFrom8_flip l k hk] at h
  have := congrArg (sumFrom8 0#8 l ^^^ ·) h
  simp only [← BitVec.xor_assoc, BitVec.xor_self, BitVec.zero_xor] at this
  exact absurd (it8_inj0 _ _ this) (by decide)

/-! ### Swaps -/
theorem swap_ne : ∀ d : Fin 256, d.val ≠ 0 → it T 8 (it T 8 (up (UInt8.ofNat d.val)) ^^^ up (UInt8.ofNat d.val)) ≠ 0#16 := by decide +kernel
theorem byte16_flip (r : BitVec 16) (a d : UInt8) : byte16 r (a ^^^ d) = byte16 r a ^^^ it T 8 (up d) := by
  unfold byte16; rw [up_xor, ← it_xor]; congr 1; ac_rfl
theorem swap_law (p q : List UInt8) (a b : UInt8) (hab : a ≠ b) : sum16 (p ++ b :: a :: q) ≠ sum16 (p ++ a :: b :: q) := by
  intro h
  unfold sum16 at h
  rw [sumFrom16_append, sumFrom16_append] at h
  generalize sumFrom16 0xFFFF#16 p = r at h
  have eb : b = a ^^^ (a ^^^ b) := by rw [← UInt8.xor_assoc, UInt8.xor_self, UInt8.zero_xor]
  have ea : a = b ^^^ (a ^^^ b) := by rw [UInt8.xor_comm a b, ← UInt8.xor_assoc, UInt8.xor_self, UInt8.zero_xor]
  generalize hd : a ^^^ b = d at eb ea
  have h1 : byte16 (byte16 r b) a = byte16 (byte16 r a) b ^^^ it T 8 (it T 8 (up d) ^^^ up d) := by
    have e1 : byte16 r b = byte16 r a ^^^ it T 8 (up d) := by rw [eb, byte16_flip]
    have e2 : ∀ R, byte16 R a = byte16 R b ^^^ it T 8 (up d) := fun R => by rw [ea, byte16_flip]
    rw [e1, byte16_add, e2, it_xor]; ac_rfl
  have h2 : sumFrom16 (byte16 (byte16 r a) b ^^^ it T 8 (it T 8 (up d) ^^^ up d)) q = sumFrom16 (byte16 (byte16 r a) b) q := by
    rw [← h1]; exact h
  rw [sumFrom16_add] at h2
  have := congrArg (sumFrom16 (byte16 (byte16 r a) b) q ^^^ ·) h2
  simp only [← BitVec.xor_assoc, BitVec.xor_self, BitVec.zero_xor] at this
  have h3 := it_inj0 _ _ this
  have hn := swap_ne ⟨d.toNat, d.toNat_lt⟩
  simp only [UInt8.ofNat_toNat] at hn
  apply hn _ h3
  intro h0
  apply hab
  have hd0 : d = 0 := by apply UInt8.toNat_inj.1; simpa using h0
  rw [ea, hd0, UInt8.xor_zero]

theorem far_ok : far 8015 0x8000#16 = true := by decide +kernel
theorem pair_law (l : List UInt8) (x y : Nat) (hx : x < 8 * l.length) (hy : y < 8 * l.length) (hn : 8 * l.length ≤ 8016) (hxy : x ≠ y) :
    sum16 (flip (flip l x) y) ≠ sum16 l := by
  intro h
  unfold sum16 at h
  have hl := length_flip l x
  rw [sumFrom16_flip _ y (by rw [hl]; exact hy), sumFrom16_flip l x hx, hl, BitVec.xor_assoc] at h
  have := congrArg (sumFrom16 0xFFFF#16 l ^^^ ·) h
  simp only [← BitVec.xor_assoc, BitVec.xor_self, BitVec.zero_xor] at this
  have key : ∀ m d : Nat, 0 < d → d ≤ 8015 → it T (m + d) 0x8000#16 ^^^ it T m 0x8000#16 ≠ 0#16 := by
    intro m d h0 hd hz
    rw [it_add, ← it_xor] at hz
    have := it_inj0 _ _ hz
    have e : it T d 0x8000#16 = 0x8000#16 := by
      have := congrArg (· ^^^ 0x8000#16) this
      simpa [BitVec.xor_assoc] using this
    exact far_spec 8015 _ far_ok d h0 hd e
  rcases Nat.lt_or_gt_of_ne hxy with hlt | hlt
  · have k := key (8 * l.length - y) (y - x) (by omega) (by omega)
    rw [show 8 * l.length - y + (y - x) = 8 * l.length - x from by omega] at k
    exact k this
  · have k := key (8 * l.length - x) (x - y) (by omega) (by omega)
    rw [show 8 * l.length - x + (x - y) = 8 * l.length - y from by omega, BitVec.xor_comm] at k
    exact k this
end Go.Proofs.Ytbmkjgfhdbajbaa.Crc
