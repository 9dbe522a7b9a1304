/- The walks over package building and its reference: ranges, times, loads, the whole configuration. Conditions: none but that cars can be read. -/
import Derived.Test.YtfmmiafdlfdfoaaRows
import Derived.Test.YtfmmiafdlfdfoaaZGrow
import Derived.WalkKit
import Derived.WalkSpells
import Derived.WalkLawsBesides
import Derived.Lib.Hide
import Derived.Deep.Cut
import Derived.Deep.CutRange
namespace Go.Proofs.Ytfmmiafdlfdfoaa
open Go.RowKit

/-- v is a slice that holds the numbers l. -/
def RdI (w : World) (v : Value) (l : List Int) : Prop :=
  ∃ (q : Option Addr) (cap : Nat), v = .slice q l.length cap ∧ ∀ i x, l[i]? = some x → ∃ A, q = some A ∧ A.block < w.heap.size ∧ w.cell? (A.add i) = some (.int .i64 x)
theorem addr_block (A : Addr) (n : Nat) : (A.add n).block = A.block := by unfold Addr.add; split <;> rfl
theorem rdI_alloc (w : World) (t : TypeId) (xs : List Int) : RdI (w.alloc (.cells (xs.map (Value.int .i64)).toArray t)) (.slice (some ⟨w.heap.size, 0, none⟩) xs.length xs.length) xs := by
  refine ⟨_, _, rfl, fun i x hx => ⟨_, rfl, by simp, ?_⟩⟩
  rw [Addr.add_lit, Nat.zero_add]
  have hi := (List.getElem?_eq_some_iff.1 hx).1
  simp [World.cell?, World.alloc, -World.alloc_eq, hx]
def inR (lo hi x : Int) : Bool := decide (lo ≤ x) && decide (x ≤ hi)
def inAll (lo hi : Int) (l : List Int) : Bool := l.all (inR lo hi)
theorem below1' (w : World) (x : Obj) : Below w.heap.size w (w.alloc x) := (Below.refl _ _).alloc (Nat.le_refl _) _

set_option maxHeartbeats 1000000 in
theorem within_any (lo hi : Int) (v : Value) (l : List Int) (w : World) (hl : l.length ≤ 1000) (hr : RdI w v l) :
    Calls Try.prog 63 #[.int .i64 lo, .int .i64 hi, v] w fun e w' => e = .returned (.bool (inAll lo hi l)) ∧ Below w.heap.size w w' := by
  obtain ⟨q, cap, rfl, hc⟩ := hr
  obtain ⟨n, hn⟩ : ∃ n, n = l.length := ⟨_, rfl⟩
  rw [← hn] at hl ⊢
  have HN := Lib.hid hn; have HC := Lib.hid hc
  clear hn hc
  go_enter Try.func63, Try.ntmps63
  go_wp2_with fail
  go_loopw [11] (fun v wr => ∃ i : Nat, i ≤ n ∧ v = .int .i64 i ∧ inAll lo hi (l.take i) = true ∧ Below w.heap.size w wr) (fun v _ => n - (intOf v).toNat)
  case atStart => exact ⟨0, by omega, rfl, rfl, Below.refl _ _⟩
  case round =>
    obtain ⟨i, hi', rfl, hall, hb⟩ := hrel
    have hsz := hb.size
    by_cases hlt : i < n
    · have hd : decide ((i : Int) < (n : Int)) = true := by simp; omega
      obtain ⟨x, hx⟩ : ∃ x, l[i]? = some x := ⟨_, List.getElem?_eq_getElem (by rw [← HN.out]; exact hlt)⟩
      obtain ⟨A, rfl, hA, hcell⟩ := HC.out i x hx
      have c0 : wr.cell? (A.add i) = some (.int .i64 x) := by rw [hb.cell (by rw [addr_block]; exact hA)]; exact hcell
      have hbad : inR lo hi x = false → inAll lo hi l = false := fun h => by
        unfold inAll
        rw [List.all_eq_false]
        exact ⟨x, List.mem_of_getElem? hx, by simp [h]⟩
      have hgood : inR lo hi x = true → inAll lo hi (l.take (i + 1)) = true := fun h => by
        unfold inAll at *
        rw [List.take_add_one, hx, List.all_append, hall]; simp [h]
      have H1 := Lib.hid hbad; have H2 := Lib.hid hgood; have H3 := Lib.hid hall
      clear hx hcell hbad hgood hall hA
      by_cases h1 : x < lo
      · have e : inAll lo hi l = false := H1.out (by unfold inR; rw [decide_eq_false (by omega)]; rfl)
        have HE := Lib.hid e
        clear e
        go_wp2_with fail
        go_ret
        exact ⟨by rw [HE.out]; rfl, hb⟩
      · by_cases h2 : hi < x
        · have e : inAll lo hi l = false := H1.out (by unfold inR; rw [decide_eq_false (p := x ≤ hi) (by omega)]; simp)
          have HE := Lib.hid e
          clear e
          go_wp2_with fail
          go_ret
          exact ⟨by rw [HE.out]; rfl, hb⟩
        · have e := H2.out (by unfold inR; rw [decide_eq_true (by omega), decide_eq_true (by omega)]; rfl)
          have HE := Lib.hid e
          clear e
          go_wp2_with fail
          exact ⟨⟨i + 1, by omega, by go_num, HE.out, hb⟩, by simp [intOf]; omega⟩
    · have e1 : decide ((i : Int) < (n : Int)) = false := by simp; omega
      have e : inAll lo hi l = true := by rw [← hall, show i = l.length by rw [← HN.out]; omega, List.take_length]
      have HE := Lib.hid e
      clear e hall
      go_wp2_with fail
      go_ret
      exact ⟨by rw [HE.out]; rfl, hb⟩

theorem within_new (lo hi : Int) (w : World) (xs : List Int) (t : TypeId) (b k : Nat) (arr : Array Value) (hb : w.heap.size = b) (hk : xs.length = k) (ha : arr = (xs.map (Value.int .i64)).toArray) (hl : k ≤ 1000) :
    Calls Try.prog 63 #[.int .i64 lo, .int .i64 hi, .slice (some ⟨b, 0, none⟩) k k] (w.alloc (.cells arr t)) fun e w' => e = .returned (.bool (inAll lo hi xs)) ∧ Below w.heap.size w w' := by
  subst hb hk ha
  exact (within_any lo hi _ xs _ hl (rdI_alloc w t xs)).mono fun _ _ ⟨he, hb⟩ => ⟨he, (below1' w _).trans (hb.mono (by simp))⟩

/-! a car's configuration -/
structure CarV where
  dl : Int
  pu : Int
  qu : Int
  sl : Int
  st : Int
  tr : Int
  dw : Int
  ho : Int
  hm : Int
abbrev CarV.cells (c : CarV) : List Value := [.int .i64 c.dl, .int .i64 c.pu, .int .i64 c.qu, .int .i64 c.sl, .int .i64 c.st, .int .i64 c.tr, .int .i64 c.dw, .int .i64 c.ho, .int .i64 c.hm]
abbrev cvCar (c : CarV) : Value := .agg #[.int .i64 c.dl, .int .i64 c.pu, .int .i64 c.qu, .int .i64 c.sl, .int .i64 c.st, .int .i64 c.tr, .int .i64 c.dw, .int .i64 c.ho, .int .i64 c.hm]
def timesB (c : CarV) (floors : Int) : Bool := inAll 1 10000 [c.dl, c.pu, c.qu, c.st, c.tr, c.dw, c.ho] && inAll 0 10000 [c.sl] && decide (c.dw ≤ c.ho) && inAll 0 (floors - 1) [c.hm]
/-- A block that holds the cells xs, and nothing else. -/
def Blk (W : World) (b : Nat) (xs : List Value) : Prop := ∃ t, W.heap[b]? = some (.cells xs.toArray t (0, 0))
theorem Blk.new (W : World) (xs : List Value) (t : TypeId) : Blk (W.alloc (.cells xs.toArray t)) W.heap.size xs := ⟨t, by simp [World.alloc, -World.alloc_eq]⟩
theorem Blk.lt {W : World} {b : Nat} {xs : List Value} (h : Blk W b xs) : b < W.heap.size := by obtain ⟨t, h⟩ := h; exact (Array.getElem?_eq_some_iff.1 h).1
theorem Blk.later {W W' : World} {b B : Nat} {xs : List Value} (h : Blk W b xs) (hb : Below B W W') (hB : b < B) : Blk W' b xs := by obtain ⟨t, h⟩ := h; exact ⟨t, (hb.block b hB).trans h⟩
theorem Blk.next {W W' : World} {b : Nat} {xs : List Value} (h : Blk W b xs) (hb : Below W.heap.size W W') : Blk W' b xs := h.later hb h.lt
theorem Blk.cell {W : World} {b : Nat} {xs : List Value} (h : Blk W b xs) (i : Nat) (v : Value) (hv : xs[i]? = some v) : W.cell? ⟨b, i, none⟩ = some v := by
  obtain ⟨t, h⟩ := h; simp [World.cell?, h, hv]

set_option maxHeartbeats 1000000 in
theorem times_any (c : CarV) (floors : Int) (w : World) (h2 : 2 ≤ floors) (h32 : floors ≤ 32) :
    Calls Try.prog 64 #[cvCar c, .int .i64 floors] w fun e w' => e = .returned (.bool (timesB c floors)) ∧ Below w.heap.size w w' := by
  have B0 := Blk.new w c.cells 40
  have hb0 := below1' w (.cells c.cells.toArray 40)
  change Blk (w.alloc (.cells #[.int .i64 c.dl, .int .i64 c.pu, .int .i64 c.qu, .int .i64 c.sl, .int .i64 c.st, .int .i64 c.tr, .int .i64 c.dw, .int .i64 c.ho, .int .i64 c.hm] 40)) _ _ at B0
  change Below _ _ (w.alloc (.cells #[.int .i64 c.dl, .int .i64 c.pu, .int .i64 c.qu, .int .i64 c.sl, .int .i64 c.st, .int .i64 c.tr, .int .i64 c.dw, .int .i64 c.ho, .int .i64 c.hm] 40)) at hb0
  have hz : (w.alloc (.cells #[.int .i64 c.dl, .int .i64 c.pu, .int .i64 c.qu, .int .i64 c.sl, .int .i64 c.st, .int .i64 c.tr, .int .i64 c.dw, .int .i64 c.ho, .int .i64 c.hm] 40)).heap.size = w.heap.size + 1 := by simp
  have HB0 := Lib.hid B0; have Hb0 := Lib.hid hb0
  clear B0 hb0
  go_enter Try.func64, Try.ntmps64
  go_wp2_with fail
  refine (within_new 1 10000 _ [c.dl, c.pu, c.qu, c.st, c.tr, c.dw, c.ho] _ _ _ _ (by simp) rfl rfl (by simp)).mono ?_
  rintro e w2 ⟨rfl, hb1⟩
  have B2 := HB0.out.next hb1
  have hb2 := Hb0.out.trans (hb1.mono (by omega))
  clear HB0 Hb0 hb1 hz
  generalize w.alloc (.cells #[.int .i64 c.dl, .int .i64 c.pu, .int .i64 c.qu, .int .i64 c.sl, .int .i64 c.st, .int .i64 c.tr, .int .i64 c.dw, .int .i64 c.ho, .int .i64 c.hm] 40) = w1 at *
  cases e1 : inAll 1 10000 [c.dl, c.pu, c.qu, c.st, c.tr, c.dw, c.ho]
  · have HE := Lib.hid e1
    clear e1
    go_wp2_with fail
    go_ret
    exact ⟨by simp [timesB, HE.out], hb2⟩
  · have HE := Lib.hid e1
    have k3 := B2.cell 3 _ rfl; have k6 := B2.cell 6 _ rfl; have k7 := B2.cell 7 _ rfl; have k8 := B2.cell 8 _ rfl
    have HB := Lib.hid B2
    clear e1 B2
    go_wp2_with fail
    refine (within_new 0 10000 _ [c.sl] _ _ _ _ rfl rfl rfl (by simp)).mono ?_
    rintro e w3 ⟨rfl, hb3⟩
    have B3 := HB.out.next hb3
    have hb4 := hb2.trans (hb3.mono hb2.size)
    clear HB hb3 hb2 k3 k6 k7 k8
    have k6 := B3.cell 6 _ rfl; have k7 := B3.cell 7 _ rfl; have k8 := B3.cell 8 _ rfl
    clear B3
    cases e2 : inAll 0 10000 [c.sl]
    · have HE2 := Lib.hid e2
      clear e2
      go_wp2_with fail
      go_ret
      exact ⟨by simp [timesB, HE.out, HE2.out], hb4⟩
    · have HE2 := Lib.hid e2
      clear e2
      cases e3 : decide (c.dw ≤ c.ho)
      · have HE3 := Lib.hid e3
        go_wp2_with fail
        go_ret
        exact ⟨by simp only [timesB, HE.out, HE2.out, HE3.out]; rfl, hb4⟩
      · have HE3 := Lib.hid e3
        go_wp2_with fail
        refine (within_new 0 (floors - 1) _ [c.hm] _ _ _ _ rfl rfl rfl (by simp)).mono ?_
        rintro e w5 ⟨rfl, hb5⟩
        clear k6 k7 k8 e3
        go_wp2_with fail
        go_ret
        exact ⟨by simp only [timesB, HE.out, HE2.out, HE3.out]; rfl, hb4.trans (hb5.mono hb4.size)⟩

/-! a building's configuration -/
structure BldV where
  fl : Int
  deb : Int
  room : Int
  park : Int
  em : Nat
  fu : Nat
  ov : Nat
  cars : List CarV
def flt (a b : Nat) : Bool := FloatKind.f64.format.order a b == some .lt
def fle (a b : Nat) : Bool := FloatKind.f64.format.order a b == some .lt || FloatKind.f64.format.order a b == some .eq
def loadsB (b : BldV) : Bool := flt 0 b.em && flt b.em b.fu && flt b.fu b.ov && fle b.ov 9218868437227405311
abbrev cvB (b : BldV) (q : Option Addr) (cap : Nat) : Value := .agg #[.int .i64 b.fl, .int .i64 b.deb, .int .i64 b.room, .int .i64 b.park, .float .f64 b.em, .float .f64 b.fu, .float .f64 b.ov, .slice q b.cars.length cap]
/-- The slice from q on holds the cars. -/
def RdC (w : World) (q : Option Addr) (l : List CarV) : Prop := ∀ i c, l[i]? = some c → ∃ A, q = some A ∧ A.block < w.heap.size ∧ ∀ j u, c.cells[j]? = some u → w.cell? (A.add (i * 9 + j)) = some u
theorem RdC.next {w w' : World} {q : Option Addr} {l : List CarV} (h : RdC w q l) (hb : Below w.heap.size w w') : RdC w' q l := by
  intro i c hc
  obtain ⟨A, hq, hA, hcell⟩ := h i c hc
  refine ⟨A, hq, Nat.lt_of_lt_of_le hA hb.size, fun j u hu => ?_⟩
  rw [hb.cell (by rw [addr_block]; exact hA)]
  exact hcell j u hu
theorem addr_one (A : Addr) (i j : Nat) : A.add (i + (j + 1)) = ⟨(A.add i).block, (A.add i).off + (j + 1), none⟩ := by
  rw [show i + (j + 1) = (i + j) + 1 by omega, Addr.add_succ']
  unfold Addr.add
  split
  · rename_i h; subst h; simp
  · simp; omega
set_option maxHeartbeats 1000000 in
theorem loads_any (b : BldV) (q : Option Addr) (n cap : Nat) (w : World) :
    Calls Try.prog 65 #[.agg #[.int .i64 b.fl, .int .i64 b.deb, .int .i64 b.room, .int .i64 b.park, .float .f64 b.em, .float .f64 b.fu, .float .f64 b.ov, .slice q n cap]] w fun e w' => e = .returned (.bool (loadsB b)) ∧ Below w.heap.size w w' := by
  go_enter Try.func65, Try.ntmps65
  go_wp2_with fail
  all_goals
    go_ret
    exact ⟨by simp [loadsB, flt, fle, *], below1' _ _⟩
def inN (lo hi x : Int) : Bool := inAll lo hi [x]
def goodB (b : BldV) (k : Nat) : Bool := inAll 1 16 [b.deb] && inAll 1 10000 [b.park] && (b.cars.take k).all (timesB · b.fl)
def validN (b : BldV) : Int :=
  if inAll 2 32 [b.fl] = false then 10 else if inAll 1 8 [(b.cars.length : Int)] = false then 11 else if goodB b b.cars.length = false then 12
  else if loadsB b = false then 13 else if inAll (18 * (b.cars.length : Int) + 24) 65536 [b.room] = false then 14 else 0
theorem goodB_succ (b : BldV) (i : Nat) (c : CarV) (h : b.cars[i]? = some c) : goodB b (i + 1) = (goodB b i && timesB c b.fl) := by
  unfold goodB
  rw [List.take_add_one, h, List.all_append]
  simp [Bool.and_assoc]
theorem inAll_one (lo hi x : Int) : inAll lo hi [x] = true ↔ lo ≤ x ∧ x ≤ hi := by simp [inAll, inR]
set_option maxHeartbeats 4000000 in
theorem valid_any (b : BldV) (q : Option Addr) (cap : Nat) (w : World) (hlen : b.cars.length ≤ maxLen) (hr : RdC w q b.cars) :
    Calls Try.prog 46 #[cvB b q cap] w fun e w' => e = .returned (.int .i64 (validN b)) ∧ Below w.heap.size w w' := by
  unfold maxLen at hlen
  obtain ⟨n, hn⟩ : ∃ n, n = b.cars.length := ⟨_, rfl⟩
  have B0 := Blk.new w [.int .i64 b.fl, .int .i64 b.deb, .int .i64 b.room, .int .i64 b.park, .float .f64 b.em, .float .f64 b.fu, .float .f64 b.ov, .slice q n cap] 29
  have hb0 := below1' w (.cells #[.int .i64 b.fl, .int .i64 b.deb, .int .i64 b.room, .int .i64 b.park, .float .f64 b.em, .float .f64 b.fu, .float .f64 b.ov, .slice q n cap] 29)
  change Blk (w.alloc (.cells #[.int .i64 b.fl, .int .i64 b.deb, .int .i64 b.room, .int .i64 b.park, .float .f64 b.em, .float .f64 b.fu, .float .f64 b.ov, .slice q n cap] 29)) _ _ at B0
  have R0 := hr.next hb0
  show Calls _ _ #[.agg #[.int .i64 b.fl, .int .i64 b.deb, .int .i64 b.room, .int .i64 b.park, .float .f64 b.em, .float .f64 b.fu, .float .f64 b.ov, .slice q b.cars.length cap]] _ _
  rw [← hn] at hlen ⊢
  have hz : (w.alloc (.cells #[.int .i64 b.fl, .int .i64 b.deb, .int .i64 b.room, .int .i64 b.park, .float .f64 b.em, .float .f64 b.fu, .float .f64 b.ov, .slice q n cap] 29)).heap.size = w.heap.size + 1 := by simp
  have HB0 := Lib.hid B0; have Hb0 := Lib.hid hb0; have HR0 := Lib.hid R0; have HN := Lib.hid hn; have Hr := Lib.hid hr
  clear B0 hb0 R0 hn hr
  go_enter Try.func46, Try.ntmps46
  go_wp2_with fail
  refine (within_new 2 32 _ [b.fl] _ _ _ _ (by simp) rfl rfl (by simp)).mono ?_
  rintro e w2 ⟨rfl, hb1⟩
  have B2 := HB0.out.next hb1
  have R2 := HR0.out.next hb1
  have hb2 := Hb0.out.trans (hb1.mono (by omega))
  clear HB0 Hb0 hb1 hz HR0
  generalize w.alloc (.cells #[.int .i64 b.fl, .int .i64 b.deb, .int .i64 b.room, .int .i64 b.park, .float .f64 b.em, .float .f64 b.fu, .float .f64 b.ov, .slice q n cap] 29) = w1 at *
  have k7 := B2.cell 7 _ rfl
  have HB := Lib.hid B2; have HR := Lib.hid R2
  clear B2 R2
  cases e1 : inAll 2 32 [b.fl]
  · have HE := Lib.hid e1
    clear e1
    go_wp2_with fail
    go_ret
    exact ⟨by simp [validN, HE.out], hb2⟩
  have H1 := Lib.hid e1
  have hfl := (inAll_one _ _ _).1 e1
  obtain ⟨hf2, hf32⟩ := hfl
  clear e1
  go_wp2_with fail
  refine (within_new 1 8 _ [(n : Int)] _ _ _ _ rfl rfl rfl (by simp)).mono ?_
  rintro e w3 ⟨rfl, hb3⟩
  have B3 := HB.out.next hb3; have R3 := HR.out.next hb3
  have hb4 := hb2.trans (hb3.mono hb2.size)
  clear HB HR hb3 hb2 k7
  have k1 := B3.cell 1 _ rfl
  have HB := Lib.hid B3; have HR := Lib.hid R3
  clear B3 R3
  cases e2 : inAll 1 8 [(n : Int)]
  · have HE := Lib.hid e2
    clear e2
    go_wp2_with fail
    go_ret
    exact ⟨by simp [validN, H1.out, ← HN.out, HE.out], hb4⟩
  have H2 := Lib.hid e2
  have hn8 := ((inAll_one _ _ _).1 e2).2
  clear e2
  go_upto_region 5 with fail
  go_cut [3] from 17 to 26 (fun g wx => g = .bool (inAll 1 16 [b.deb] && inAll 1 10000 [b.park]) ∧ Blk wx w.heap.size [.int .i64 b.fl, .int .i64 b.deb, .int .i64 b.room, .int .i64 b.park, .float .f64 b.em, .float .f64 b.fu, .float .f64 b.ov, .slice q n cap] ∧ RdC wx q b.cars ∧ Below w.heap.size w wx)
  case first =>
    go_wp2_with fail
    refine (within_new 1 16 _ [b.deb] _ _ _ _ rfl rfl rfl (by simp)).mono ?_
    rintro e w5 ⟨rfl, hb5⟩
    have B5 := HB.out.next hb5; have R5 := HR.out.next hb5
    have hb6 := hb4.trans (hb5.mono hb4.size)
    clear HB HR hb5 hb4 k1
    have k3 := B5.cell 3 _ rfl
    have HB := Lib.hid B5; have HR := Lib.hid R5
    clear B5 R5
    cases e3 : inAll 1 16 [b.deb]
    · have HE := Lib.hid e3
      go_wp2_with fail
      go_meet
      exact ⟨by simp [HE.out], HB.out, HR.out, hb6⟩
    · have HE := Lib.hid e3
      go_wp2_with fail
      refine (within_new 1 10000 _ [b.park] _ _ _ _ rfl rfl rfl (by simp)).mono ?_
      rintro e w7 ⟨rfl, hb7⟩
      go_wp2_with fail
      go_meet
      exact ⟨by simp [HE.out], HB.out.next hb7, HR.out.next hb7, hb6.trans (hb7.mono hb6.size)⟩
  case rest =>
    obtain ⟨rfl, B5, R5, hb6⟩ := hcut
    rename_i wx
    have k7 := B5.cell 7 _ rfl
    have g0 : (inAll 1 16 [b.deb] && inAll 1 10000 [b.park]) = goodB b 0 := by simp [goodB]
    rw [g0]
    have HB := Lib.hid B5; have HR := Lib.hid R5; have HW := Lib.hid hb6
    clear B5 R5 hb6 g0
    go_wp2_with fail
    go_loopw [30, 3] (fun v g wr => ∃ i : Nat, i ≤ n ∧ v = .int .i64 i ∧ g = .bool (goodB b i) ∧ Blk wr w.heap.size [.int .i64 b.fl, .int .i64 b.deb, .int .i64 b.room, .int .i64 b.park, .float .f64 b.em, .float .f64 b.fu, .float .f64 b.ov, .slice q n cap] ∧ RdC wr q b.cars ∧ Below w.heap.size w wr) (fun v _ _ => n - (intOf v).toNat)
    case atStart => exact ⟨0, by omega, rfl, rfl, HB.out, HR.out, HW.out⟩
    case round =>
      obtain ⟨i, hi, rfl, rfl, B, R, hb⟩ := hrel
      have hsz := hb.size
      by_cases hlt : i < n
      · have hd : decide ((i : Int) < (n : Int)) = true := by simp; omega
        obtain ⟨c, hc⟩ : ∃ c, b.cars[i]? = some c := ⟨_, List.getElem?_eq_getElem (by rw [← HN.out]; exact hlt)⟩
        obtain ⟨A, rfl, hA, hcell⟩ := R i c hc
        have hgood := goodB_succ b i c hc
        have c0 : wr.cell? (A.add (i * 9)) = some (.int .i64 c.dl) := hcell 0 _ rfl
        have hup : ∀ j u, c.cells[j + 1]? = some u → wr.cell? ⟨(A.add (i * 9)).block, (A.add (i * 9)).off + (j + 1), none⟩ = some u := fun j u hu => by rw [← addr_one]; exact hcell (j + 1) u hu
        have c1 : wr.cell? ⟨(A.add (i * 9)).block, (A.add (i * 9)).off + 1, none⟩ = some (.int .i64 c.pu) := hup 0 _ rfl
        have c2 : wr.cell? ⟨(A.add (i * 9)).block, (A.add (i * 9)).off + 2, none⟩ = some (.int .i64 c.qu) := hup 1 _ rfl
        have c3 : wr.cell? ⟨(A.add (i * 9)).block, (A.add (i * 9)).off + 3, none⟩ = some (.int .i64 c.sl) := hup 2 _ rfl
        have c4 : wr.cell? ⟨(A.add (i * 9)).block, (A.add (i * 9)).off + 4, none⟩ = some (.int .i64 c.st) := hup 3 _ rfl
        have c5 : wr.cell? ⟨(A.add (i * 9)).block, (A.add (i * 9)).off + 5, none⟩ = some (.int .i64 c.tr) := hup 4 _ rfl
        have c6 : wr.cell? ⟨(A.add (i * 9)).block, (A.add (i * 9)).off + 6, none⟩ = some (.int .i64 c.dw) := hup 5 _ rfl
        have c7 : wr.cell? ⟨(A.add (i * 9)).block, (A.add (i * 9)).off + 7, none⟩ = some (.int .i64 c.ho) := hup 6 _ rfl
        have c8 : wr.cell? ⟨(A.add (i * 9)).block, (A.add (i * 9)).off + 8, none⟩ = some (.int .i64 c.hm) := hup 7 _ rfl
        have hbe := below1' wr (.cells #[.int .i64 c.dl, .int .i64 c.pu, .int .i64 c.qu, .int .i64 c.sl, .int .i64 c.st, .int .i64 c.tr, .int .i64 c.dw, .int .i64 c.ho, .int .i64 c.hm] 40)
        have B2 := B.next hbe
        have R2 := R.next hbe
        have k0 : (wr.alloc (.cells #[.int .i64 c.dl, .int .i64 c.pu, .int .i64 c.qu, .int .i64 c.sl, .int .i64 c.st, .int .i64 c.tr, .int .i64 c.dw, .int .i64 c.ho, .int .i64 c.hm] 40)).cell? ⟨w.heap.size, 0, none⟩ = some (.int .i64 b.fl) := B2.cell 0 _ rfl
        have HG := Lib.hid hgood; have H3 := Lib.hid B2; have H4 := Lib.hid R2; have H5 := Lib.hid (hb.trans (hbe.mono hsz))
        clear hc hcell hup hgood B R B2 R2 hb hA hbe
        cases e3 : goodB b i
        · have HE := Lib.hid e3
          go_wp2_with fail
          exact ⟨⟨i + 1, by omega, by go_num, by rw [HG.out, HE.out]; rfl, H3.out, H4.out, H5.out⟩, by simp [intOf]; omega⟩
        · have HE := Lib.hid e3
          go_wp2_with fail
          refine (times_any c b.fl _ hf2 hf32).mono ?_
          rintro e w7 ⟨rfl, hb7⟩
          clear c0 c1 c2 c3 c4 c5 c6 c7 c8 k0
          go_wp2_with fail
          exact ⟨⟨i + 1, by omega, by go_num, by rw [HG.out, HE.out]; rfl, H3.out.next hb7, H4.out.next hb7, H5.out.trans (hb7.mono H5.out.size)⟩, by simp [intOf]; omega⟩
      · have e1 : decide ((i : Int) < (n : Int)) = false := by simp; omega
        obtain rfl : i = n := by omega
        have HV : validN b = if goodB b i = false then 12 else if loadsB b = false then 13 else if inAll (18 * (i : Int) + 24) 65536 [b.room] = false then 14 else 0 := by
          have h2 := H2.out
          rw [HN.out] at h2 ⊢
          simp [validN, H1.out, h2]
        have HVH := Lib.hid HV
        have k0 := B.cell 0 _ rfl; have k1 := B.cell 1 _ rfl; have k2 := B.cell 2 _ rfl; have k3 := B.cell 3 _ rfl
        have k4 := B.cell 4 _ rfl; have k5 := B.cell 5 _ rfl; have k6 := B.cell 6 _ rfl; have k7' := B.cell 7 _ rfl
        have HB2 := Lib.hid B; have HB3 := Lib.hid hb
        clear HV B R hb
        cases e4 : goodB b i
        · have HE := Lib.hid e4
          go_wp2_with fail
          go_ret
          exact ⟨by rw [HVH.out, HE.out]; rfl, HB3.out⟩
        · have HE := Lib.hid e4
          go_wp2_with fail
          refine (loads_any b q i cap _).mono ?_
          rintro e w8 ⟨rfl, hb8⟩
          have B8 := HB2.out.next hb8
          have hb9 := HB3.out.trans (hb8.mono hsz)
          clear k0 k1 k2 k3 k4 k5 k6 k7 k7' hb8
          have k2 := B8.cell 2 _ rfl; have k7 := B8.cell 7 _ rfl
          clear B8
          cases e5 : loadsB b
          · have HE5 := Lib.hid e5
            go_wp2_with fail
            go_ret
            exact ⟨by rw [HVH.out, HE.out, HE5.out]; rfl, hb9⟩
          · have HE5 := Lib.hid e5
            go_wp2_with fail
            refine (within_new (18 * (i : Int) + 24) 65536 _ [b.room] _ _ _ _ rfl rfl rfl (by simp)).mono ?_
            rintro e w10 ⟨rfl, hb10⟩
            have hb11 := hb9.trans (hb10.mono hb9.size)
            clear k2 k7
            cases e6 : inAll (18 * (i : Int) + 24) 65536 [b.room]
            · have HE6 := Lib.hid e6
              go_wp2_with fail
              go_ret
              exact ⟨by rw [HVH.out, HE.out, HE5.out, HE6.out]; rfl, hb11⟩
            · have HE6 := Lib.hid e6
              go_wp2_with fail
              go_ret
              exact ⟨by rw [HVH.out, HE.out, HE5.out, HE6.out]; rfl, hb11⟩
end Go.Proofs.Ytfmmiafdlfdfoaa
