/- The collective rule on Booleans, and how its decisions bring a car nearer to a call: plain laws. Conditions: none. · The walks over the lists of calls: the list of a set, in the code and in its reference. Conditions: none. -/
import Derived.Test.YtfmmiafdlfdfoaaZCalls
import Derived.OneCell
namespace Go.Proofs.Ytfmmiafdlfdfoaa
namespace Rel
def moveC (d : Int) : Int × Int × Int := if d = 1 then (1, 1, 0) else if d = 2 then (2, 2, 0) else (0, 0, 0)
def openC (d : Int) : Int × Int × Int := (3, d, d)
def sweepC (dir back : Int) (car same other ahead behind : Bool) : (Int × Int × Int) × Bool :=
  if (car || same) && (same || ahead) then (openC dir, true)
  else if car && (other || behind) then (openC back, true)
  else if car then (openC 0, true)
  else if ahead then (moveC dir, true)
  else ((0, 0, 0), false)
def turnC (back : Int) (other behind : Bool) : Int × Int × Int := if other then openC back else if behind then moveC back else (0, 0, 0)
def chooseC (r : Int) (up down car above below : Bool) (near : Int) : Int × Int × Int :=
  if r = 1 then (if (sweepC 1 2 car up down above below).2 then (sweepC 1 2 car up down above below).1 else turnC 2 down below)
  else if r = 2 then (if (sweepC 2 1 car down up below above).2 then (sweepC 2 1 car down up below above).1 else turnC 1 up above)
  else if up then openC 1 else if down then openC 2 else if car then openC near else moveC near
/-- Bit k of a small number. -/
def bt (o : Int) (k : Int) : Bool := if k = 0 then o % 2 == 1 else if k = 1 then o / 2 % 2 == 1 else o / 4 % 2 == 1
def orB (o k : Int) : Int := if bt o k then o else o + (if k = 0 then 1 else if k = 1 then 2 else 4)
def cntB (o : Int) (cb ub db A B : Bool) : Int := if !A && !B && (!cb || o != 0) && (!ub || bt o 1) && (!db || bt o 2) then 0 else o
/-- What comes of a decision: what is done, the direction behind it, what is shown; Opened behind it. -/
def decC (r o : Int) (cb ub db A B : Bool) (near : Int) : (Int × Int × Int) × Int :=
  let c := cntB o cb ub db A B
  let x := chooseC r (ub && !bt c 1) (db && !bt c 2) (cb && c == 0) A B near
  (x, if x.1 = 3 then orB c x.2.2 else 0)
/-- The number of openings that are left here. -/
def leftO (o : Int) : Int := (if bt o 0 then 0 else 1) + (if bt o 1 then 0 else 1) + (if bt o 2 then 0 else 1)
/-- rel 0: the call lies ahead in its own direction t; 1: here; 2: behind. -/
def outOk (t r o : Int) (A B : Bool) (rel : Int) (x : (Int × Int × Int) × Int) : Bool :=
  let AH := if t == 1 then A else B
  let BH := if t == 1 then B else A
  let mk := bt o t
  let d := x.1.2.1
  (x.1.1 == 3 && x.1.2.2 == d && ((rel == 1 && d == t)
      || (d != 0 && leftO x.2 + 1 == leftO o && bt x.2 t == (bt o t || d == t) && (if d == t then rel != 1 && (r == t || r == 0 || rel == 0) else (r != t || rel == 2 || (rel == 1 && mk))))
      || (rel == 1 && mk && d == 3 - t && r != t && leftO x.2 == 2 && !bt x.2 t)))
  || (x.1.1 == d && d != 0 && x.2 == 0 && (if d == t then AH && (r == 0 || (if r == t then rel != 1 || mk else rel == 0 || (rel == 1 && mk)))
      else BH && (r != t || rel == 2 || (rel == 1 && mk))))
def allB (f : Bool → Bool) : Bool := f true && f false
theorem allB_iff {f : Bool → Bool} : allB f = true ↔ ∀ b, f b = true := by
  unfold allB; constructor
  · intro h b; simp at h; cases b <;> simp [h]
  · intro h; simp [h]
def pre (t : Int) (ub db A B : Bool) (near rel : Int) : Bool :=
  (if rel == 0 then (if t == 1 then A else B) else if rel == 1 then (if t == 1 then ub else db) else (if t == 1 then B else A))
  && (near != 1 || A) && (near != 2 || B) && (!(A || B) || near != 0)
def check1 (t r o near rel : Int) : Bool :=
  allB fun cb => allB fun ub => allB fun db => allB fun A => allB fun B => !pre t ub db A B near rel || outOk t r o A B rel (decC r o cb ub db A B near)
def checkAll : Bool := [1, 2].all fun t => [0, 1, 2].all fun r => [0, 1, 2, 3, 4, 5, 6, 7].all fun o => [0, 1, 2].all fun near => [0, 1, 2].all fun rel => check1 t r o near rel
theorem checkAll_true : checkAll = true := by decide +kernel
theorem dec_ok {t r o near rel : Int} {cb ub db A B : Bool} (ht : t = 1 ∨ t = 2) (hr : r = 0 ∨ r = 1 ∨ r = 2) (ho : 0 ≤ o ∧ o ≤ 7) (hn : near = 0 ∨ near = 1 ∨ near = 2) (hl : rel = 0 ∨ rel = 1 ∨ rel = 2) (hp : pre t ub db A B near rel = true) : outOk t r o A B rel (decC r o cb ub db A B near) = true := by
  have h := checkAll_true
  unfold checkAll at h
  rw [List.all_eq_true] at h
  have h1 := h t (by simp; exact ht)
  rw [List.all_eq_true] at h1
  have h2 := h1 r (by simp; exact hr)
  rw [List.all_eq_true] at h2
  have h3 := h2 o (by simp; omega)
  rw [List.all_eq_true] at h3
  have h4 := h3 near (by simp; exact hn)
  rw [List.all_eq_true] at h4
  have h5 := h4 rel (by simp; exact hl)
  unfold check1 at h5
  have h6 := allB_iff.1 (allB_iff.1 (allB_iff.1 (allB_iff.1 (allB_iff.1 h5 cb) ub) db) A) B
  rw [hp] at h6
  simpa using h6
/-- How many floors the car passes at most until it stands at y in the direction t. -/
def rank (M x y r t o : Int) : Int :=
  if r = 0 then 2 * M + 1 else if r = t then (if x < y ∨ (x = y ∧ bt o t = false) then y - x else 2 * M - x + y) else if x = y ∧ bt o t = true then 2 * M else x + y
theorem rank_range {M x y r t o : Int} (hx : 0 ≤ x ∧ x ≤ M) (hy : 0 ≤ y ∧ y < M) : 0 ≤ rank M x y r t o ∧ rank M x y r t o ≤ 2 * M + 1 := by
  unfold rank
  repeat' split
  all_goals omega
theorem left_range (o : Int) : 0 ≤ leftO o ∧ leftO o ≤ 3 := by
  unfold leftO
  cases bt o 0 <;> cases bt o 1 <;> cases bt o 2 <;> simp
def relOf (x y : Int) : Int := if x < y then 0 else if x = y then 1 else 2
theorem bt_zero (k : Int) : bt 0 k = false := by
  unfold bt
  split
  · rfl
  · split <;> rfl
theorem rel_lt {x y : Int} (h : x < y) : relOf x y = 0 := if_pos h
theorem rel_eq {x y : Int} (h : x = y) : relOf x y = 1 := by unfold relOf; rw [if_neg (by omega), if_pos h]
theorem rel_gt {x y : Int} (h : y < x) : relOf x y = 2 := by unfold relOf; rw [if_neg (by omega), if_neg (by omega)]
/-- A decision to open, elsewhere or in the other direction: the rank falls, or an opening less is left. -/
theorem rank_open {M x y t r o : Int} {A B : Bool} {z : (Int × Int × Int) × Int} (ht : t = 1 ∨ t = 2) (hr : r = 0 ∨ r = 1 ∨ r = 2) (hx : 0 ≤ x ∧ x ≤ M) (hy : 0 ≤ y ∧ y < M) (h : outOk t r o A B (relOf x y) z = true) (h3 : z.1.1 = 3) (hz : z.1.2.1 = 0 ∨ z.1.2.1 = 1 ∨ z.1.2.1 = 2) (hns : ¬ (x = y ∧ z.1.2.1 = t)) :
    z.1.2.2 = z.1.2.1 ∧ z.1.2.1 ≠ 0 ∧ ((rank M x y z.1.2.1 t z.2 ≤ rank M x y r t o ∧ leftO z.2 + 1 = leftO o) ∨ (rank M x y z.1.2.1 t z.2 + 1 ≤ rank M x y r t o ∧ leftO z.2 ≤ 2)) := by
  obtain ⟨⟨q, d, s⟩, o2⟩ := z
  simp only at h3 hz hns ⊢
  subst h3
  unfold outOk at h
  simp only at h
  generalize leftO o2 = l2 at *
  generalize leftO o = l1 at *
  unfold rank
  cases hbo : bt o t <;> cases hbo2 : bt o2 t <;> simp only [hbo, hbo2] at h ⊢ <;> clear hbo hbo2
  all_goals
    rcases Int.lt_trichotomy x y with e | e | e
    · rw [rel_lt e] at h
      have n1 : ¬ x = y := by omega
      rcases ht with rfl | rfl <;> rcases hr with rfl | rfl | rfl <;> rcases hz with rfl | rfl | rfl <;> simp [e, n1] at h ⊢ <;> omega
    · rw [rel_eq e] at h
      have n1 : ¬ x < y := by omega
      rcases ht with rfl | rfl <;> rcases hr with rfl | rfl | rfl <;> rcases hz with rfl | rfl | rfl <;> simp [e] at h hns ⊢ <;> omega
    · rw [rel_gt e] at h
      have n1 : ¬ x = y := by omega
      have n2 : ¬ x < y := by omega
      rcases ht with rfl | rfl <;> rcases hr with rfl | rfl | rfl <;> rcases hz with rfl | rfl | rfl <;> simp [n1, n2] at h ⊢ <;> omega
/-- A decision to move: the rank falls. -/
theorem rank_move {M x y t r o : Int} {A B : Bool} {z : (Int × Int × Int) × Int} (ht : t = 1 ∨ t = 2) (hr : r = 0 ∨ r = 1 ∨ r = 2) (hx : 0 ≤ x ∧ x ≤ M) (hy : 0 ≤ y ∧ y < M) (h : outOk t r o A B (relOf x y) z = true) (h3 : z.1.1 ≠ 3) (hz : z.1.2.1 = 0 ∨ z.1.2.1 = 1 ∨ z.1.2.1 = 2) :
    z.1.1 = z.1.2.1 ∧ z.1.2.1 ≠ 0 ∧ z.2 = 0 ∧ (if z.1.2.1 = t then (if t = 1 then A else B) = true ∧ (x < M → rank M (x + 1) y t t 0 + 1 ≤ rank M x y r t o) else (if t = 1 then B else A) = true ∧ (0 < x → rank M (x - 1) y z.1.2.1 t 0 + 1 ≤ rank M x y r t o)) := by
  obtain ⟨⟨q, d, s⟩, o2⟩ := z
  simp only at h3 hz ⊢
  unfold outOk at h
  simp only at h
  have h3b : (q == 3) = false := by simpa using h3
  rw [h3b] at h
  generalize leftO o2 = l2 at *
  generalize leftO o = l1 at *
  unfold rank
  rw [bt_zero]
  cases hbo : bt o t <;> cases hbo2 : bt o2 t <;> simp only [hbo, hbo2] at h ⊢ <;> clear hbo hbo2 h3b
  all_goals
    rcases Int.lt_trichotomy x y with e | e | e
    · rw [rel_lt e] at h
      have n1 : ¬ x = y := by omega
      rcases ht with rfl | rfl <;> rcases hr with rfl | rfl | rfl <;> rcases hz with rfl | rfl | rfl <;> simp [e, n1] at h ⊢ <;> (first | omega | (refine ⟨by omega, by omega, by simp_all, fun _ => ?_⟩; (repeat' split) <;> omega))
    · rw [rel_eq e] at h
      have n1 : ¬ x < y := by omega
      rcases ht with rfl | rfl <;> rcases hr with rfl | rfl | rfl <;> rcases hz with rfl | rfl | rfl <;> simp [e] at h ⊢ <;> (first | omega | (refine ⟨by omega, by omega, by simp_all, fun _ => ?_⟩; (repeat' split) <;> omega))
    · rw [rel_gt e] at h
      have n1 : ¬ x = y := by omega
      have n2 : ¬ x < y := by omega
      rcases ht with rfl | rfl <;> rcases hr with rfl | rfl | rfl <;> rcases hz with rfl | rfl | rfl <;> simp [n1, n2] at h ⊢ <;> (first | omega | (refine ⟨by omega, by omega, by simp_all, fun _ => ?_⟩; (repeat' split) <;> omega))
end Rel
end Go.Proofs.Ytfmmiafdlfdfoaa
namespace Go.Proofs.Ytfmmiafdlfdfoaa
open Go.RowKit

/-- The cells of an entry that is no car's. -/
def entC (p : Int × Int) : List Value := [.int .i64 p.1, .int .i64 p.2, .int .i64 (-1), .int .i64 0, .bool false]
def item (c : CS) (f d : Int) : List (Int × Int) := if has c f d then [(f, d)] else []
def rowOf (c : CS) (f : Nat) : List (Int × Int) := item c f 1 ++ item c f 2
def listTo (c : CS) (k : Nat) : List (Int × Int) := (List.range k).flatMap (rowOf c)
def listC (c : CS) : List (Int × Int) := listTo c 32
def part (c : CS) (k : Nat) : Nat → List (Int × Int)
  | 0 => listTo c k
  | 1 => listTo c k ++ item c k 1
  | _ => listTo c (k + 1)
def cells (l : List (Int × Int)) : List Value := l.flatMap entC
theorem cells_len (l : List (Int × Int)) : (cells l).length = l.length * 5 := by
  induction l with
  | nil => rfl
  | cons p l ih => simp only [cells, List.flatMap_cons, List.length_append, List.length_cons] at *; rw [ih]; simp [entC]; omega
theorem listTo_succ (c : CS) (k : Nat) : listTo c (k + 1) = listTo c k ++ item c k 1 ++ item c k 2 := by
  simp [listTo, List.range_succ, rowOf]
theorem item_len (c : CS) (f d : Int) : (item c f d).length ≤ 1 := by unfold item; split <;> simp
theorem listTo_len (c : CS) (k : Nat) : (listTo c k).length ≤ 2 * k := by
  induction k with
  | zero => simp [listTo]
  | succ k ih =>
    rw [listTo_succ, List.length_append, List.length_append]
    have := item_len c k 1; have := item_len c k 2
    omega
theorem part_len (c : CS) (k j : Nat) : (part c k j).length ≤ 2 * k + 2 := by
  have h1 := listTo_len c k; have h2 := listTo_len c (k + 1); have h3 := item_len c k 1
  unfold part
  split
  · omega
  · simp; omega
  · omega
theorem part_yes (c : CS) (k j : Nat) (hj : j < 2) (h : has c k ((j : Int) + 1) = true) : part c k (j + 1) = part c k j ++ [((k : Int), (j : Int) + 1)] := by
  match j, hj with
  | 0, _ => simp only [part, item]; rw [if_pos (by simpa using h)]; rfl
  | 1, _ => simp only [part, listTo_succ]; congr 1; rw [item, if_pos (by simpa using h)]; rfl
theorem part_no (c : CS) (k j : Nat) (hj : j < 2) (h : has c k ((j : Int) + 1) = false) : part c k (j + 1) = part c k j := by
  match j, hj with
  | 0, _ => simp only [part, item]; rw [if_neg (by simpa using h), List.append_nil]
  | 1, _ => simp only [part, listTo_succ]; rw [item.eq_def c k 2, if_neg (by simpa using h), List.append_nil]
theorem cells_snoc (l : List (Int × Int)) (p : Int × Int) : cells (l ++ [p]) = cells l ++ entC p := by simp [cells]

theorem ownsRow_later {w w' : World} {base : Nat} {e : TypeId} {size : Nat} {v : Value} {n : Nat} {xs : List Value} (h : w.ownsRow base e size v n xs) (hb : Below w.heap.size w w') : w'.ownsRow base e size v n xs := by
  obtain ⟨h1, h2⟩ := h
  refine ⟨h1, ?_⟩
  rcases h2 with h2 | ⟨g, cap, cur, hv, hg, hh, r⟩
  · exact .inl h2
  · exact .inr ⟨g, cap, cur, hv, hg, by rw [hb.block g (Array.getElem?_eq_some_iff.1 hh).1]; exact hh, r⟩
theorem entC_one (p : Int × Int) : ∀ u ∈ entC p, u.oneCell' = true := by
  intro u hu
  simp only [entC, List.mem_cons, List.not_mem_nil, or_false] at hu
  rcases hu with rfl | rfl | rfl | rfl | rfl <;> rfl
theorem ent_new (w : World) (p : Int × Int) (t : TypeId) : ∀ j u, (entC p)[j]? = some u → (w.alloc (.cells #[.int .i64 p.1, .int .i64 p.2, .int .i64 (-1), .int .i64 0, .bool false] t)).cell? ((⟨w.heap.size, 0, none⟩ : Addr).add j) = some u := by
  intro j u hu
  have hj : j < 5 := (List.getElem?_eq_some_iff.1 hu).1
  rw [Addr.add_lit]
  match j, hj with
  | 0, _ | 1, _ | 2, _ | 3, _ | 4, _ => simp [entC] at hu; subst hu; simp [World.cell?, World.alloc, -World.alloc_eq]
theorem infoE : (Try.prog.info? 53).map (fun i => (i.zero, i.size, i.bytes)) = some (some (.agg #[.int .i64 0, .int .i64 0, .int .i64 0, .int .i64 0, .bool false]), 5, 40) := by kernel_rfl

set_option maxHeartbeats 2000000 in
set_option maxRecDepth 100000 in
theorem refList_any (c : CS) (w : World) :
    Calls Try.prog 19 #[cv c] w fun e w' => ∃ v, e = .returned v ∧ w'.ownsRow (w.heap.size + 1) 53 5 v (listC c).length (cells (listC c)) ∧ Below w.heap.size w w' := by
  obtain ⟨i0, hi, hz0, hz1, hz2⟩ := info_parts infoE
  have hb0 := below1 w (.cells #[.int .u32 (c.1.toNat : Int), .int .u32 (c.2.toNat : Int)] 45)
  have q0 := cell2_0 w (.int .u32 (c.1.toNat : Int)) (.int .u32 (c.2.toNat : Int)) 45
  have q1 := cell2_1 w (.int .u32 (c.1.toNat : Int)) (.int .u32 (c.2.toNat : Int)) 45
  have hz : (w.alloc (.cells #[.int .u32 (c.1.toNat : Int), .int .u32 (c.2.toNat : Int)] 45)).heap.size = w.heap.size + 1 := by simp
  have Hi := Lib.hid hi; have Hz0 := Lib.hid hz0; have Hz1 := Lib.hid hz1; have Hz2 := Lib.hid hz2
  clear hi hz0 hz1 hz2
  go_enter Try.func19, Try.ntmps19
  go_wp2_with fail
  generalize w.alloc (.cells #[.int .u32 (c.1.toNat : Int), .int .u32 (c.2.toNat : Int)] 45) = w0 at *
  have Hw := Lib.hid hz; clear hz
  go_loopw [3, 4] (fun v f wr => ∃ k : Nat, k ≤ 32 ∧ f = .int .i64 k ∧ wr.ownsRow (w.heap.size + 1) 53 5 v (listTo c k).length (cells (listTo c k)) ∧ Below (w.heap.size + 1) w0 wr) (fun _ f _ => 32 - (intOf f).toNat)
  case atStart => exact ⟨0, by omega, rfl, World.ownsRow_nil _ _ _ _, Below.refl _ _⟩
  case round =>
    obtain ⟨k, hk, rfl, hown, hb⟩ := hrel
    by_cases hlt : k < 32
    · have hd : decide ((k : Int) < 32) = true := by simp; omega
      go_wp2_with fail
      obtain ⟨wo, rfl⟩ : ∃ wo : World, wo = wr := ⟨_, rfl⟩
      go_loopw [3, 5] (fun v d wr => ∃ j : Nat, j ≤ 2 ∧ d = .int .i64 ((j : Int) + 1) ∧ wr.ownsRow (w.heap.size + 1) 53 5 v (part c k j).length (cells (part c k j)) ∧ Below (w.heap.size + 1) w0 wr) (fun _ d _ => 4 - (intOf d).toNat)
      case atStart => exact ⟨0, by omega, rfl, hown, hb⟩
      case round =>
        obtain ⟨j, hj, rfl, hown, hb⟩ := hrel
        by_cases hj2 : j < 2
        · have r0 : wr.cell? ⟨w.heap.size, 0, none⟩ = some (.int .u32 (c.1.toNat : Int)) := by rw [hb.cell (by simp)]; exact q0
          have r1 : wr.cell? ⟨w.heap.size, 1, none⟩ = some (.int .u32 (c.2.toNat : Int)) := by rw [hb.cell (by simp)]; exact q1
          go_wp2_with fail
          refine (refHas_any c k ((j : Int) + 1) _).mono ?_
          rintro e w1 ⟨rfl, hb1⟩
          have hown1 := ownsRow_later hown hb1
          have hb2 := hb.trans (hb1.mono (by have := hb.size; have := Hw.out; omega))
          clear hown hb r0 r1
          cases hh : has c k ((j : Int) + 1)
          · have hp := part_no c k j hj2 hh
            have Hp := Lib.hid hp
            clear hp hh
            go_wp2_with fail
            exact ⟨⟨j + 1, by omega, by go_num, by rw [Hp.out]; exact hown1, hb2⟩, by simp [intOf]; omega⟩
          · have hp := part_yes c k j hj2 hh
            have hpl := part_len c k j
            have Hp := Lib.hid hp; have Hown := Lib.hid hown1; have Hb := Lib.hid hb2
            clear hp hh hown1 hb2
            have hsz : w.heap.size + 1 ≤ w1.heap.size := by have := Hb.out.size; have := Hw.out; omega
            go_wp2_with ((at_builtin; refine wpList_append_own _ rfl _ _ 41 rfl (w.heap.size + 1) 53 i0 (.agg #[.int .i64 0, .int .i64 0, .int .i64 0, .int .i64 0, .bool false]) 5 40 Try.underlying41 Hi.out Hz0.out Hz1.out Hz2.out rfl (by decide) _ _ _ rfl (Hown.out.alloc _) ⟨w1.heap.size, 0, none⟩ 1 1 (entC ((k : Int), (j : Int) + 1)) rfl rfl (ent_new _ _ _) (entC_one _) (by unfold maxLen; omega) (by omega) (by simp; omega) ?_))
            intro v' w2 hown2 hg _
            have hb3 : Below (w.heap.size + 1) w0 w2 := (Hb.out.alloc hsz _).grown hg (by simp; omega) (fun q hq => (Hown.out.lt q hq).1)
            have hown3 : w2.ownsRow (w.heap.size + 1) 53 5 v' (part c k (j + 1)).length (cells (part c k (j + 1))) := by
              rw [Hp.out, cells_snoc, List.length_append]; exact hown2
            clear hown2 hg
            go_wp2_with fail
            exact ⟨⟨j + 1, by omega, by go_num, hown3, hb3⟩, by simp [intOf]; omega⟩
        · have hj3 : j = 2 := by omega
          subst hj3
          go_wp2_with fail
          exact ⟨⟨k + 1, by omega, by go_num, hown, hb⟩, by simp [intOf]; omega⟩
    · have hk3 : k = 32 := by omega
      subst hk3
      go_wp2_with fail
      go_ret
      exact ⟨_, rfl, hown, hb0.trans (hb.mono (by omega))⟩
end Go.Proofs.Ytfmmiafdlfdfoaa
