/- The walks over the lists of calls: the list of a set, in the code and in its reference. Conditions: none. · The walk over calls.List: a range over a function. Conditions: none. -/
import Derived.Test.YtpgcpalemnnbaaaZCalls
import Derived.OneCell
import Derived.RangeFuncNested
import Derived.RangeFuncBound
import Derived.RangeFuncCalls
import Derived.RangeFuncLeaves
import Derived.RangeFuncBox
import Derived.Shelf.Abstract
import Derived.Shelf.RegionOpen
import Derived.OwnWalkIn
import Derived.TacticsInMore
import Derived.LoopNIn
import Derived.LoopIn
import Derived.Maps.AppendAt
namespace Go.Proofs.Ytpgcpalemnnbaaa
open Go.RowKit

/-- The cells of an entry that is no car's. -/
def entC (p : Int × Int) : List Value := [.int .i64 p.1, .int .i64 p.2, .int .i64 (-1), .int .i64 0, .bool false]
def item (c : CS) (f d : Int) : List (Int × Int) := if has c f d then [(f, d)] else []
def rowOf (c : CS) (f : Nat) : List (Int × Int) := item c f 1 ++ item c f 2
def listTo (c : CS) (k : Nat) : List (Int × Int) := (List.range k).flatMap (rowOf c)
def listC (c : CS) : List (Int × Int) := listTo c 32
def part (c : CS) (k : Nat) : Nat → List (Int × Int)
  | 0 => listTo c k
  | 1 => listTo c k ++ item c k 1
  | _ => listTo c (k + 1)
def cells (l : List (Int × Int)) : List Value := l.flatMap entC
theorem cells_len (l : List (Int × Int)) : (cells l).length = l.length * 5 := by
  induction l with
  | nil => rfl
  | cons p l ih => simp only [cells, List.flatMap_cons, List.length_append, List.length_cons] at *; rw [ih]; simp [entC]; omega
theorem listTo_succ (c : CS) (k : Nat) : listTo c (k + 1) = listTo c k ++ item c k 1 ++ item c k 2 := by
  simp [listTo, List.range_succ, rowOf]
theorem item_len (c : CS) (f d : Int) : (item c f d).length ≤ 1 := by unfold item; split <;> simp
theorem listTo_len (c : CS) (k : Nat) : (listTo c k).length ≤ 2 * k := by
  induction k with
  | zero => simp [listTo]
  | succ k ih =>
    rw [listTo_succ, List.length_append, List.length_append]
    have := item_len c k 1; have := item_len c k 2
    omega
theorem part_len (c : CS) (k j : Nat) : (part c k j).length ≤ 2 * k + 2 := by
  have h1 := listTo_len c k; have h2 := listTo_len c (k + 1); have h3 := item_len c k 1
  unfold part
  split
  · omega
  · simp; omega
  · omega
theorem part_yes (c : CS) (k j : Nat) (hj : j < 2) (h : has c k ((j : Int) + 1) = true) : part c k (j + 1) = part c k j ++ [((k : Int), (j : Int) + 1)] := by
  match j, hj with
  | 0, _ => simp only [part, item]; rw [if_pos (by simpa using h)]; rfl
  | 1, _ => simp only [part, listTo_succ]; congr 1; rw [item, if_pos (by simpa using h)]; rfl
theorem part_no (c : CS) (k j : Nat) (hj : j < 2) (h : has c k ((j : Int) + 1) = false) : part c k (j + 1) = part c k j := by
  match j, hj with
  | 0, _ => simp only [part, item]; rw [if_neg (by simpa using h), List.append_nil]
  | 1, _ => simp only [part, listTo_succ]; rw [item.eq_def c k 2, if_neg (by simpa using h), List.append_nil]
theorem cells_snoc (l : List (Int × Int)) (p : Int × Int) : cells (l ++ [p]) = cells l ++ entC p := by simp [cells]

theorem ownsRow_later {w w' : World} {base : Nat} {e : TypeId} {size : Nat} {v : Value} {n : Nat} {xs : List Value} (h : w.ownsRow base e size v n xs) (hb : Below w.heap.size w w') : w'.ownsRow base e size v n xs := by
  obtain ⟨h1, h2⟩ := h
  refine ⟨h1, ?_⟩
  rcases h2 with h2 | ⟨g, cap, cur, hv, hg, hh, r⟩
  · exact .inl h2
  · exact .inr ⟨g, cap, cur, hv, hg, by rw [hb.block g (Array.getElem?_eq_some_iff.1 hh).1]; exact hh, r⟩
theorem entC_one (p : Int × Int) : ∀ u ∈ entC p, u.oneCell' = true := by
  intro u hu
  simp only [entC, List.mem_cons, List.not_mem_nil, or_false] at hu
  rcases hu with rfl | rfl | rfl | rfl | rfl <;> rfl
theorem ent_new (w : World) (p : Int × Int) (t : TypeId) : ∀ j u, (entC p)[j]? = some u → (w.alloc (.cells #[.int .i64 p.1, .int .i64 p.2, .int .i64 (-1), .int .i64 0, .bool false] t)).cell? ((⟨w.heap.size, 0, none⟩ : Addr).add j) = some u := by
  intro j u hu
  have hj : j < 5 := (List.getElem?_eq_some_iff.1 hu).1
  rw [Addr.add_lit]
  match j, hj with
  | 0, _ | 1, _ | 2, _ | 3, _ | 4, _ => simp [entC] at hu; subst hu; simp [World.cell?, World.alloc, -World.alloc_eq]
theorem infoE : (Try.prog.info? 80).map (fun i => (i.zero, i.size, i.bytes)) = some (some (.agg #[.int .i64 0, .int .i64 0, .int .i64 0, .int .i64 0, .bool false]), 5, 40) := by kernel_rfl

set_option maxHeartbeats 2000000 in
set_option maxRecDepth 100000 in
theorem refList_any (c : CS) (w : World) :
    Calls Try.prog 45 #[cv c] w fun e w' => ∃ v, e = .returned v ∧ w'.ownsRow (w.heap.size + 1) 80 5 v (listC c).length (cells (listC c)) ∧ Below w.heap.size w w' := by
  obtain ⟨i0, hi, hz0, hz1, hz2⟩ := info_parts infoE
  have hb0 := below1 w (.cells #[.int .u32 (c.1.toNat : Int), .int .u32 (c.2.toNat : Int)] 33)
  have q0 := cell2_0 w (.int .u32 (c.1.toNat : Int)) (.int .u32 (c.2.toNat : Int)) 33
  have q1 := cell2_1 w (.int .u32 (c.1.toNat : Int)) (.int .u32 (c.2.toNat : Int)) 33
  have hz : (w.alloc (.cells #[.int .u32 (c.1.toNat : Int), .int .u32 (c.2.toNat : Int)] 33)).heap.size = w.heap.size + 1 := by simp
  have Hi := Lib.hid hi; have Hz0 := Lib.hid hz0; have Hz1 := Lib.hid hz1; have Hz2 := Lib.hid hz2
  clear hi hz0 hz1 hz2
  go_enter Try.func45, Try.ntmps45
  go_wp2_with fail
  generalize w.alloc (.cells #[.int .u32 (c.1.toNat : Int), .int .u32 (c.2.toNat : Int)] 33) = w0 at *
  have Hw := Lib.hid hz; clear hz
  go_loopw [3, 4] (fun v f wr => ∃ k : Nat, k ≤ 32 ∧ f = .int .i64 k ∧ wr.ownsRow (w.heap.size + 1) 80 5 v (listTo c k).length (cells (listTo c k)) ∧ Below (w.heap.size + 1) w0 wr) (fun _ f _ => 32 - (intOf f).toNat)
  case atStart => exact ⟨0, by omega, rfl, World.ownsRow_nil _ _ _ _, Below.refl _ _⟩
  case round =>
    obtain ⟨k, hk, rfl, hown, hb⟩ := hrel
    by_cases hlt : k < 32
    · have hd : decide ((k : Int) < 32) = true := by simp; omega
      go_wp2_with fail
      obtain ⟨wo, rfl⟩ : ∃ wo : World, wo = wr := ⟨_, rfl⟩
      go_loopw [3, 5] (fun v d wr => ∃ j : Nat, j ≤ 2 ∧ d = .int .i64 ((j : Int) + 1) ∧ wr.ownsRow (w.heap.size + 1) 80 5 v (part c k j).length (cells (part c k j)) ∧ Below (w.heap.size + 1) w0 wr) (fun _ d _ => 4 - (intOf d).toNat)
      case atStart => exact ⟨0, by omega, rfl, hown, hb⟩
      case round =>
        obtain ⟨j, hj, rfl, hown, hb⟩ := hrel
        by_cases hj2 : j < 2
        · have r0 : wr.cell? ⟨w.heap.size, 0, none⟩ = some (.int .u32 (c.1.toNat : Int)) := by rw [hb.cell (by simp)]; exact q0
          have r1 : wr.cell? ⟨w.heap.size, 1, none⟩ = some (.int .u32 (c.2.toNat : Int)) := by rw [hb.cell (by simp)]; exact q1
          go_wp2_with fail
          refine (refHas_any c k ((j : Int) + 1) _).mono ?_
          rintro e w1 ⟨rfl, hb1⟩
          have hown1 := ownsRow_later hown hb1
          have hb2 := hb.trans (hb1.mono (by have := hb.size; have := Hw.out; omega))
          clear hown hb r0 r1
          cases hh : has c k ((j : Int) + 1)
          · have hp := part_no c k j hj2 hh
            have Hp := Lib.hid hp
            clear hp hh
            go_wp2_with fail
            exact ⟨⟨j + 1, by omega, by go_num, by rw [Hp.out]; exact hown1, hb2⟩, by simp [intOf]; omega⟩
          · have hp := part_yes c k j hj2 hh
            have hpl := part_len c k j
            have Hp := Lib.hid hp; have Hown := Lib.hid hown1; have Hb := Lib.hid hb2
            clear hp hh hown1 hb2
            have hsz : w.heap.size + 1 ≤ w1.heap.size := by have := Hb.out.size; have := Hw.out; omega
            go_wp2_with ((at_builtin; refine wpList_append_own _ rfl _ _ 54 rfl (w.heap.size + 1) 80 i0 (.agg #[.int .i64 0, .int .i64 0, .int .i64 0, .int .i64 0, .bool false]) 5 40 Try.underlying54 Hi.out Hz0.out Hz1.out Hz2.out rfl (by decide) _ _ _ rfl (Hown.out.alloc _) ⟨w1.heap.size, 0, none⟩ 1 1 (entC ((k : Int), (j : Int) + 1)) rfl rfl (ent_new _ _ _) (entC_one _) (by unfold maxLen; omega) (by omega) (by simp; omega) ?_))
            intro v' w2 hown2 hg _
            have hb3 : Below (w.heap.size + 1) w0 w2 := (Hb.out.alloc hsz _).grown hg (by simp; omega) (fun q hq => (Hown.out.lt q hq).1)
            have hown3 : w2.ownsRow (w.heap.size + 1) 80 5 v' (part c k (j + 1)).length (cells (part c k (j + 1))) := by
              rw [Hp.out, cells_snoc, List.length_append]; exact hown2
            clear hown2 hg
            go_wp2_with fail
            exact ⟨⟨j + 1, by omega, by go_num, hown3, hb3⟩, by simp [intOf]; omega⟩
        · have hj3 : j = 2 := by omega
          subst hj3
          go_wp2_with fail
          exact ⟨⟨k + 1, by omega, by go_num, hown, hb⟩, by simp [intOf]; omega⟩
    · have hk3 : k = 32 := by omega
      subst hk3
      go_wp2_with fail
      go_ret
      exact ⟨_, rfl, hown, hb0.trans (hb.mono (by omega))⟩
end Go.Proofs.Ytpgcpalemnnbaaa
namespace Go.Proofs.Ytpgcpalemnnbaaa
open Go.RowKit Go.Shelf
attribute [local go_sem] Oper.semAt_some
end Go.Proofs.Ytpgcpalemnnbaaa
