/- The walks over the lists of calls: the list of a set, in the code and in its reference. Conditions: none. · The walk over calls.List: a range over a function. Conditions: none. -/
import Derived.Test.YtgoojlfpngmdlaaZCalls
import Derived.OneCell
import Derived.RangeFuncNested
import Derived.RangeFuncBound
import Derived.RangeFuncCalls
import Derived.RangeFuncLeaves
import Derived.RangeFuncBox
import Derived.Shelf.Abstract
import Derived.Shelf.RegionOpen
import Derived.OwnWalkIn
import Derived.TacticsInMore
import Derived.LoopNIn
import Derived.LoopIn
import Derived.Maps.AppendAt
namespace Go.Proofs.Ytgoojlfpngmdlaa
open Go.RowKit

/-- The cells of an entry that is no car's. -/
def entC (p : Int × Int) : List Value := [.int .i64 p.1, .int .i64 p.2, .int .i64 (-1), .int .i64 0, .bool false]
def item (c : CS) (f d : Int) : List (Int × Int) := if has c f d then [(f, d)] else []
def rowOf (c : CS) (f : Nat) : List (Int × Int) := item c f 1 ++ item c f 2
def listTo (c : CS) (k : Nat) : List (Int × Int) := (List.range k).flatMap (rowOf c)
def listC (c : CS) : List (Int × Int) := listTo c 32
def part (c : CS) (k : Nat) : Nat → List (Int × Int)
  | 0 => listTo c k
  | 1 => listTo c k ++ item c k 1
  | _ => listTo c (k + 1)
def cells (l : List (Int × Int)) : List Value := l.flatMap entC
theorem cells_len (l : List (Int × Int)) : (cells l).length = l.length * 5 := by
  induction l with
  | nil => rfl
  | cons p l ih => simp only [cells, List.flatMap_cons, List.length_append, List.length_cons] at *; rw [ih]; simp [entC]; omega
theorem listTo_succ (c : CS) (k : Nat) : listTo c (k + 1) = listTo c k ++ item c k 1 ++ item c k 2 := by
  simp [listTo, List.range_succ, rowOf]
theorem item_len (c : CS) (f d : Int) : (item c f d).length ≤ 1 := by unfold item; split <;> simp
theorem listTo_len (c : CS) (k : Nat) : (listTo c k).length ≤ 2 * k := by
  induction k with
  | zero => simp [listTo]
  | succ k ih =>
    rw [listTo_succ, List.length_append, List.length_append]
    have := item_len c k 1; have := item_len c k 2
    omega
theorem part_len (c : CS) (k j : Nat) : (part c k j).length ≤ 2 * k + 2 := by
  have h1 := listTo_len c k; have h2 := listTo_len c (k + 1); have h3 := item_len c k 1
  unfold part
  split
  · omega
  · simp; omega
  · omega
theorem part_yes (c : CS) (k j : Nat) (hj : j < 2) (h : has c k ((j : Int) + 1) = true) : part c k (j + 1) = part c k j ++ [((k : Int), (j : Int) + 1)] := by
  match j, hj with
  | 0, _ => simp only [part, item]; rw [if_pos (by simpa using h)]; rfl
  | 1, _ => simp only [part, listTo_succ]; congr 1; rw [item, if_pos (by simpa using h)]; rfl
theorem part_no (c : CS) (k j : Nat) (hj : j < 2) (h : has c k ((j : Int) + 1) = false) : part c k (j + 1) = part c k j := by
  match j, hj with
  | 0, _ => simp only [part, item]; rw [if_neg (by simpa using h), List.append_nil]
  | 1, _ => simp only [part, listTo_succ]; rw [item.eq_def c k 2, if_neg (by simpa using h), List.append_nil]
theorem cells_snoc (l : List (Int × Int)) (p : Int × Int) : cells (l ++ [p]) = cells l ++ entC p := by simp [cells]

theorem ownsRow_later {w w' : World} {base : Nat} {e : TypeId} {size : Nat} {v : Value} {n : Nat} {xs : List Value} (h : w.ownsRow base e size v n xs) (hb : Below w.heap.size w w') : w'.ownsRow base e size v n xs := by
  obtain ⟨h1, h2⟩ := h
  refine ⟨h1, ?_⟩
  rcases h2 with h2 | ⟨g, cap, cur, hv, hg, hh, r⟩
  · exact .inl h2
  · exact .inr ⟨g, cap, cur, hv, hg, by rw [hb.block g (Array.getElem?_eq_some_iff.1 hh).1]; exact hh, r⟩
theorem entC_one (p : Int × Int) : ∀ u ∈ entC p, u.oneCell' = true := by
  intro u hu
  simp only [entC, List.mem_cons, List.not_mem_nil, or_false] at hu
  rcases hu with rfl | rfl | rfl | rfl | rfl <;> rfl
theorem ent_new (w : World) (p : Int × Int) (t : TypeId) : ∀ j u, (entC p)[j]? = some u → (w.alloc (.cells #[.int .i64 p.1, .int .i64 p.2, .int .i64 (-1), .int .i64 0, .bool false] t)).cell? ((⟨w.heap.size, 0, none⟩ : Addr).add j) = some u := by
  intro j u hu
  have hj : j < 5 := (List.getElem?_eq_some_iff.1 hu).1
  rw [Addr.add_lit]
  match j, hj with
  | 0, _ | 1, _ | 2, _ | 3, _ | 4, _ => simp [entC] at hu; subst hu; simp [World.cell?, World.alloc, -World.alloc_eq]
theorem infoE : (Try.prog.info? 52).map (fun i => (i.zero, i.size, i.bytes)) = some (some (.agg #[.int .i64 0, .int .i64 0, .int .i64 0, .int .i64 0, .bool false]), 5, 40) := by kernel_rfl

end Go.Proofs.Ytgoojlfpngmdlaa
namespace Go.Proofs.Ytgoojlfpngmdlaa
open Go.RowKit Go.Shelf
attribute [local go_sem] Oper.semAt_some
end Go.Proofs.Ytgoojlfpngmdlaa
