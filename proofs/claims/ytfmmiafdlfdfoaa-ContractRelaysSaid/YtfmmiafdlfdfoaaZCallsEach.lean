/- The walk over calls.List: a range over a function. Conditions: none. -/
import Derived.Test.YtfmmiafdlfdfoaaZCallsList
import Derived.RangeFuncNested
import Derived.RangeFuncBound
import Derived.RangeFuncCalls
import Derived.RangeFuncLeaves
import Derived.RangeFuncBox
import Derived.Shelf.Abstract
import Derived.Shelf.RegionOpen
import Derived.OwnWalkIn
import Derived.TacticsInMore
import Derived.LoopNIn
import Derived.LoopIn
import Derived.Maps.AppendAt
namespace Go.Proofs.Ytfmmiafdlfdfoaa
open Go.RowKit Go.Shelf
attribute [local go_sem] Oper.semAt_some

abbrev encs2 (p : Int × Int) : Array Value := #[.int .i64 p.1, .int .i64 p.2]
theorem part_lt (c : CS) (k j : Nat) (hj : j ≤ 2) : (part c k j).length ≤ 2 * k + j := by
  have h1 := listTo_len c k; have h2 := listTo_len c (k + 1); have h3 := item_len c k 1
  match j, hj with
  | 0, _ => simpa [part] using h1
  | 1, _ => simp only [part, List.length_append]; omega
  | 2, _ => simp only [part]; omega

set_option maxHeartbeats 400000 in
theorem each_any (c : CS) (w : World) :
    Calls Try.prog 77 #[cv c] w fun e w' => e = .returned (.func (.func 87) #[] #[.pointer (some ⟨w.heap.size, 0, none⟩)]) ∧ w' = w.alloc (.cells #[.int .u32 (c.1.toNat : Int), .int .u32 (c.2.toNat : Int)] 45) := by
  go_enter Try.func77, Try.ntmps77
  go_wp2_with fail
  go_ret
  exact ⟨rfl, rfl⟩

/-- The iterator's own box lies as it lay. -/
structure Kept (b : Nat) (W W' : World) : Prop where
  size : W.heap.size ≤ W'.heap.size
  same : W'.heap[b]? = W.heap[b]?
theorem Kept.refl (b : Nat) (W : World) : Kept b W W := ⟨Nat.le_refl _, rfl⟩
theorem Kept.trans {b : Nat} {A B C : World} (h : Kept b A B) (k : Kept b B C) : Kept b A C := ⟨Nat.le_trans h.size k.size, k.same.trans h.same⟩
theorem Kept.below {b : Nat} {A B : World} (h : Below A.heap.size A B) (hb : b < A.heap.size) : Kept b A B := ⟨h.size, h.block b hb⟩
theorem Kept.cell {b i : Nat} {A B : World} (h : Kept b A B) : B.cell? ⟨b, i, none⟩ = A.cell? ⟨b, i, none⟩ := by simp only [World.cell?, h.same]
theorem grown_below {w w' : World} (h : Below w.heap.size w w') (row : Option Nat) : w.grownBy w' row := ⟨h.os, h.tape, h.output, h.size, fun k hk _ => h.block k hk⟩

set_option maxRecDepth 100000 in
set_option maxHeartbeats 2000000 in
theorem each1_in (n : Nat) (hn : 2 ≤ n) (l Bc : Nat) (c : CS) (J Jx : List (Int × Int) → World → Prop)
    (hY : ∀ pre x W, J pre W → pre.length < 64 → YieldAt Fence.wide (n - 1) Try.prog l (encs2 x) W fun e W' =>
      (e = .returned (.bool true) ∧ J (pre ++ [x]) W' ∧ Kept Bc W W') ∨ (e = .returned (.bool false) ∧ Jx (pre ++ [x]) W'))
    (W : World) (hJ : AbidesFrom W.heap.size J) (hB : Bc < W.heap.size) (p0 : W.cell? ⟨Bc, 0, none⟩ = some (.int .u32 (c.1.toNat : Int))) (p1 : W.cell? ⟨Bc, 1, none⟩ = some (.int .u32 (c.2.toNat : Int))) (h0 : J [] W) :
    CallsIn Fence.wide n Try.prog 87 #[.func (.yield l) #[] #[], .pointer (some ⟨Bc, 0, none⟩)] W fun e W' => (∃ v, e = .returned v) ∧
      ((∃ ys, ys = listC c ∧ J ys W') ∨ (∃ pre, True ∧ Jx pre W')) := by
  have hro : Fence.wide.round = none := rfl
  have hfH : Fence.wide.fn 56 := trivial
  have h1n : 1 ≤ n := by omega
  refine callsIn_of_wp Try.func87 rfl trivial ?_ hro
  simp only [Try.ntmps87, List.size_toArray, List.length_cons, List.length_nil, Nat.reduceAdd, Nat.reduceSub, Array.replicate_succ, Array.replicate_zero, List.push_toArray, List.append_toArray, List.nil_append, List.cons_append]
  gi_wp2
  gi_loopw [5] (fun f wr => ∃ k : Nat, k ≤ 32 ∧ f = .int .i64 k ∧ J (listTo c k) wr ∧ Kept Bc W wr) (fun f _ => 32 - (intOf f).toNat)
  case atStart => exact ⟨0, by omega, rfl, h0, Kept.refl _ _⟩
  case round =>
    obtain ⟨k, hk, rfl, hJk, hb⟩ := hrel
    by_cases hlt : k < 32
    · have hd : decide ((k : Int) < 32) = true := by simp; omega
      gi_wp2
      obtain ⟨wo, rfl⟩ : ∃ wo : World, wo = wr := ⟨_, rfl⟩
      gi_loopw [4] (fun d wr => ∃ j : Nat, j ≤ 2 ∧ d = .int .i64 ((j : Int) + 1) ∧ J (part c k j) wr ∧ Kept Bc W wr) (fun d _ => 4 - (intOf d).toNat)
      case atStart => exact ⟨0, by omega, rfl, hJk, hb⟩
      case round =>
        obtain ⟨j, hj, rfl, hJj, hbj⟩ := hrel
        by_cases hj2 : j < 2
        · have r0 : wr.cell? ⟨Bc, 0, none⟩ = some (.int .u32 (c.1.toNat : Int)) := by rw [hbj.cell]; exact p0
          have r1 : wr.cell? ⟨Bc, 1, none⟩ = some (.int .u32 (c.2.toNat : Int)) := by rw [hbj.cell]; exact p1
          have hpl := part_lt c k j (by omega)
          have hsz := hbj.size
          cases hh : has c k ((j : Int) + 1)
          · have hp := part_no c k j hj2 hh
            gi_wp2_with (gi_at_call 56; refine (callsIn_wide.2 (has_any c k ((j : Int) + 1) _)).mono ?_; rintro e w1 ⟨rfl, hb1⟩)
            have hJ1 : J (part c k (j + 1)) w1 := by rw [hp]; exact hJ _ _ _ none hJj (grown_below hb1 none) (fun r e => by cases e)
            have hb2 := hbj.trans (Kept.below hb1 (by omega))
            all_goals refine ⟨fun _ h => (by cases h), ?_⟩
            all_goals gi_wp2
            all_goals go_roundw
            case rel => exact ⟨j + 1, by omega, by go_num, hJ1, hb2⟩
            case measure => simp [intOf]; omega
          · have hp := part_yes c k j hj2 hh
            gi_wp2_with (gi_at_call 56; refine (callsIn_wide.2 (has_any c k ((j : Int) + 1) _)).mono ?_; rintro e w1 ⟨rfl, hb1⟩; have hJ1 : J (part c k j) w1 := (hJ _ _ _ none hJj (grown_below hb1 none) (fun r e => by cases e)); have hb2 := hbj.trans (Kept.below hb1 (by omega)); obtain ⟨fn, tmps, assign, body, hy, hR⟩ := hY (part c k j) ((k : Int), (j : Int) + 1) w1 hJ1 (by omega); dsimp only [encs2] at hy)
            refine hR.mono ?_
            rintro e W' (⟨rfl, hJ2, hk2⟩ | ⟨rfl, hJx2⟩)
            · gi_wp2
              go_roundw
              case rel => exact ⟨j + 1, by omega, by go_num, by rw [hp]; exact hJ2, hb2.trans hk2⟩
              case measure => simp [intOf]; omega
            · gi_wp2
              refine bodyPost_ret (results_none rfl _ _ _) rfl ?_
              exact ⟨⟨_, rfl⟩, .inr ⟨_, trivial, hJx2⟩⟩
        · have hj3 : j = 2 := by omega
          subst hj3
          gi_wp2
          go_roundw
          case rel => exact ⟨k + 1, by omega, by go_num, hJj, hbj⟩
          case measure => simp [intOf]; omega
    · have hk3 : k = 32 := by omega
      subst hk3
      gi_wp2
      go_end0
      exact ⟨⟨_, rfl⟩, .inl ⟨_, rfl, hJk⟩⟩

theorem each_stops (n : Nat) (hn : 2 ≤ n) (Bc : Nat) (c : CS) (w : World) (hB : Bc < w.heap.size)
    (p0 : w.cell? ⟨Bc, 0, none⟩ = some (.int .u32 (c.1.toNat : Int))) (p1 : w.cell? ⟨Bc, 1, none⟩ = some (.int .u32 (c.2.toNat : Int))) :
    SeqStopsK Fence.wide n Try.prog 87 #[.pointer (some ⟨Bc, 0, none⟩)] encs2 (Kept Bc) (fun ys => ys = listC c) (fun _ => True) 64 w := fun l J Jx W hW hJ _ hY h0 =>
  each1_in n hn l Bc c J Jx hY W hJ (Nat.lt_of_lt_of_le hB hW.size) ((hW.cell (p := ⟨Bc, 0, none⟩) hB).trans p0) ((hW.cell (p := ⟨Bc, 1, none⟩) hB).trans p1) h0

/-- A slice's own row is not a block of cells of another type. -/
theorem block_not_row {W : World} {b : Nat} {t e : TypeId} {us : Array Value} {r : Nat × Nat} (h : W.heap[b]? = some (.cells us t r)) (hte : t ≠ e) {base size k : Nat} {v : Value} {xs : List Value} (hr : W.ownsRow base e size v k xs) : some b ≠ v.ownBlock := by
  rcases hr.2 with ⟨rfl, _⟩ | ⟨g, cap, cur, rfl, _, hgb, _⟩
  · simp [Value.ownBlock]
  · intro e'
    obtain rfl : b = g := by simpa [Value.ownBlock] using e'
    have := h.symm.trans hgb
    simp at this
    exact hte this.2.1
theorem block_own {β : Type} (b : Nat) (us : Array Value) (t : TypeId) (r : Nat × Nat) : Own (fun (_ : β) W => W.heap[b]? = some (.cells us t r)) := by
  intro s A B row hs hg hr
  refine (hg.block b (Array.getElem?_eq_some_iff.1 hs).1 (fun e => ?_)).trans hs
  obtain ⟨o, ho, hc⟩ := hr b e.symm
  rw [hs] at ho; cases ho; cases hc

set_option maxRecDepth 100000 in
set_option maxHeartbeats 2000000 in
theorem list_any (c : CS) (w : World) :
    Calls Try.prog 57 #[cv c] w fun e w' => ∃ v, e = .returned v ∧ w'.ownsRow w.heap.size 53 5 v (listC c).length (cells (listC c)) ∧ Below w.heap.size w w' := by
  refine (callsIn_wide (n := 9)).1 ?_
  have hro : Fence.wide.round = none := rfl
  have hfE : Fence.wide.fn 77 := trivial
  have h1n : 1 ≤ 9 := by omega
  obtain ⟨i0, hi, hz0, hz1, hz2⟩ := info_parts infoE
  refine callsIn_of_wp_marks Try.func57 rfl trivial ?_ hro
  simp only [Try.ntmps57, List.size_toArray, List.length_cons, List.length_nil, Nat.reduceAdd, Nat.reduceSub, Array.replicate_succ, Array.replicate_zero, List.push_toArray, List.append_toArray, List.nil_append, List.cons_append]
  gi_wp2_with (gi_at_call 77; refine (callsIn_wide.2 (each_any c _)).mono ?_; rintro e w' ⟨rfl, rfl⟩)
  have bO := Boxed.new (w.alloc (.cells #[.int .u32 (c.1.toNat : Int), .int .u32 (c.2.toNat : Int)] 45)) 41 (.slice none 0 0)
  rw [World.size_alloc] at bO
  have hB0 := below3 w (.cells #[.int .u32 (c.1.toNat : Int), .int .u32 (c.2.toNat : Int)] 45) (.cells #[.slice none 0 0] 41) (.cells #[.int .u32 (c.1.toNat : Int), .int .u32 (c.2.toNat : Int)] 45)
  have q0 := cell2_0 ((w.alloc (.cells #[.int .u32 (c.1.toNat : Int), .int .u32 (c.2.toNat : Int)] 45)).alloc (.cells #[.slice none 0 0] 41)) (.int .u32 (c.1.toNat : Int)) (.int .u32 (c.2.toNat : Int)) 45
  have q1 := cell2_1 ((w.alloc (.cells #[.int .u32 (c.1.toNat : Int), .int .u32 (c.2.toNat : Int)] 45)).alloc (.cells #[.slice none 0 0] 41)) (.int .u32 (c.1.toNat : Int)) (.int .u32 (c.2.toNat : Int)) 45
  simp only [World.size_alloc] at q0 q1
  have hcb := World.alloc_heap_new ((w.alloc (.cells #[.int .u32 (c.1.toNat : Int), .int .u32 (c.2.toNat : Int)] 45)).alloc (.cells #[.slice none 0 0] 41)) (.cells #[.int .u32 (c.1.toNat : Int), .int .u32 (c.2.toNat : Int)] 45)
  simp only [World.size_alloc] at hcb
  have bO2 := bO.alloc (.cells #[.int .u32 (c.1.toNat : Int), .int .u32 (c.2.toNat : Int)] 45)
  refine wpIn_rangeFunc_ownG hro h1n (gf := 87) (lb := #[.pointer (some ⟨w.heap.size + 1 + 1, 0, none⟩)]) rfl trivial (enters_of Try.func87 (by kernel_rfl) rfl)
    (each_stops (9 - 1) (by omega) (w.heap.size + 1 + 1) c _ (by simp) q0 q1) Kept.trans (fun W k o o' hk ho _ _ => ⟨by simp [World.putObj], World.putObj_heap_other (by simp at hk; omega)⟩) (Below.refl _ _) (fun _ => rfl)
    (fun pre W => (∃ v, Boxed W (w.heap.size + 1) 41 v ∧ W.ownsRow w.heap.size 53 5 v pre.length (cells pre) ∧ True) ∧ Below w.heap.size w W ∧ W.heap[w.heap.size + 1 + 1]? = some (.cells #[.int .u32 (c.1.toNat : Int), .int .u32 (c.2.toNat : Int)] 45 (0, 0)))
    (fun _ _ _ => False)
    (OwnFrom.and (Own.from (holdsRow_own w.heap.size (w.heap.size + 1) 41 53 5 (fun pre => pre.length) (fun pre => cells pre) (fun _ _ => True)) _) (OwnFrom.and (ownFrom_below (Nat.le_refl _) (by simp; omega)) (Own.from (block_own _ _ _ _) _)))
    (fun _ _ _ _ _ hs _ _ => hs)
    ⟨⟨_, bO2, World.ownsRow_nil _ _ _ _, trivial⟩, hB0, hcb⟩
    (fun x => { tmps := #[cv c, .pointer (some ⟨w.heap.size, 0, none⟩), .slice none 0 0, .pointer (some ⟨w.heap.size + 1, 0, none⟩), .int .i64 x.1, .int .i64 x.2, cv c, .func (.func 87) #[] #[.pointer (some ⟨w.heap.size + 1 + 1, 0, none⟩)], .int .i64 x.1, .int .i64 x.2, undef, undef, undef, undef, undef, undef, undef], defers := [] }) ?assign ?body ?done ?stop
  case assign =>
    intro l x W K hK
    gi_wp2
    exact hK
  case body =>
    rintro l pre x W ⟨⟨v, hv, hrow, _⟩, hB, hcb⟩ hlt
    have hc := hv.cell
    gi_wp2_with (gi_at_builtin; refine wpListIn_append_own _ rfl _ _ 41 rfl w.heap.size 53 i0 (.agg #[.int .i64 0, .int .i64 0, .int .i64 0, .int .i64 0, .bool false]) 5 40 Try.underlying41 hi hz0 hz1 hz2 rfl (by decide) _ _ _ rfl (hrow.alloc _) ⟨W.heap.size, 0, none⟩ 1 1 (entC x) rfl rfl (ent_new _ _ _) (entC_one _) (by unfold maxLen; omega) (by omega) (by have := hB.size; simp; omega) ?_; intro v' w1 hown' hgrow _; obtain ⟨g', cap', rfl⟩ := ownsRow_succ hown'; obtain ⟨hv1, hv2, hr2, hk2, hb2⟩ := hv.appended (by decide) hrow hB.size (by omega) hown' hgrow; have hc1 := hv1.cell; have hf1 := hv1.frozen)
    have hlt2 : w.heap.size + 1 + 1 < W.heap.size := (Array.getElem?_eq_some_iff.1 hcb).1
    have hsame : (w1.setCell ⟨w.heap.size + 1, 0, none⟩ (.slice (some ⟨g', 0, none⟩) (pre.length + 1) cap')).heap[w.heap.size + 1 + 1]? = W.heap[w.heap.size + 1 + 1]? := by
      refine (Below.heap_setCell _ _ _ _ (by simp)).trans ((hgrow.block _ (by simp; omega) (block_not_row hcb (by decide) hrow)).trans (Below.heap_alloc _ _ _ hlt2))
    exact ⟨hk2.from _, ⟨hb2.size, hsame⟩, ⟨_, hv2, by rw [List.length_append, cells_snoc]; exact hr2, trivial⟩, hB.trans hb2, hsame.trans hcb⟩
  case done =>
    rintro D ys W hD rfl ⟨⟨v, hv, hrow, _⟩, hB, _⟩ hK
    have hc := hv.cell
    gi_wp2
    refine ⟨by simp, .inl ⟨_, _, rfl, run_takeDeferred hK, ?_⟩⟩
    exact ⟨_, results_tmp rfl _ _ _, v, rfl, ownsRow_putObj hrow _ hK rfl, hB.trans (belowK_b (w := w) (Nat.le_refl _) W D _ _ (by simp at hD; omega) hK rfl rfl)⟩
  case stop =>
    rintro D c pre W _ _ h _
    exact h.elim
end Go.Proofs.Ytfmmiafdlfdfoaa
