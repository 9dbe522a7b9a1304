/- The walk over the order of duties. Conditions: none. -/
import Derived.Test.YtfmmiafdlfdfoaaSmall
import Derived.Test.YtfmmiafdlfdfoaaGrowMk
namespace Go.Proofs.Ytfmmiafdlfdfoaa
open Go.RowKit

/-- A duty: floor, direction, age. -/
abbrev Duty : Type := Int × Int × Int
abbrev Duty.cells (d : Duty) : List Value := [.int .i64 d.1, .int .i64 d.2.1, .int .i64 d.2.2]
abbrev cvD (d : Duty) : Value := .agg #[.int .i64 d.1, .int .i64 d.2.1, .int .i64 d.2.2]
def cmpD (x y : Duty) : Int := orL [cmpI x.1 y.1, cmpI x.2.1 y.2.1]
def newI2 (g : Nat) : Value := .slice (some ⟨g, 0, none⟩) 2 2
theorem newI2_inj (x y : Nat) (h : newI2 x = newI2 y) : x = y := by unfold newI2 at h; simpa using h
theorem rdI_blk {w : World} {g : Nat} {a b : Int} (h : Blk w g [.int .i64 a, .int .i64 b]) : RdI w (newI2 g) [a, b] := by
  refine ⟨_, _, rfl, fun i x hx => ⟨⟨g, 0, none⟩, rfl, h.lt, ?_⟩⟩
  have hi : i < 2 := (List.getElem?_eq_some_iff.1 hx).1
  rw [Addr.add_lit, Nat.zero_add]
  match i, hi with
  | 0, _ => simp at hx; subst hx; exact h.cell 0 _ rfl
  | 1, _ => simp at hx; subst hx; exact h.cell 1 _ rfl
theorem mk_fact {mk : Nat → Value} {lo g : Nat} {ys : List Value} {xs : Array Value} {w : World} (hinj : ∀ x y, mk x = mk y → x = y) (h : mkR mk lo ys xs (mk g) w) : Blk w g ys := by
  obtain ⟨b, hb, _, hT⟩ := h
  rw [hinj _ _ hb]; exact hT
set_option maxHeartbeats 1000000 in
theorem compareC_any (x y : Duty) (w : World) :
    Calls Try.prog 61 #[cvD x, cvD y] w fun e w' => e = .returned (.int .i64 (cmpD x y)) ∧ Below w.heap.size w w' := by
  have B0 : Blk ((w.alloc (.cells #[.int .i64 x.1, .int .i64 x.2.1, .int .i64 x.2.2] 71)).alloc (.cells #[.int .i64 y.1, .int .i64 y.2.1, .int .i64 y.2.2] 71)) w.heap.size x.cells := (Blk.new w x.cells 71).next (below1' _ _)
  have B1 : Blk ((w.alloc (.cells #[.int .i64 x.1, .int .i64 x.2.1, .int .i64 x.2.2] 71)).alloc (.cells #[.int .i64 y.1, .int .i64 y.2.1, .int .i64 y.2.2] 71)) (w.heap.size + 1) y.cells := by
    have := Blk.new (w.alloc (.cells #[.int .i64 x.1, .int .i64 x.2.1, .int .i64 x.2.2] 71)) y.cells 71
    rw [World.size_alloc] at this; exact this
  have hb0 : Below w.heap.size w ((w.alloc (.cells #[.int .i64 x.1, .int .i64 x.2.1, .int .i64 x.2.2] 71)).alloc (.cells #[.int .i64 y.1, .int .i64 y.2.1, .int .i64 y.2.2] 71)) := (below1' w _).trans ((below1' _ _).mono (by simp))
  have H0 := Lib.hid B0; have H1 := Lib.hid B1; have HW := Lib.hid hb0
  clear B0 B1 hb0
  go_enter Try.func61, Try.ntmps61
  go_wp2_with fail
  generalize (w.alloc (.cells #[.int .i64 x.1, .int .i64 x.2.1, .int .i64 x.2.2] 71)).alloc (.cells #[.int .i64 y.1, .int .i64 y.2.1, .int .i64 y.2.2] 71) = w0 at *
  have a0 : ∀ W, Grow.Cl w0.drew W → W.cell? ⟨w.heap.size, 0, none⟩ = some (.int .i64 x.1) := fun W h => cell_later (Grow.Cl.base h) (H0.out.cell 0 _ rfl)
  have a1 : ∀ W, Grow.Cl w0.drew W → W.cell? ⟨w.heap.size, 1, none⟩ = some (.int .i64 x.2.1) := fun W h => cell_later (Grow.Cl.base h) (H0.out.cell 1 _ rfl)
  have b0 : ∀ W, Grow.Cl w0.drew W → W.cell? ⟨w.heap.size + 1, 0, none⟩ = some (.int .i64 y.1) := fun W h => cell_later (Grow.Cl.base h) (H1.out.cell 0 _ rfl)
  have b1 : ∀ W, Grow.Cl w0.drew W → W.cell? ⟨w.heap.size + 1, 1, none⟩ = some (.int .i64 y.2.1) := fun W h => cell_later (Grow.Cl.base h) (H1.out.cell 1 _ rfl)
  (refine Grow.wp_region (mkPlan 10 newI2 0 [.int .i64 (cmpI x.1 y.1), .int .i64 (cmpI x.2.1 y.2.1)]) (mkPlan_stable _ _ _ _) (by kernel_rfl) (by kernel_rfl) ?_; intro opsq Hopsq)
  repeat (first | (refine Grow.lex_move rfl ?_ rfl ?_; (· first | exact Grow.wanted_none | (rw [Hopsq.out]; rfl)); intro K hK; simp only [Grow.put_lit, Grow.setAt, Grow.eval_lit, Grow.ev]; refine hK _ _ ?_; clear hK K) | (refine Grow.lex_assign rfl ?_ rfl ?_; (· first | exact Grow.wanted_none | (rw [Hopsq.out]; rfl)); intro K hK; simp only [Grow.put_lit, Grow.setAt, Grow.eval_lit, Grow.ev]; refine hK _ _ ?_; clear hK K) | (refine Grow.lex_plain rfl rfl ?_ rfl ?_; (· first | exact Grow.wanted_none | (rw [Hopsq.out]; rfl)); apply Exists.intro; refine ⟨fun wq hCq _ => ?_, ?_⟩; (· (go_wp2_with fail; refine ⟨rfl, Below.refl _ _, ?_⟩; simp only [Grow.getD_lit, Grow.nth]; rfl)); intro K hK; simp only [Grow.put_lit, Grow.setAt]; refine hK _ _ ?_; clear hK K) | (refine Grow.lex_nilCheck rfl rfl ?_ rfl ?_; (· first | exact Grow.wanted_none | (rw [Hopsq.out]; rfl)); intro K hK; simp only [Grow.put_lit, Grow.setAt]; refine hK _ _ ?_; clear hK K) | (refine Grow.lex_skip ?_ ?_; (· (rw [Hopsq.out]; rfl)); intro K hK; simp only [Grow.put_lit, Grow.setAt]; refine hK _ _ ?_; clear hK K))
  (refine Grow.lex_call ?_ rfl ?_; (· first | exact Grow.wanted_none | (rw [Hopsq.out]; rfl)); apply Exists.intro; apply Exists.intro; refine ⟨fun wq => ?_, ?_⟩; (· (go_simp; exact ⟨rfl, rfl⟩)); apply Exists.intro; refine ⟨fun wq hCq hKq => ?_, ?_⟩; (· exact cmp_any x.1 y.1 _); intro K hK; simp only [Grow.put_lit, Grow.setAt]; refine hK _ _ ?_; clear hK K)
  repeat (first | (refine Grow.lex_move rfl ?_ rfl ?_; (· first | exact Grow.wanted_none | (rw [Hopsq.out]; rfl)); intro K hK; simp only [Grow.put_lit, Grow.setAt, Grow.eval_lit, Grow.ev]; refine hK _ _ ?_; clear hK K) | (refine Grow.lex_assign rfl ?_ rfl ?_; (· first | exact Grow.wanted_none | (rw [Hopsq.out]; rfl)); intro K hK; simp only [Grow.put_lit, Grow.setAt, Grow.eval_lit, Grow.ev]; refine hK _ _ ?_; clear hK K) | (refine Grow.lex_plain rfl rfl ?_ rfl ?_; (· first | exact Grow.wanted_none | (rw [Hopsq.out]; rfl)); apply Exists.intro; refine ⟨fun wq hCq _ => ?_, ?_⟩; (· (go_wp2_with fail; refine ⟨rfl, Below.refl _ _, ?_⟩; simp only [Grow.getD_lit, Grow.nth]; rfl)); intro K hK; simp only [Grow.put_lit, Grow.setAt]; refine hK _ _ ?_; clear hK K) | (refine Grow.lex_nilCheck rfl rfl ?_ rfl ?_; (· first | exact Grow.wanted_none | (rw [Hopsq.out]; rfl)); intro K hK; simp only [Grow.put_lit, Grow.setAt]; refine hK _ _ ?_; clear hK K) | (refine Grow.lex_skip ?_ ?_; (· (rw [Hopsq.out]; rfl)); intro K hK; simp only [Grow.put_lit, Grow.setAt]; refine hK _ _ ?_; clear hK K))
  (refine Grow.lex_call ?_ rfl ?_; (· first | exact Grow.wanted_none | (rw [Hopsq.out]; rfl)); apply Exists.intro; apply Exists.intro; refine ⟨fun wq => ?_, ?_⟩; (· (go_simp; exact ⟨rfl, rfl⟩)); apply Exists.intro; refine ⟨fun wq hCq hKq => ?_, ?_⟩; (· exact cmp_any x.2.1 y.2.1 _); intro K hK; simp only [Grow.put_lit, Grow.setAt]; refine hK _ _ ?_; clear hK K)
  refine lex_mk 10 newI2 0 [.int .i64 (cmpI x.1 y.1), .int .i64 (cmpI x.2.1 y.2.1)] 3 ?_ (fun wq => ?_) (Nat.zero_le _) ?_
  · first | exact Grow.wanted_none | (rw [Hopsq.out]; rfl)
  · go_simp
    first | rfl | exact ⟨rfl, rfl⟩
  intro g hg
  simp only [Grow.put_lit, Grow.setAt]
  (refine Grow.lex_call ?_ rfl ?_; (· first | exact Grow.wanted_none | (rw [Hopsq.out]; rfl)); apply Exists.intro; apply Exists.intro; refine ⟨fun wq => ?_, ?_⟩; (· (go_simp; exact ⟨rfl, rfl⟩)); apply Exists.intro; refine ⟨fun wq hCq hKq => ?_, ?_⟩; (· exact or_any (newI2 g) [cmpI x.1 y.1, cmpI x.2.1 y.2.1] _ (by simp) (rdI_blk (mk_fact newI2_inj ((hKq 10 ⟨[], by rw [Hopsq.out]; kernel_rfl⟩).2 rfl)))); intro K hK; simp only [Grow.put_lit, Grow.setAt]; refine hK _ _ ?_; clear hK K)
  repeat (first | (refine Grow.lex_move rfl ?_ rfl ?_; (· first | exact Grow.wanted_none | (rw [Hopsq.out]; rfl)); intro K hK; simp only [Grow.put_lit, Grow.setAt, Grow.eval_lit, Grow.ev]; refine hK _ _ ?_; clear hK K) | (refine Grow.lex_assign rfl ?_ rfl ?_; (· first | exact Grow.wanted_none | (rw [Hopsq.out]; rfl)); intro K hK; simp only [Grow.put_lit, Grow.setAt, Grow.eval_lit, Grow.ev]; refine hK _ _ ?_; clear hK K) | (refine Grow.lex_plain rfl rfl ?_ rfl ?_; (· first | exact Grow.wanted_none | (rw [Hopsq.out]; rfl)); apply Exists.intro; refine ⟨fun wq hCq _ => ?_, ?_⟩; (· (go_wp2_with fail; refine ⟨rfl, Below.refl _ _, ?_⟩; simp only [Grow.getD_lit, Grow.nth]; rfl)); intro K hK; simp only [Grow.put_lit, Grow.setAt]; refine hK _ _ ?_; clear hK K) | (refine Grow.lex_nilCheck rfl rfl ?_ rfl ?_; (· first | exact Grow.wanted_none | (rw [Hopsq.out]; rfl)); intro K hK; simp only [Grow.put_lit, Grow.setAt]; refine hK _ _ ?_; clear hK K) | (refine Grow.lex_skip ?_ ?_; (· (rw [Hopsq.out]; rfl)); intro K hK; simp only [Grow.put_lit, Grow.setAt]; refine hK _ _ ?_; clear hK K))
  (refine Grow.lex_nil ?_; intro w1 hb1 _; replace hb1 := Grow.Cl.base hb1; clear Hopsq opsq)
  go_wp2_with fail
  go_ret
  exact ⟨rfl, HW.out.trans (hb1.mono HW.out.size)⟩
end Go.Proofs.Ytfmmiafdlfdfoaa
