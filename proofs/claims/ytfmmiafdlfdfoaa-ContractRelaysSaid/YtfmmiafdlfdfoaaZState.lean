/- The walk over the order of duties. Conditions: none. · The belief as data, and small words for the walks over it. Conditions: none. -/
import Derived.Test.YtfmmiafdlfdfoaaZSmall
import Derived.Test.YtfmmiafdlfdfoaaZSample
namespace Go.Proofs.Ytfmmiafdlfdfoaa
open Go.RowKit

/-- A duty: floor, direction, age. -/
abbrev Duty : Type := Int × Int × Int
abbrev Duty.cells (d : Duty) : List Value := [.int .i64 d.1, .int .i64 d.2.1, .int .i64 d.2.2]
abbrev cvD (d : Duty) : Value := .agg #[.int .i64 d.1, .int .i64 d.2.1, .int .i64 d.2.2]
def cmpD (x y : Duty) : Int := orL [cmpI x.1 y.1, cmpI x.2.1 y.2.1]
def newI2 (g : Nat) : Value := .slice (some ⟨g, 0, none⟩) 2 2
theorem newI2_inj (x y : Nat) (h : newI2 x = newI2 y) : x = y := by unfold newI2 at h; simpa using h
theorem rdI_blk {w : World} {g : Nat} {a b : Int} (h : Blk w g [.int .i64 a, .int .i64 b]) : RdI w (newI2 g) [a, b] := by
  refine ⟨_, _, rfl, fun i x hx => ⟨⟨g, 0, none⟩, rfl, h.lt, ?_⟩⟩
  have hi : i < 2 := (List.getElem?_eq_some_iff.1 hx).1
  rw [Addr.add_lit, Nat.zero_add]
  match i, hi with
  | 0, _ => simp at hx; subst hx; exact h.cell 0 _ rfl
  | 1, _ => simp at hx; subst hx; exact h.cell 1 _ rfl
theorem mk_fact {mk : Nat → Value} {lo g : Nat} {ys : List Value} {xs : Array Value} {w : World} (hinj : ∀ x y, mk x = mk y → x = y) (h : mkR mk lo ys xs (mk g) w) : Blk w g ys := by
  obtain ⟨b, hb, _, hT⟩ := h
  rw [hinj _ _ hb]; exact hT
set_option maxHeartbeats 1000000 in
theorem compareC_any (x y : Duty) (w : World) :
    Calls Try.prog 61 #[cvD x, cvD y] w fun e w' => e = .returned (.int .i64 (cmpD x y)) ∧ Below w.heap.size w w' := by
  have B0 : Blk ((w.alloc (.cells #[.int .i64 x.1, .int .i64 x.2.1, .int .i64 x.2.2] 71)).alloc (.cells #[.int .i64 y.1, .int .i64 y.2.1, .int .i64 y.2.2] 71)) w.heap.size x.cells := (Blk.new w x.cells 71).next (below1' _ _)
  have B1 : Blk ((w.alloc (.cells #[.int .i64 x.1, .int .i64 x.2.1, .int .i64 x.2.2] 71)).alloc (.cells #[.int .i64 y.1, .int .i64 y.2.1, .int .i64 y.2.2] 71)) (w.heap.size + 1) y.cells := by
    have := Blk.new (w.alloc (.cells #[.int .i64 x.1, .int .i64 x.2.1, .int .i64 x.2.2] 71)) y.cells 71
    rw [World.size_alloc] at this; exact this
  have hb0 : Below w.heap.size w ((w.alloc (.cells #[.int .i64 x.1, .int .i64 x.2.1, .int .i64 x.2.2] 71)).alloc (.cells #[.int .i64 y.1, .int .i64 y.2.1, .int .i64 y.2.2] 71)) := (below1' w _).trans ((below1' _ _).mono (by simp))
  have H0 := Lib.hid B0; have H1 := Lib.hid B1; have HW := Lib.hid hb0
  clear B0 B1 hb0
  go_enter Try.func61, Try.ntmps61
  go_wp2_with fail
  generalize (w.alloc (.cells #[.int .i64 x.1, .int .i64 x.2.1, .int .i64 x.2.2] 71)).alloc (.cells #[.int .i64 y.1, .int .i64 y.2.1, .int .i64 y.2.2] 71) = w0 at *
  have a0 : ∀ W, Grow.Cl w0.drew W → W.cell? ⟨w.heap.size, 0, none⟩ = some (.int .i64 x.1) := fun W h => cell_later (Grow.Cl.base h) (H0.out.cell 0 _ rfl)
  have a1 : ∀ W, Grow.Cl w0.drew W → W.cell? ⟨w.heap.size, 1, none⟩ = some (.int .i64 x.2.1) := fun W h => cell_later (Grow.Cl.base h) (H0.out.cell 1 _ rfl)
  have b0 : ∀ W, Grow.Cl w0.drew W → W.cell? ⟨w.heap.size + 1, 0, none⟩ = some (.int .i64 y.1) := fun W h => cell_later (Grow.Cl.base h) (H1.out.cell 0 _ rfl)
  have b1 : ∀ W, Grow.Cl w0.drew W → W.cell? ⟨w.heap.size + 1, 1, none⟩ = some (.int .i64 y.2.1) := fun W h => cell_later (Grow.Cl.base h) (H1.out.cell 1 _ rfl)
  (refine Grow.wp_region (mkPlan 10 newI2 0 [.int .i64 (cmpI x.1 y.1), .int .i64 (cmpI x.2.1 y.2.1)]) (mkPlan_stable _ _ _ _) (by kernel_rfl) (by kernel_rfl) ?_; intro opsq Hopsq)
  repeat (first | (refine Grow.lex_move rfl ?_ rfl ?_; (· first | exact Grow.wanted_none | (rw [Hopsq.out]; rfl)); intro K hK; simp only [Grow.put_lit, Grow.setAt, Grow.eval_lit, Grow.ev]; refine hK _ _ ?_; clear hK K) | (refine Grow.lex_assign rfl ?_ rfl ?_; (· first | exact Grow.wanted_none | (rw [Hopsq.out]; rfl)); intro K hK; simp only [Grow.put_lit, Grow.setAt, Grow.eval_lit, Grow.ev]; refine hK _ _ ?_; clear hK K) | (refine Grow.lex_plain rfl rfl ?_ rfl ?_; (· first | exact Grow.wanted_none | (rw [Hopsq.out]; rfl)); apply Exists.intro; refine ⟨fun wq hCq _ => ?_, ?_⟩; (· (go_wp2_with fail; refine ⟨rfl, Below.refl _ _, ?_⟩; simp only [Grow.getD_lit, Grow.nth]; rfl)); intro K hK; simp only [Grow.put_lit, Grow.setAt]; refine hK _ _ ?_; clear hK K) | (refine Grow.lex_nilCheck rfl rfl ?_ rfl ?_; (· first | exact Grow.wanted_none | (rw [Hopsq.out]; rfl)); intro K hK; simp only [Grow.put_lit, Grow.setAt]; refine hK _ _ ?_; clear hK K) | (refine Grow.lex_skip ?_ ?_; (· (rw [Hopsq.out]; rfl)); intro K hK; simp only [Grow.put_lit, Grow.setAt]; refine hK _ _ ?_; clear hK K))
  (refine Grow.lex_call ?_ rfl ?_; (· first | exact Grow.wanted_none | (rw [Hopsq.out]; rfl)); apply Exists.intro; apply Exists.intro; refine ⟨fun wq => ?_, ?_⟩; (· (go_simp; exact ⟨rfl, rfl⟩)); apply Exists.intro; refine ⟨fun wq hCq hKq => ?_, ?_⟩; (· exact cmp_any x.1 y.1 _); intro K hK; simp only [Grow.put_lit, Grow.setAt]; refine hK _ _ ?_; clear hK K)
  repeat (first | (refine Grow.lex_move rfl ?_ rfl ?_; (· first | exact Grow.wanted_none | (rw [Hopsq.out]; rfl)); intro K hK; simp only [Grow.put_lit, Grow.setAt, Grow.eval_lit, Grow.ev]; refine hK _ _ ?_; clear hK K) | (refine Grow.lex_assign rfl ?_ rfl ?_; (· first | exact Grow.wanted_none | (rw [Hopsq.out]; rfl)); intro K hK; simp only [Grow.put_lit, Grow.setAt, Grow.eval_lit, Grow.ev]; refine hK _ _ ?_; clear hK K) | (refine Grow.lex_plain rfl rfl ?_ rfl ?_; (· first | exact Grow.wanted_none | (rw [Hopsq.out]; rfl)); apply Exists.intro; refine ⟨fun wq hCq _ => ?_, ?_⟩; (· (go_wp2_with fail; refine ⟨rfl, Below.refl _ _, ?_⟩; simp only [Grow.getD_lit, Grow.nth]; rfl)); intro K hK; simp only [Grow.put_lit, Grow.setAt]; refine hK _ _ ?_; clear hK K) | (refine Grow.lex_nilCheck rfl rfl ?_ rfl ?_; (· first | exact Grow.wanted_none | (rw [Hopsq.out]; rfl)); intro K hK; simp only [Grow.put_lit, Grow.setAt]; refine hK _ _ ?_; clear hK K) | (refine Grow.lex_skip ?_ ?_; (· (rw [Hopsq.out]; rfl)); intro K hK; simp only [Grow.put_lit, Grow.setAt]; refine hK _ _ ?_; clear hK K))
  (refine Grow.lex_call ?_ rfl ?_; (· first | exact Grow.wanted_none | (rw [Hopsq.out]; rfl)); apply Exists.intro; apply Exists.intro; refine ⟨fun wq => ?_, ?_⟩; (· (go_simp; exact ⟨rfl, rfl⟩)); apply Exists.intro; refine ⟨fun wq hCq hKq => ?_, ?_⟩; (· exact cmp_any x.2.1 y.2.1 _); intro K hK; simp only [Grow.put_lit, Grow.setAt]; refine hK _ _ ?_; clear hK K)
  refine lex_mk 10 newI2 0 [.int .i64 (cmpI x.1 y.1), .int .i64 (cmpI x.2.1 y.2.1)] 3 ?_ (fun wq => ?_) (Nat.zero_le _) ?_
  · first | exact Grow.wanted_none | (rw [Hopsq.out]; rfl)
  · go_simp
    first | rfl | exact ⟨rfl, rfl⟩
  intro g hg
  simp only [Grow.put_lit, Grow.setAt]
  (refine Grow.lex_call ?_ rfl ?_; (· first | exact Grow.wanted_none | (rw [Hopsq.out]; rfl)); apply Exists.intro; apply Exists.intro; refine ⟨fun wq => ?_, ?_⟩; (· (go_simp; exact ⟨rfl, rfl⟩)); apply Exists.intro; refine ⟨fun wq hCq hKq => ?_, ?_⟩; (· exact or_any (newI2 g) [cmpI x.1 y.1, cmpI x.2.1 y.2.1] _ (by simp) (rdI_blk (mk_fact newI2_inj ((hKq 10 ⟨[], by rw [Hopsq.out]; kernel_rfl⟩).2 rfl)))); intro K hK; simp only [Grow.put_lit, Grow.setAt]; refine hK _ _ ?_; clear hK K)
  repeat (first | (refine Grow.lex_move rfl ?_ rfl ?_; (· first | exact Grow.wanted_none | (rw [Hopsq.out]; rfl)); intro K hK; simp only [Grow.put_lit, Grow.setAt, Grow.eval_lit, Grow.ev]; refine hK _ _ ?_; clear hK K) | (refine Grow.lex_assign rfl ?_ rfl ?_; (· first | exact Grow.wanted_none | (rw [Hopsq.out]; rfl)); intro K hK; simp only [Grow.put_lit, Grow.setAt, Grow.eval_lit, Grow.ev]; refine hK _ _ ?_; clear hK K) | (refine Grow.lex_plain rfl rfl ?_ rfl ?_; (· first | exact Grow.wanted_none | (rw [Hopsq.out]; rfl)); apply Exists.intro; refine ⟨fun wq hCq _ => ?_, ?_⟩; (· (go_wp2_with fail; refine ⟨rfl, Below.refl _ _, ?_⟩; simp only [Grow.getD_lit, Grow.nth]; rfl)); intro K hK; simp only [Grow.put_lit, Grow.setAt]; refine hK _ _ ?_; clear hK K) | (refine Grow.lex_nilCheck rfl rfl ?_ rfl ?_; (· first | exact Grow.wanted_none | (rw [Hopsq.out]; rfl)); intro K hK; simp only [Grow.put_lit, Grow.setAt]; refine hK _ _ ?_; clear hK K) | (refine Grow.lex_skip ?_ ?_; (· (rw [Hopsq.out]; rfl)); intro K hK; simp only [Grow.put_lit, Grow.setAt]; refine hK _ _ ?_; clear hK K))
  (refine Grow.lex_nil ?_; intro w1 hb1 _; replace hb1 := Grow.Cl.base hb1; clear Hopsq opsq)
  go_wp2_with fail
  go_ret
  exact ⟨rfl, HW.out.trans (hb1.mono HW.out.size)⟩
end Go.Proofs.Ytfmmiafdlfdfoaa
namespace Go.Proofs.Ytfmmiafdlfdfoaa
open Go.RowKit

/-- A belief: floor, direction, door, duties, still, late. -/
structure BelV where
  fl : Int
  dir : Int
  door : Int
  du : List Duty
  still : Int
  late : Bool
abbrev BelV.cells (s : BelV) (q : Option Addr) (cap : Nat) : List Value := [.int .i64 s.fl, .int .i64 s.dir, .int .i64 s.door, .slice q s.du.length cap, .int .i64 s.still, .bool s.late]
abbrev cvS (s : BelV) (q : Option Addr) (cap : Nat) : Value := .agg #[.int .i64 s.fl, .int .i64 s.dir, .int .i64 s.door, .slice q s.du.length cap, .int .i64 s.still, .bool s.late]
/-- The slice from q on holds the duties. -/
def RdD (w : World) (q : Option Addr) (l : List Duty) : Prop := ∀ i d, l[i]? = some d → ∃ A, q = some A ∧ A.block < w.heap.size ∧ ∀ j u, d.cells[j]? = some u → w.cell? (A.add (i * 3 + j)) = some u
theorem RdD.next {w w' : World} {q : Option Addr} {l : List Duty} (h : RdD w q l) (hb : Below w.heap.size w w') : RdD w' q l := by
  intro i c hc
  obtain ⟨A, hq, hA, hcell⟩ := h i c hc
  refine ⟨A, hq, Nat.lt_of_lt_of_le hA hb.size, fun j u hu => ?_⟩
  rw [hb.cell (by rw [addr_block]; exact hA)]
  exact hcell j u hu
theorem base_cell {W w1 : World} (hb : Below W.heap.size W w1) : ∀ b o, b < W.heap.size → w1.cell? ⟨b, o, none⟩ = W.cell? ⟨b, o, none⟩ := fun b o h => hb.cell (p := ⟨b, o, none⟩) h
theorem Blk.reg {W : World} {b : Nat} {xs : List Value} (h : Blk W b xs) (i : Nat) (v : Value) (hv : xs[i]? = some v) : ∀ W', Grow.Cl W.drew W' → W'.cell? ⟨b, i, none⟩ = some v := fun _ hW => cell_later (Grow.Cl.base hW) (h.cell i v hv)
theorem calls_bool {P : Program} {f : FuncId} {args : Array Value} {w : World} {x y : Bool} {R : World → Prop} (h : Calls P f args w fun e w' => e = .returned (.bool x) ∧ R w') (hx : x = y) : Calls P f args w fun e w' => e = .returned (.bool y) ∧ R w' := hx ▸ h
theorem calls_val {P : Program} {f : FuncId} {args : Array Value} {w : World} {x y : Value} {R : World → Prop} (h : Calls P f args w fun e w' => e = .returned x ∧ R w') (hx : x = y) : Calls P f args w fun e w' => e = .returned y ∧ R w' := hx ▸ h
/-- What is asked of the belief but for its duties. -/
def headB (b : BldV) (car : Int) (s : BelV) : Bool :=
  decide (validN b = 0) && inR 0 ((b.cars.length : Int) - 1) car && inR (-1) (b.fl - 1) s.fl && inR 0 3 s.dir && inR 0 3 s.door && inR 0 1000000 s.still && !(s.late && decide (0 < s.du.length))
def dutyB (b : BldV) (dl : Int) (d : Duty) : Bool := callB b d.1 d.2.1 && inR 0 dl d.2.2
/-- The first k duties are in order and in range. -/
def stepB (b : BldV) (dl : Int) (l : List Duty) (i : Nat) : Bool := match l[i]? with
    | none => true
    | some d => dutyB b dl d && (match i with | 0 => true | j + 1 => match l[j]? with | none => true | some e => decide (cmpD e d < 0))
def dutiesB (b : BldV) (dl : Int) (l : List Duty) (k : Nat) : Bool := (List.range k).all (stepB b dl l)
theorem dutiesB_succ (b : BldV) (dl : Int) (l : List Duty) (k : Nat) : dutiesB b dl l (k + 1) = (dutiesB b dl l k && stepB b dl l k) := by
  unfold dutiesB
  rw [List.range_succ, List.all_append]; simp
theorem dutiesB_bad (b : BldV) (dl : Int) (l : List Duty) (k n : Nat) (hk : k < n) (h : stepB b dl l k = false) : dutiesB b dl l n = false := by
  unfold dutiesB
  rw [List.all_eq_false]
  exact ⟨k, List.mem_range.2 hk, by simp [h]⟩
def dlOf (b : BldV) (car : Int) : Int := (b.cars[car.toNat]?.map CarV.dl).getD 0
def stateB (b : BldV) (car : Int) (s : BelV) : Bool := headB b car s && dutiesB b (dlOf b car) s.du s.du.length
theorem inR_iff (lo hi x : Int) : inR lo hi x = true ↔ lo ≤ x ∧ x ≤ hi := by simp [inR]
theorem car_at (b : BldV) (car : Int) (h : inR 0 ((b.cars.length : Int) - 1) car = true) : ∃ c, 0 ≤ car ∧ car < (b.cars.length : Int) ∧ b.cars[car.toNat]? = some c ∧ dlOf b car = c.dl := by
  obtain ⟨h0, h1⟩ := (inR_iff _ _ _).1 h
  have hn : car.toNat < b.cars.length := by omega
  exact ⟨b.cars[car.toNat], h0, by omega, List.getElem?_eq_getElem hn, by simp [dlOf, hn]⟩
theorem RdD.reg {w : World} {q : Option Addr} {l : List Duty} (h : RdD w q l) {i : Nat} {d : Duty} (hi : l[i]? = some d) : ∃ A, q = some A ∧ A.block < w.heap.size ∧
    (∀ W, Grow.Cl w.drew W → W.cell? (A.add (i * 3)) = some (.int .i64 d.1)) ∧ (∀ W, Grow.Cl w.drew W → W.cell? ⟨(A.add (i * 3)).block, (A.add (i * 3)).off + 1, none⟩ = some (.int .i64 d.2.1)) ∧ (∀ W, Grow.Cl w.drew W → W.cell? ⟨(A.add (i * 3)).block, (A.add (i * 3)).off + 2, none⟩ = some (.int .i64 d.2.2)) := by
  obtain ⟨A, hq, hA, hc⟩ := h i d hi
  refine ⟨A, hq, hA, fun W hW => cell_later (Grow.Cl.base hW) (hc 0 _ rfl), fun W hW => cell_later (Grow.Cl.base hW) ?_, fun W hW => cell_later (Grow.Cl.base hW) ?_⟩
  · rw [← addr_one]; exact hc 1 _ rfl
  · rw [← addr_one]; exact hc 2 _ rfl
theorem RdD.at {w : World} {q : Option Addr} {l : List Duty} (h : RdD w q l) {i : Nat} {d : Duty} (hi : l[i]? = some d) : ∃ A, q = some A ∧ A.block < w.heap.size ∧
    w.cell? (A.add (i * 3)) = some (.int .i64 d.1) ∧ w.cell? ⟨(A.add (i * 3)).block, (A.add (i * 3)).off + 1, none⟩ = some (.int .i64 d.2.1) ∧ w.cell? ⟨(A.add (i * 3)).block, (A.add (i * 3)).off + 2, none⟩ = some (.int .i64 d.2.2) := by
  obtain ⟨A, hq, hA, hc⟩ := h i d hi
  refine ⟨A, hq, hA, hc 0 _ rfl, ?_, ?_⟩
  · rw [← addr_one]; exact hc 1 _ rfl
  · rw [← addr_one]; exact hc 2 _ rfl
theorem RdC.reg0 {w : World} {q : Option Addr} {l : List CarV} (h : RdC w q l) {i : Nat} {c : CarV} (hi : l[i]? = some c) : ∃ A, q = some A ∧ A.block < w.heap.size ∧ ∀ W, Grow.Cl w.drew W → W.cell? (A.add (i * 9)) = some (.int .i64 c.dl) := by
  obtain ⟨A, hq, hA, hc⟩ := h i c hi
  exact ⟨A, hq, hA, fun W hW => cell_later (Grow.Cl.base hW) (hc 0 _ rfl)⟩
end Go.Proofs.Ytfmmiafdlfdfoaa
