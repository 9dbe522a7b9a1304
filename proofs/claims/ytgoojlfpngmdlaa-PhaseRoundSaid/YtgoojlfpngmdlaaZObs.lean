/- The belief as data, and small words for the walks over it. Conditions: none. · The walks over the observations of the reference: which are observations, and which call they show. Conditions: none. -/
import Derived.Test.YtgoojlfpngmdlaaZIsCall
import Derived.Test.YtgoojlfpngmdlaaZCmp
import Derived.Test.YtgoojlfpngmdlaaZCalls
namespace Go.Proofs.Ytgoojlfpngmdlaa
open Go.RowKit

/-- A belief: floor, direction, door, duties, still, late. -/
structure BelV where
  fl : Int
  dir : Int
  door : Int
  du : List Duty
  still : Int
  late : Bool
abbrev BelV.cells (s : BelV) (q : Option Addr) (cap : Nat) : List Value := [.int .i64 s.fl, .int .i64 s.dir, .int .i64 s.door, .slice q s.du.length cap, .int .i64 s.still, .bool s.late]
abbrev cvS (s : BelV) (q : Option Addr) (cap : Nat) : Value := .agg #[.int .i64 s.fl, .int .i64 s.dir, .int .i64 s.door, .slice q s.du.length cap, .int .i64 s.still, .bool s.late]
/-- The slice from q on holds the duties. -/
def RdD (w : World) (q : Option Addr) (l : List Duty) : Prop := ∀ i d, l[i]? = some d → ∃ A, q = some A ∧ A.block < w.heap.size ∧ ∀ j u, d.cells[j]? = some u → w.cell? (A.add (i * 3 + j)) = some u
theorem RdD.next {w w' : World} {q : Option Addr} {l : List Duty} (h : RdD w q l) (hb : Below w.heap.size w w') : RdD w' q l := by
  intro i c hc
  obtain ⟨A, hq, hA, hcell⟩ := h i c hc
  refine ⟨A, hq, Nat.lt_of_lt_of_le hA hb.size, fun j u hu => ?_⟩
  rw [hb.cell (by rw [addr_block]; exact hA)]
  exact hcell j u hu
theorem base_cell {W w1 : World} (hb : Below W.heap.size W w1) : ∀ b o, b < W.heap.size → w1.cell? ⟨b, o, none⟩ = W.cell? ⟨b, o, none⟩ := fun b o h => hb.cell (p := ⟨b, o, none⟩) h
theorem Blk.reg {W : World} {b : Nat} {xs : List Value} (h : Blk W b xs) (i : Nat) (v : Value) (hv : xs[i]? = some v) : ∀ W', Grow.Cl W.drew W' → W'.cell? ⟨b, i, none⟩ = some v := fun _ hW => cell_later (Grow.Cl.base hW) (h.cell i v hv)
theorem calls_bool {P : Program} {f : FuncId} {args : Array Value} {w : World} {x y : Bool} {R : World → Prop} (h : Calls P f args w fun e w' => e = .returned (.bool x) ∧ R w') (hx : x = y) : Calls P f args w fun e w' => e = .returned (.bool y) ∧ R w' := hx ▸ h
theorem calls_val {P : Program} {f : FuncId} {args : Array Value} {w : World} {x y : Value} {R : World → Prop} (h : Calls P f args w fun e w' => e = .returned x ∧ R w') (hx : x = y) : Calls P f args w fun e w' => e = .returned y ∧ R w' := hx ▸ h
/-- What is asked of the belief but for its duties. -/
def headB (b : BldV) (car : Int) (s : BelV) : Bool :=
  decide (validN b = 0) && inR 0 ((b.cars.length : Int) - 1) car && inR (-1) (b.fl - 1) s.fl && inR 0 3 s.dir && inR 0 3 s.door && inR 0 1000000 s.still && !(s.late && decide (0 < s.du.length))
def dutyB (b : BldV) (dl : Int) (d : Duty) : Bool := callB b d.1 d.2.1 && inR 0 dl d.2.2
/-- The first k duties are in order and in range. -/
def stepB (b : BldV) (dl : Int) (l : List Duty) (i : Nat) : Bool := match l[i]? with
    | none => true
    | some d => dutyB b dl d && (match i with | 0 => true | j + 1 => match l[j]? with | none => true | some e => decide (cmpD e d < 0))
def dutiesB (b : BldV) (dl : Int) (l : List Duty) (k : Nat) : Bool := (List.range k).all (stepB b dl l)
theorem dutiesB_succ (b : BldV) (dl : Int) (l : List Duty) (k : Nat) : dutiesB b dl l (k + 1) = (dutiesB b dl l k && stepB b dl l k) := by
  unfold dutiesB
  rw [List.range_succ, List.all_append]; simp
theorem dutiesB_bad (b : BldV) (dl : Int) (l : List Duty) (k n : Nat) (hk : k < n) (h : stepB b dl l k = false) : dutiesB b dl l n = false := by
  unfold dutiesB
  rw [List.all_eq_false]
  exact ⟨k, List.mem_range.2 hk, by simp [h]⟩
def dlOf (b : BldV) (car : Int) : Int := (b.cars[car.toNat]?.map CarV.dl).getD 0
def stateB (b : BldV) (car : Int) (s : BelV) : Bool := headB b car s && dutiesB b (dlOf b car) s.du s.du.length
theorem inR_iff (lo hi x : Int) : inR lo hi x = true ↔ lo ≤ x ∧ x ≤ hi := by simp [inR]
theorem car_at (b : BldV) (car : Int) (h : inR 0 ((b.cars.length : Int) - 1) car = true) : ∃ c, 0 ≤ car ∧ car < (b.cars.length : Int) ∧ b.cars[car.toNat]? = some c ∧ dlOf b car = c.dl := by
  obtain ⟨h0, h1⟩ := (inR_iff _ _ _).1 h
  have hn : car.toNat < b.cars.length := by omega
  exact ⟨b.cars[car.toNat], h0, by omega, List.getElem?_eq_getElem hn, by simp [dlOf, hn]⟩
theorem RdD.reg {w : World} {q : Option Addr} {l : List Duty} (h : RdD w q l) {i : Nat} {d : Duty} (hi : l[i]? = some d) : ∃ A, q = some A ∧ A.block < w.heap.size ∧
    (∀ W, Grow.Cl w.drew W → W.cell? (A.add (i * 3)) = some (.int .i64 d.1)) ∧ (∀ W, Grow.Cl w.drew W → W.cell? ⟨(A.add (i * 3)).block, (A.add (i * 3)).off + 1, none⟩ = some (.int .i64 d.2.1)) ∧ (∀ W, Grow.Cl w.drew W → W.cell? ⟨(A.add (i * 3)).block, (A.add (i * 3)).off + 2, none⟩ = some (.int .i64 d.2.2)) := by
  obtain ⟨A, hq, hA, hc⟩ := h i d hi
  refine ⟨A, hq, hA, fun W hW => cell_later (Grow.Cl.base hW) (hc 0 _ rfl), fun W hW => cell_later (Grow.Cl.base hW) ?_, fun W hW => cell_later (Grow.Cl.base hW) ?_⟩
  · rw [← addr_one]; exact hc 1 _ rfl
  · rw [← addr_one]; exact hc 2 _ rfl
theorem RdD.at {w : World} {q : Option Addr} {l : List Duty} (h : RdD w q l) {i : Nat} {d : Duty} (hi : l[i]? = some d) : ∃ A, q = some A ∧ A.block < w.heap.size ∧
    w.cell? (A.add (i * 3)) = some (.int .i64 d.1) ∧ w.cell? ⟨(A.add (i * 3)).block, (A.add (i * 3)).off + 1, none⟩ = some (.int .i64 d.2.1) ∧ w.cell? ⟨(A.add (i * 3)).block, (A.add (i * 3)).off + 2, none⟩ = some (.int .i64 d.2.2) := by
  obtain ⟨A, hq, hA, hc⟩ := h i d hi
  refine ⟨A, hq, hA, hc 0 _ rfl, ?_, ?_⟩
  · rw [← addr_one]; exact hc 1 _ rfl
  · rw [← addr_one]; exact hc 2 _ rfl
theorem RdC.reg0 {w : World} {q : Option Addr} {l : List CarV} (h : RdC w q l) {i : Nat} {c : CarV} (hi : l[i]? = some c) : ∃ A, q = some A ∧ A.block < w.heap.size ∧ ∀ W, Grow.Cl w.drew W → W.cell? (A.add (i * 9)) = some (.int .i64 c.dl) := by
  obtain ⟨A, hq, hA, hc⟩ := h i c hi
  exact ⟨A, hq, hA, fun W hW => cell_later (Grow.Cl.base hW) (hc 0 _ rfl)⟩
end Go.Proofs.Ytgoojlfpngmdlaa
namespace Go.Proofs.Ytgoojlfpngmdlaa
open Go.RowKit
/-- An observation: floor, direction, door. -/
abbrev ObsV : Type := Int × Int × Int
def okB (n : Int) : Bool := decide (2 ≤ n) && decide (n ≤ 32)
def obsB (n : Int) (o : ObsV) : Bool := okB n && inR (-1) (n - 1) o.1 && inR 0 3 o.2.1 && inR 0 3 o.2.2
def showsV (n : Int) (o : ObsV) : CS :=
  if obsB n o = true ∧ o.2.2 = 1 ∧ 0 ≤ o.1 then (if o.2.1 = 1 ∧ o.1 < n - 1 then (bit o.1, 0#32) else if o.2.1 = 2 ∧ 0 < o.1 then (0#32, bit o.1) else (0#32, 0#32)) else (0#32, 0#32)
end Go.Proofs.Ytgoojlfpngmdlaa
