/- Small functions: ranges, the comparison of numbers, what is wired and allowed. Conditions: none. · Regions that draw their order and make one block on the way: where it lies depends on the order; that it is new and what it holds does not. Conditions: none. · The walk over the order of duties. Conditions: none. · The belief as data, and small words for the walks over it. Conditions: none. · The walks over the observations of the reference: which are observations, and which call they show. Conditions: none. -/
import Derived.Test.YtgoojlfpngmdlaaZBld
import Derived.Test.YtgoojlfpngmdlaaZIsCall
import Derived.Test.YtgoojlfpngmdlaaZCallsEach
namespace Go.Proofs.Ytgoojlfpngmdlaa
open Go.RowKit
def wiredB (p : Int) : Bool := decide (p = 0) || decide (p = 1)

set_option maxHeartbeats 400000 in
theorem isNaN_any (x : Int) (w : World) :
    Calls Try.prog 62 #[.int .i64 x] w fun e w' => e = .returned (.bool false) ∧ Below w.heap.size w w' := by
  go_enter Try.func62, Try.ntmps62
  go_wp2_with fail
  go_ret
  exact ⟨by simp, Below.refl _ _⟩
def cmpI (x y : Int) : Int := if x < y then -1 else if y < x then 1 else 0
set_option maxHeartbeats 400000 in
theorem cmp_any (x y : Int) (w : World) :
    Calls Try.prog 60 #[.int .i64 x, .int .i64 y] w fun e w' => e = .returned (.int .i64 (cmpI x y)) ∧ Below w.heap.size w w' := by
  go_enter Try.func60, Try.ntmps60
  go_wp2_with fail
  refine (isNaN_any x _).mono ?_
  rintro e w1 ⟨rfl, hb1⟩
  go_wp2_with fail
  refine (isNaN_any y _).mono ?_
  rintro e w2 ⟨rfl, hb2⟩
  have hb := hb1.trans (hb2.mono hb1.size)
  by_cases h1 : x < y
  · go_wp2_with fail
    all_goals (go_ret; exact ⟨by simp [cmpI, h1], hb⟩)
  · by_cases h2 : y < x
    · go_wp2_with fail
      all_goals (go_ret; exact ⟨by simp [cmpI, h1, h2], hb⟩)
    · go_wp2_with fail
      all_goals (go_ret; exact ⟨by rw [cmpI, if_neg (by omega), if_neg (by omega)]; rfl, hb⟩)
def orL (l : List Int) : Int := (l.find? (fun x => x != 0)).getD 0
set_option maxHeartbeats 1000000 in
theorem or_any (v : Value) (l : List Int) (w : World) (hl : l.length ≤ 1000) (hr : RdI w v l) :
    Calls Try.prog 59 #[v] w fun e w' => e = .returned (.int .i64 (orL l)) ∧ Below w.heap.size w w' := by
  obtain ⟨q, cap, rfl, hc⟩ := hr
  obtain ⟨n, hn⟩ : ∃ n, n = l.length := ⟨_, rfl⟩
  rw [← hn] at hl ⊢
  have HN := Lib.hid hn; have HC := Lib.hid hc
  clear hn hc
  go_enter Try.func59, Try.ntmps59
  go_wp2_with fail
  go_loopw [8] (fun v wr => ∃ i : Nat, i ≤ n ∧ v = .int .i64 i ∧ (l.take i).find? (fun x => x != 0) = none ∧ Below w.heap.size w wr) (fun v _ => n - (intOf v).toNat)
  case atStart => exact ⟨0, by omega, rfl, rfl, Below.refl _ _⟩
  case round =>
    obtain ⟨i, hi', rfl, hall, hb⟩ := hrel
    have hsz := hb.size
    by_cases hlt : i < n
    · have hd : decide ((i : Int) < (n : Int)) = true := by simp; omega
      obtain ⟨x, hx⟩ : ∃ x, l[i]? = some x := ⟨_, List.getElem?_eq_getElem (by rw [← HN.out]; exact hlt)⟩
      obtain ⟨A, rfl, hA, hcell⟩ := HC.out i x hx
      have c0 : wr.cell? (A.add i) = some (.int .i64 x) := by rw [hb.cell (by rw [addr_block]; exact hA)]; exact hcell
      have hsplit : l = l.take i ++ (x :: l.drop (i + 1)) := by
        have hi2 : i < l.length := (List.getElem?_eq_some_iff.1 hx).1
        have := (List.getElem?_eq_some_iff.1 hx).2
        rw [← this, ← List.drop_eq_getElem_cons hi2, List.take_append_drop]
      have H1 := Lib.hid hx; have H2 := Lib.hid hall; have H3 := Lib.hid hsplit
      clear hx hcell hall hA hsplit
      by_cases h1 : x = 0
      · subst h1
        go_wp2_with fail
        exact ⟨⟨i + 1, by omega, by go_num, by rw [List.take_add_one, H1.out, List.find?_append, H2.out]; rfl, hb⟩, by simp [intOf]; omega⟩
      · have e : (x == 0) = false := by simpa using h1
        have e2 : orL l = x := by
          unfold orL
          rw [H3.out, List.find?_append, H2.out]
          simp [h1]
        have HE := Lib.hid e2
        clear e2
        go_wp2_with fail
        go_ret
        exact ⟨by rw [HE.out]; rfl, hb⟩
    · have e1 : decide ((i : Int) < (n : Int)) = false := by simp; omega
      have e : orL l = 0 := by
        unfold orL
        rw [show i = l.length by rw [← HN.out]; omega, List.take_length] at hall
        rw [hall]; rfl
      have HE := Lib.hid e
      clear e hall
      go_wp2_with fail
      go_ret
      exact ⟨by rw [HE.out]; rfl, hb⟩
end Go.Proofs.Ytgoojlfpngmdlaa
namespace Go.Proofs.Ytgoojlfpngmdlaa
open Go.RowKit

def mkR (mk : Nat → Value) (lo : Nat) (xs : List Value) : Array Value → Value → World → Prop := fun _ v w => ∃ b, v = mk b ∧ lo ≤ b ∧ Blk w b xs
def mkPlan (k : Nat) (mk : Nat → Value) (lo : Nat) (xs : List Value) : Grow.Plan := fun i => if i = k then some (mkR mk lo xs) else none
theorem mkPlan_stable (k : Nat) (mk : Nat → Value) (lo : Nat) (xs : List Value) : (mkPlan k mk lo xs).stable := by
  intro i r h _ v w w' hr hb
  unfold mkPlan at h
  split at h
  · cases h
    obtain ⟨b, hv, hlo, hT⟩ := hr
    exact ⟨b, hv, hlo, hT.next hb⟩
  · cases h
section
variable {P : Program} {ops : Array Oper} {md : Region.Mode} {w0 : World} {Q : Act → Grow.Facts → Prop} {rest : List Oper} {a : Act} {T : Grow.Facts} {o : Oper}
theorem lex_mk (j : Nat) (mk : Nat → Value) (lo : Nat) (xs : List Value) (ty : TypeId) (hw : Region.wanted o (yielded ops a.tmps) = true) (hz : ∀ w, (execOp a.eval o).run P w = .ok (.value (mk w.heap.size)) (w.alloc (.cells xs.toArray ty))) (hlo : lo ≤ w0.heap.size)
    (h : ∀ b, lo ≤ b → Grow.lexR P ops md w0 (mkPlan j mk lo xs) Q (j + 1) rest (a.put o.dst (mk b)) (Grow.upd T j (mkR mk lo xs (Grow.vals o a) (mk b)))) :
    Grow.lexR P ops md w0 (mkPlan j mk lo xs) Q j (o :: rest) a T := by
  unfold Grow.lexR
  rw [if_pos hw]
  have e : mkPlan j mk lo xs j = some (mkR mk lo xs) := if_pos rfl
  unfold Grow.opR
  simp only [e]
  refine ⟨fun w hC _ => ?_, fun v hW => ?_⟩
  · unfold Grow.yields
    rw [hz w]
    exact ⟨below1' _ _, w.heap.size, rfl, Nat.le_trans hlo hC.size, Blk.new _ _ _⟩
  · obtain ⟨w, _, hT⟩ := hW
    obtain ⟨_, ⟨b, rfl, hb, _⟩⟩ := Grow.Holds.of_upd hT
    exact h b hb
theorem mk_blk {j lo b : Nat} {mk : Nat → Value} {ys : List Value} {xs : Array Value} {w : World} (hinj : ∀ x y, mk x = mk y → x = y) (h : Grow.Holds (Grow.upd T j (mkR mk lo ys xs (mk b))) w) : Blk w b ys := by
  obtain ⟨_, b', hb, _, hT⟩ := Grow.Holds.of_upd h
  rw [hinj _ _ hb]
  exact hT
end
end Go.Proofs.Ytgoojlfpngmdlaa
namespace Go.Proofs.Ytgoojlfpngmdlaa
open Go.RowKit

/-- A duty: floor, direction, age. -/
abbrev Duty : Type := Int × Int × Int
abbrev Duty.cells (d : Duty) : List Value := [.int .i64 d.1, .int .i64 d.2.1, .int .i64 d.2.2]
abbrev cvD (d : Duty) : Value := .agg #[.int .i64 d.1, .int .i64 d.2.1, .int .i64 d.2.2]
def cmpD (x y : Duty) : Int := orL [cmpI x.1 y.1, cmpI x.2.1 y.2.1]
def newI2 (g : Nat) : Value := .slice (some ⟨g, 0, none⟩) 2 2
theorem newI2_inj (x y : Nat) (h : newI2 x = newI2 y) : x = y := by unfold newI2 at h; simpa using h
theorem rdI_blk {w : World} {g : Nat} {a b : Int} (h : Blk w g [.int .i64 a, .int .i64 b]) : RdI w (newI2 g) [a, b] := by
  refine ⟨_, _, rfl, fun i x hx => ⟨⟨g, 0, none⟩, rfl, h.lt, ?_⟩⟩
  have hi : i < 2 := (List.getElem?_eq_some_iff.1 hx).1
  rw [Addr.add_lit, Nat.zero_add]
  match i, hi with
  | 0, _ => simp at hx; subst hx; exact h.cell 0 _ rfl
  | 1, _ => simp at hx; subst hx; exact h.cell 1 _ rfl
theorem mk_fact {mk : Nat → Value} {lo g : Nat} {ys : List Value} {xs : Array Value} {w : World} (hinj : ∀ x y, mk x = mk y → x = y) (h : mkR mk lo ys xs (mk g) w) : Blk w g ys := by
  obtain ⟨b, hb, _, hT⟩ := h
  rw [hinj _ _ hb]; exact hT
end Go.Proofs.Ytgoojlfpngmdlaa
namespace Go.Proofs.Ytgoojlfpngmdlaa
open Go.RowKit

/-- A belief: floor, direction, door, duties, still, late. -/
structure BelV where
  fl : Int
  dir : Int
  door : Int
  du : List Duty
  still : Int
  late : Bool
abbrev BelV.cells (s : BelV) (q : Option Addr) (cap : Nat) : List Value := [.int .i64 s.fl, .int .i64 s.dir, .int .i64 s.door, .slice q s.du.length cap, .int .i64 s.still, .bool s.late]
abbrev cvS (s : BelV) (q : Option Addr) (cap : Nat) : Value := .agg #[.int .i64 s.fl, .int .i64 s.dir, .int .i64 s.door, .slice q s.du.length cap, .int .i64 s.still, .bool s.late]
/-- The slice from q on holds the duties. -/
def RdD (w : World) (q : Option Addr) (l : List Duty) : Prop := ∀ i d, l[i]? = some d → ∃ A, q = some A ∧ A.block < w.heap.size ∧ ∀ j u, d.cells[j]? = some u → w.cell? (A.add (i * 3 + j)) = some u
theorem RdD.next {w w' : World} {q : Option Addr} {l : List Duty} (h : RdD w q l) (hb : Below w.heap.size w w') : RdD w' q l := by
  intro i c hc
  obtain ⟨A, hq, hA, hcell⟩ := h i c hc
  refine ⟨A, hq, Nat.lt_of_lt_of_le hA hb.size, fun j u hu => ?_⟩
  rw [hb.cell (by rw [addr_block]; exact hA)]
  exact hcell j u hu
theorem base_cell {W w1 : World} (hb : Below W.heap.size W w1) : ∀ b o, b < W.heap.size → w1.cell? ⟨b, o, none⟩ = W.cell? ⟨b, o, none⟩ := fun b o h => hb.cell (p := ⟨b, o, none⟩) h
theorem Blk.reg {W : World} {b : Nat} {xs : List Value} (h : Blk W b xs) (i : Nat) (v : Value) (hv : xs[i]? = some v) : ∀ W', Grow.Cl W.drew W' → W'.cell? ⟨b, i, none⟩ = some v := fun _ hW => cell_later (Grow.Cl.base hW) (h.cell i v hv)
theorem calls_bool {P : Program} {f : FuncId} {args : Array Value} {w : World} {x y : Bool} {R : World → Prop} (h : Calls P f args w fun e w' => e = .returned (.bool x) ∧ R w') (hx : x = y) : Calls P f args w fun e w' => e = .returned (.bool y) ∧ R w' := hx ▸ h
theorem calls_val {P : Program} {f : FuncId} {args : Array Value} {w : World} {x y : Value} {R : World → Prop} (h : Calls P f args w fun e w' => e = .returned x ∧ R w') (hx : x = y) : Calls P f args w fun e w' => e = .returned y ∧ R w' := hx ▸ h
/-- What is asked of the belief but for its duties. -/
def headB (b : BldV) (car : Int) (s : BelV) : Bool :=
  decide (validN b = 0) && inR 0 ((b.cars.length : Int) - 1) car && inR (-1) (b.fl - 1) s.fl && inR 0 3 s.dir && inR 0 3 s.door && inR 0 1000000 s.still && !(s.late && decide (0 < s.du.length))
def dutyB (b : BldV) (dl : Int) (d : Duty) : Bool := callB b d.1 d.2.1 && inR 0 dl d.2.2
/-- The first k duties are in order and in range. -/
def stepB (b : BldV) (dl : Int) (l : List Duty) (i : Nat) : Bool := match l[i]? with
    | none => true
    | some d => dutyB b dl d && (match i with | 0 => true | j + 1 => match l[j]? with | none => true | some e => decide (cmpD e d < 0))
def dutiesB (b : BldV) (dl : Int) (l : List Duty) (k : Nat) : Bool := (List.range k).all (stepB b dl l)
theorem dutiesB_succ (b : BldV) (dl : Int) (l : List Duty) (k : Nat) : dutiesB b dl l (k + 1) = (dutiesB b dl l k && stepB b dl l k) := by
  unfold dutiesB
  rw [List.range_succ, List.all_append]; simp
theorem dutiesB_bad (b : BldV) (dl : Int) (l : List Duty) (k n : Nat) (hk : k < n) (h : stepB b dl l k = false) : dutiesB b dl l n = false := by
  unfold dutiesB
  rw [List.all_eq_false]
  exact ⟨k, List.mem_range.2 hk, by simp [h]⟩
def dlOf (b : BldV) (car : Int) : Int := (b.cars[car.toNat]?.map CarV.dl).getD 0
def stateB (b : BldV) (car : Int) (s : BelV) : Bool := headB b car s && dutiesB b (dlOf b car) s.du s.du.length
theorem inR_iff (lo hi x : Int) : inR lo hi x = true ↔ lo ≤ x ∧ x ≤ hi := by simp [inR]
theorem car_at (b : BldV) (car : Int) (h : inR 0 ((b.cars.length : Int) - 1) car = true) : ∃ c, 0 ≤ car ∧ car < (b.cars.length : Int) ∧ b.cars[car.toNat]? = some c ∧ dlOf b car = c.dl := by
  obtain ⟨h0, h1⟩ := (inR_iff _ _ _).1 h
  have hn : car.toNat < b.cars.length := by omega
  exact ⟨b.cars[car.toNat], h0, by omega, List.getElem?_eq_getElem hn, by simp [dlOf, hn]⟩
theorem RdD.reg {w : World} {q : Option Addr} {l : List Duty} (h : RdD w q l) {i : Nat} {d : Duty} (hi : l[i]? = some d) : ∃ A, q = some A ∧ A.block < w.heap.size ∧
    (∀ W, Grow.Cl w.drew W → W.cell? (A.add (i * 3)) = some (.int .i64 d.1)) ∧ (∀ W, Grow.Cl w.drew W → W.cell? ⟨(A.add (i * 3)).block, (A.add (i * 3)).off + 1, none⟩ = some (.int .i64 d.2.1)) ∧ (∀ W, Grow.Cl w.drew W → W.cell? ⟨(A.add (i * 3)).block, (A.add (i * 3)).off + 2, none⟩ = some (.int .i64 d.2.2)) := by
  obtain ⟨A, hq, hA, hc⟩ := h i d hi
  refine ⟨A, hq, hA, fun W hW => cell_later (Grow.Cl.base hW) (hc 0 _ rfl), fun W hW => cell_later (Grow.Cl.base hW) ?_, fun W hW => cell_later (Grow.Cl.base hW) ?_⟩
  · rw [← addr_one]; exact hc 1 _ rfl
  · rw [← addr_one]; exact hc 2 _ rfl
theorem RdD.at {w : World} {q : Option Addr} {l : List Duty} (h : RdD w q l) {i : Nat} {d : Duty} (hi : l[i]? = some d) : ∃ A, q = some A ∧ A.block < w.heap.size ∧
    w.cell? (A.add (i * 3)) = some (.int .i64 d.1) ∧ w.cell? ⟨(A.add (i * 3)).block, (A.add (i * 3)).off + 1, none⟩ = some (.int .i64 d.2.1) ∧ w.cell? ⟨(A.add (i * 3)).block, (A.add (i * 3)).off + 2, none⟩ = some (.int .i64 d.2.2) := by
  obtain ⟨A, hq, hA, hc⟩ := h i d hi
  refine ⟨A, hq, hA, hc 0 _ rfl, ?_, ?_⟩
  · rw [← addr_one]; exact hc 1 _ rfl
  · rw [← addr_one]; exact hc 2 _ rfl
theorem RdC.reg0 {w : World} {q : Option Addr} {l : List CarV} (h : RdC w q l) {i : Nat} {c : CarV} (hi : l[i]? = some c) : ∃ A, q = some A ∧ A.block < w.heap.size ∧ ∀ W, Grow.Cl w.drew W → W.cell? (A.add (i * 9)) = some (.int .i64 c.dl) := by
  obtain ⟨A, hq, hA, hc⟩ := h i c hi
  exact ⟨A, hq, hA, fun W hW => cell_later (Grow.Cl.base hW) (hc 0 _ rfl)⟩
end Go.Proofs.Ytgoojlfpngmdlaa
namespace Go.Proofs.Ytgoojlfpngmdlaa
open Go.RowKit
/-- An observation: floor, direction, door. -/
abbrev ObsV : Type := Int × Int × Int
def okB (n : Int) : Bool := decide (2 ≤ n) && decide (n ≤ 32)
def obsB (n : Int) (o : ObsV) : Bool := okB n && inR (-1) (n - 1) o.1 && inR 0 3 o.2.1 && inR 0 3 o.2.2
def showsV (n : Int) (o : ObsV) : CS :=
  if obsB n o = true ∧ o.2.2 = 1 ∧ 0 ≤ o.1 then (if o.2.1 = 1 ∧ o.1 < n - 1 then (bit o.1, 0#32) else if o.2.1 = 2 ∧ 0 < o.1 then (0#32, bit o.1) else (0#32, 0#32)) else (0#32, 0#32)
end Go.Proofs.Ytgoojlfpngmdlaa
