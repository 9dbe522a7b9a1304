/- The building of ContractRelays is valid; its traces, one mark by one. Conditions: those of each theorem. · The frame that all laws of this seat share: a function of plain data that returns true and leaves all memory that was there as it was, whatever its arguments: from its walk to the row's step. Conditions: none beyond the row's own. · Taking a law's arguments apart: a pair of bytes, a slice of bytes. Conditions: none. -/
import Derived.Test.YtfmmiafdlfdfoaaZRelF
import Derived.Test.YtfmmiafdlfdfoaaZValid18
import Derived.Test.YtfmmiafdlfdfoaaRows
import Derived.WalkKit
import Derived.ProofKit
import Derived.OpenShut
import Derived.ShutString
import Derived.ChangeOld
import Derived.Below
import Derived.SizedLaws
import Derived.ChangeCalls
import Derived.Lib.SmallJoins
import Derived.Test.YtfmmiafdlfdfoaaZTrace
import Derived.ChangeSlices
namespace Go.Proofs.Ytfmmiafdlfdfoaa
namespace Rel
open Go.RowKit
def bR (n t : Nat) (L : List CarV) : BldV := ⟨fl18 n, 1, 4000, 1 + (t : Int) % 7, 4591870180066957722, 4605380978949069210, 4607632778762754458, L⟩
def L15 (n t : Nat) : List CarV := (List.range (k18 n)).map (c15 t (fl18 n))
def withD (c : CarV) (D : Int) : CarV := ⟨D, c.pu, c.qu, c.sl, c.st, c.tr, c.dw, c.ho, c.hm⟩
theorem timesR (t : Nat) (fl : Int) (i : Nat) (D : Int) (h2 : 2 ≤ fl) (hD : 1 ≤ D ∧ D ≤ 10000) : timesB (withD (c15 t fl i) D) fl = true := by
  have h0 := Int.emod_nonneg ((i : Int) + t) (show fl ≠ 0 by omega)
  have h1 := Int.emod_lt_of_pos ((i : Int) + t) (show 0 < fl by omega)
  unfold timesB
  have e1 : inAll 1 10000 [(withD (c15 t fl i) D).dl, (withD (c15 t fl i) D).pu, (withD (c15 t fl i) D).qu, (withD (c15 t fl i) D).st, (withD (c15 t fl i) D).tr, (withD (c15 t fl i) D).dw, (withD (c15 t fl i) D).ho] = true := by
    have a0 : inR 1 10000 (withD (c15 t fl i) D).dl = true := inR_true hD.1 hD.2
    have a3 : inR 1 10000 (withD (c15 t fl i) D).st = true := inR_true (by show 1 ≤ 1 + (t : Int) % 3; omega) (by show 1 + (t : Int) % 3 ≤ 10000; omega)
    have a4 : inR 1 10000 (withD (c15 t fl i) D).tr = true := inR_true (by show 1 ≤ 1 + (t : Int) / 3 % 3; omega) (by show 1 + (t : Int) / 3 % 3 ≤ 10000; omega)
    have a5 : inR 1 10000 (withD (c15 t fl i) D).dw = true := inR_true (by show 1 ≤ 1 + (t : Int) / 9 % 3; omega) (by show 1 + (t : Int) / 9 % 3 ≤ 10000; omega)
    have a6 : inR 1 10000 (withD (c15 t fl i) D).ho = true := inR_true (by show 1 ≤ 1 + (t : Int) / 9 % 3 + (t : Int) / 27 % 5; omega) (by show 1 + (t : Int) / 9 % 3 + (t : Int) / 27 % 5 ≤ 10000; omega)
    simp only [inAll, List.all_cons, List.all_nil, a0, a3, a4, a5, a6]
    rfl
  have e2 : inAll 0 10000 [(withD (c15 t fl i) D).sl] = true := by rfl
  have e3 : decide ((withD (c15 t fl i) D).dw ≤ (withD (c15 t fl i) D).ho) = true := decide_eq_true (by show 1 + (t : Int) / 9 % 3 ≤ 1 + (t : Int) / 9 % 3 + (t : Int) / 27 % 5; omega)
  have e4 : inAll 0 (fl - 1) [(withD (c15 t fl i) D).hm] = true := by rw [inAll_one]; show 0 ≤ ((i : Int) + t) % fl ∧ ((i : Int) + t) % fl ≤ fl - 1; omega
  rw [e1, e2, e3, e4]
  rfl
theorem validR (n t : Nat) (L : List CarV) (hk : L.length = k18 n) (hL : ∀ c ∈ L, timesB c (fl18 n) = true) : validN (bR n t L) = 0 := by
  obtain ⟨f2, f6⟩ := fl18_range n
  obtain ⟨k1, k3⟩ := k18_range n
  have e1 : inAll 2 32 [(bR n t L).fl] = true := by rw [inAll_one]; show 2 ≤ fl18 n ∧ fl18 n ≤ 32; omega
  have el : ((bR n t L).cars.length : Int) = k18 n := by show (L.length : Int) = _; rw [hk]
  have e2 : inAll 1 8 [((bR n t L).cars.length : Int)] = true := by rw [inAll_one, el]; omega
  have e3 : goodB (bR n t L) (bR n t L).cars.length = true := by
    unfold goodB
    rw [List.take_length]
    have a1 : inAll 1 16 [(bR n t L).deb] = true := by rw [inAll_one]; show (1 : Int) ≤ 1 ∧ (1 : Int) ≤ 16; omega
    have a2 : inAll 1 10000 [(bR n t L).park] = true := by rw [inAll_one]; show 1 ≤ 1 + (t : Int) % 7 ∧ 1 + (t : Int) % 7 ≤ 10000; omega
    rw [a1, a2]
    show (true && true && L.all (timesB · (fl18 n))) = true
    rw [Bool.true_and, Bool.true_and, List.all_eq_true]
    exact hL
  have e4 : loadsB (bR n t L) = true := by
    obtain ⟨l1, l2, l3, l4⟩ := loads18
    show (flt 0 4591870180066957722 && flt 4591870180066957722 4605380978949069210 && flt 4605380978949069210 4607632778762754458 && fle 4607632778762754458 9218868437227405311) = true
    rw [l1, l2, l3, l4]; rfl
  have e5 : inAll (18 * ((bR n t L).cars.length : Int) + 24) 65536 [(bR n t L).room] = true := by
    rw [inAll_one, el]; show 18 * (k18 n : Int) + 24 ≤ 4000 ∧ (4000 : Int) ≤ 65536; omega
  unfold validN
  rw [e1, e2, e3, e4, e5]
  rfl
/-- The cars with another deadline of the first. -/
def LD (n t : Nat) (D : Int) : List CarV := (L15 n t).set 0 (withD (c15 t (fl18 n) 0) D)
theorem L15_len (n t : Nat) : (L15 n t).length = k18 n := by simp [L15]
theorem LD_len (n t : Nat) (D : Int) : (LD n t D).length = k18 n := by simp [LD, L15]
theorem c15_same (t : Nat) (fl : Int) (i : Nat) : withD (c15 t fl i) 100 = c15 t fl i := rfl
theorem L15_times (n t : Nat) : ∀ c ∈ L15 n t, timesB c (fl18 n) = true := by
  intro c hc
  obtain ⟨i, _, rfl⟩ := List.mem_map.1 hc
  have := timesR t (fl18 n) i 100 (fl18_range n).1 (by omega)
  rwa [c15_same] at this
theorem LD_times (n t : Nat) (D : Int) (hD : 1 ≤ D ∧ D ≤ 10000) : ∀ c ∈ LD n t D, timesB c (fl18 n) = true := by
  intro c hc
  rcases List.mem_or_eq_of_mem_set hc with h | rfl
  · exact L15_times n t c h
  · exact timesR t (fl18 n) 0 D (fl18_range n).1 hD
theorem LD_slack (n t : Nat) (D : Int) : ∀ c ∈ LD n t D, -9223372036854775808 ≤ c.sl ∧ c.sl < 9223372036854775807 := by
  intro c hc
  rcases List.mem_or_eq_of_mem_set hc with h | rfl
  · obtain ⟨i, _, rfl⟩ := List.mem_map.1 h
    show (-9223372036854775808 : Int) ≤ 5 ∧ (5 : Int) < 9223372036854775807
    omega
  · show (-9223372036854775808 : Int) ≤ 5 ∧ (5 : Int) < 9223372036854775807
    omega
theorem L15_slack (n t : Nat) : ∀ c ∈ L15 n t, -9223372036854775808 ≤ c.sl ∧ c.sl < 9223372036854775807 := by
  intro c hc
  obtain ⟨i, _, rfl⟩ := List.mem_map.1 hc
  show (-9223372036854775808 : Int) ≤ 5 ∧ (5 : Int) < 9223372036854775807
  omega
theorem L15_zero (n t : Nat) : (L15 n t)[0]? = some (c15 t (fl18 n) 0) := by
  have := (k18_range n).1
  unfold L15
  rw [List.getElem?_map, List.getElem?_range (by omega)]; rfl
theorem LD_zero (n t : Nat) (D : Int) : (LD n t D)[0]? = some (withD (c15 t (fl18 n) 0) D) := by
  have := (k18_range n).1
  unfold LD
  rw [List.getElem?_set]
  simp [L15_len]; omega
theorem cfg15 (t : Nat) (fl : Int) : CfgOk ⟨(c15 t fl 0).st, (c15 t fl 0).tr, (c15 t fl 0).dw⟩ := by
  refine ⟨⟨?_, ?_⟩, ⟨?_, ?_⟩, ?_, ?_⟩
  · show 1 ≤ 1 + (t : Int) % 3; omega
  · show 1 + (t : Int) % 3 ≤ 1000; omega
  · show 1 ≤ 1 + (t : Int) / 3 % 3; omega
  · show 1 + (t : Int) / 3 % 3 ≤ 1000; omega
  · show 1 ≤ 1 + (t : Int) / 9 % 3; omega
  · show 1 + (t : Int) / 9 % 3 ≤ 1000; omega
theorem prom15 (n t : Nat) : 0 ≤ promise (fl18 n) ⟨(c15 t (fl18 n) 0).st, (c15 t (fl18 n) 0).tr, (c15 t (fl18 n) 0).dw⟩ ∧ promise (fl18 n) ⟨(c15 t (fl18 n) 0).st, (c15 t (fl18 n) 0).tr, (c15 t (fl18 n) 0).dw⟩ ≤ 700 := by
  obtain ⟨f2, f6⟩ := fl18_range n
  have hs : 1 ≤ (c15 t (fl18 n) 0).st ∧ (c15 t (fl18 n) 0).st ≤ 3 := by show 1 ≤ 1 + (t : Int) % 3 ∧ 1 + (t : Int) % 3 ≤ 3; omega
  have ht : 1 ≤ (c15 t (fl18 n) 0).tr ∧ (c15 t (fl18 n) 0).tr ≤ 3 := by show 1 ≤ 1 + (t : Int) / 3 % 3 ∧ 1 + (t : Int) / 3 % 3 ≤ 3; omega
  have hd : 1 ≤ (c15 t (fl18 n) 0).dw ∧ (c15 t (fl18 n) 0).dw ≤ 3 := by show 1 ≤ 1 + (t : Int) / 9 % 3 ∧ 1 + (t : Int) / 9 % 3 ≤ 3; omega
  unfold promise wid cyc
  simp only
  generalize (c15 t (fl18 n) 0).st = a at *
  generalize (c15 t (fl18 n) 0).tr = b at *
  generalize (c15 t (fl18 n) 0).dw = c at *
  generalize fl18 n = f at *
  refine ⟨Int.mul_nonneg (by omega) (by omega), ?_⟩
  exact Int.le_trans (Int.mul_le_mul_of_nonneg_right (show 3 * f + 1 ≤ 19 by omega) (by omega)) (by omega)
/-! ### Traces -/
def TrOk (n : Int) (H : CS) (c : CfgV) (i : Nat) (s : RelV) (L : List MarkV) : Prop := ∃ cI pI, s = stR n H c cI pI i ∧ L = trR n H c cI pI i
theorem trOk_zero (n : Int) (H : CS) (c : CfgV) : TrOk n H c 0 (newV 0) [] := ⟨fun _ => (0#32, 0#32), fun _ => 0#32, rfl, rfl⟩
theorem trOk_step {n : Int} {H : CS} {c : CfgV} {i : Nat} {s : RelV} {L : List MarkV} (h : TrOk n H c i s L) (inj : CS) (press : BitVec 32) : TrOk n H c (i + 1) (stepV n H c s inj press) (L ++ [(inj, obsR s)]) := by
  obtain ⟨cI, pI, rfl, rfl⟩ := h
  have hs : ∀ j, j ≤ i → stR n H c (fun k => if k = i then inj else cI k) (fun k => if k = i then press else pI k) j = stR n H c cI pI j := by
    intro j
    induction j with
    | zero => intro _; rfl
    | succ j ih =>
      intro hj
      unfold stR
      rw [ih (by omega), if_neg (by omega), if_neg (by omega)]
  refine ⟨fun k => if k = i then inj else cI k, fun k => if k = i then press else pI k, ?_, ?_⟩
  · show _ = stepV n H c (stR n H c _ _ i) _ _
    rw [hs i (Nat.le_refl _)]
    simp
  · unfold trR
    rw [List.range_succ, List.map_append, List.map_singleton]
    congr 1
    · apply List.map_congr_left
      intro j hj
      have hj := List.mem_range.1 hj
      unfold markR
      rw [hs j (by omega)]
      simp only
      rw [if_neg (by omega)]
    · unfold markR
      rw [hs i (Nat.le_refl _)]
      simp
theorem trOk_len {n : Int} {H : CS} {c : CfgV} {i : Nat} {s : RelV} {L : List MarkV} (h : TrOk n H c i s L) : L.length = i := by
  obtain ⟨cI, pI, _, rfl⟩ := h
  unfold trR; simp
theorem trOk_ok {n : Int} {H : CS} {c : CfgV} {i : Nat} {s : RelV} {L : List MarkV} (hH : HallOk n H) (hc : CfgOk c) (h : TrOk n H c i s L) : Ok n H c s := by
  obtain ⟨cI, pI, rfl, _⟩ := h
  exact stR_ok hH hc i
theorem trOk_keeps {b : BldV} {c : CfgV} {i : Nat} {s : RelV} {L : List MarkV} (hv : validN b = 0) (hc : CfgOk c) (hd : dlOf b 0 = promise b.fl c + 1) (hi : i ≤ 5000) (h : TrOk b.fl (hallC b) c i s L) : keepsB b 0 L = true := by
  obtain ⟨cI, pI, _, rfl⟩ := h
  exact relay_keeps hv hc hd hi
end Rel
end Go.Proofs.Ytfmmiafdlfdfoaa
namespace Go.Proofs.Ytfmmiafdlfdfoaa
open Go.ChangeShapes Go.WideShapes Go.ChangeAt Go.RowKit

theorem trodAll_below {H : Type} {enc : TypeId × Value → H} {P : Program} (hl : laidOutB P = true) {W W' : World} (hb : Below W.heap.size W W') :
    ∀ {ts : List TypeId} {vs : List Value} {ds : List (DataW H)} {ps : List MemPlace}, ts.all (fun t => P.readableRec t && decide (t < P.types.size)) = true →
      (∀ x ∈ ps, x.block < W.heap.size) → DataW.TrodAll enc P W 0 (fun _ => true) true ts vs ds ps → DataW.TrodAll enc P W' 0 (fun b => decide (b < W.heap.size)) true ts vs ds ps := by
  intro ts
  induction ts with
  | nil =>
    intro vs ds ps _ _ h
    obtain ⟨rfl, rfl, rfl⟩ := trodAll_nil h
    exact trodAll_mk0
  | cons t ts ih =>
    intro vs ds ps hr hlt h
    obtain ⟨v, vs', d, ds', p, q, rfl, rfl, rfl, hd, hrest⟩ := trodAll_cons h
    simp only [List.all_cons, Bool.and_eq_true, decide_eq_true_eq] at hr
    exact trodAll_cons_mk (Below.trod hl hr.1.1 hr.1.2 hd hb (fun x hx => hlt x (by simp [hx])))
      (ih (by simpa using hr.2) (fun x hx => hlt x (by simp [hx])) hrest)

theorem law_lifted {C : Checked} {os : Os} {f : FuncId} {fn : Func} {s : ChangeSpec} (own : ownKnob C.prog.godebug = none) (hl : laidOutB C.prog = true) (started : os.Started) (noInit : C.prog.inits.idxOf? f = none) (hfn : C.prog.funcs[f]? = some fn)
    (tb : TypeId) (hres : fn.resultTypes = #[tb]) (hbool : C.prog.underlying tb = some .bool) (hrec : fn.params.toList.all (fun t => C.prog.readableRec t && decide (t < C.prog.types.size)) = true) (hvars : s.vars = [])
    (H : Type) (enc : TypeId × Value → H)
    (hspec : ∀ (ds : List (DataW H)), ds.length = fn.params.toList.length → s.fn H (ds ++ []) = { results := [.lit (.bool true)], args := ds })
    (witness : ∃ (w : World) (tape : Tape) (i : Input), w.os = os ∧ (w.forCall tape i).Shaped C.prog ∧ i.vars = [] ∧ Input.okWide C.prog (w.forCall tape i) .any w.heap.size f i ∧
      s.pre6 enc C.prog fn [] false (w.forCall tape i).memory i.args ∧ ({} : Assume).holds C.prog (lone (Frame.enter C.prog f i.args .normal) [] (w.forCall tape i)))
    (walk : ∀ (W : World) (base : Nat) (args : Array Value) (ds : List (DataW H)) (ps : List MemPlace),
      (∀ (j : Nat) t v, fn.params[j]? = some t → args[j]? = some v → Value.okWide C.prog W .any base t v) →
      DataW.TrodAll enc C.prog W 0 (fun _ => true) true fn.params.toList args.toList ds ps →
      (DataW.weightsEach C.prog (fn.params.toList ++ s.plain.varTypes C.prog) (ds ++ [])).all (· ≤ reachBytes) = true →
      Calls C.prog f args W fun e W' => e = .returned (.bool true) ∧ Below W.heap.size W W') :
    ReturnsInHanded {} C os f .any (s.pre6 enc C.prog fn [] false) (s.post enc C.prog fn false true false false) := by
  refine returnsInHanded_of_change_sized own started noInit hfn witness ?_
  intro W base args ds gs before hval hW _ hsz _
  have hW' := hW
  obtain ⟨p, q, hA, hV, rfl, hfz, hnd⟩ := hW
  rw [hvars] at hV
  obtain ⟨rfl, rfl⟩ := trodVars_none hV
  refine (walk W base args ds p hval hA hsz).mono fun e W' ⟨he, bel⟩ => ?_
  subst he
  have hlen : ds.length = fn.params.toList.length := (trodAll_length hA).2
  refine ⟨_, rfl, ds, [], p ++ [], [], p, [], by rw [← hvars] at hV; exact hW', ?_, ?_, ?_, bel.frame _, fun h => by cases h⟩
  · rw [hspec ds hlen, hres]; exact trodAll_mk1 (shut_bool hbool _)
  · rw [hspec ds hlen]; exact trodAll_below hl bel hrec hA.lt hA
  · rw [hspec ds hlen, hvars]; rfl

theorem own : ownKnob Try.prog.godebug = none := by kernel_rfl
theorem laidOut : laidOutB Try.prog = true := by kernel_rfl
end Go.Proofs.Ytfmmiafdlfdfoaa
namespace Go.Proofs.Ytfmmiafdlfdfoaa
open Go.ChangeShapes Go.WideShapes Go.ChangeAt Go.RowKit
section
variable {H : Type} {enc : TypeId × Value → H} {P : Program} {w : World} {base : Nat} {spare : Nat → Bool} {held : Bool}
theorem trod_array2 {t e : TypeId} {fuel : Nat} {c0 c1 : Value} {x : DataW H × List MemPlace} (ht : P.underlying t = some (.array 2 e)) (hce : P.cellsOf e = 1)
    (h : DataW.trod enc P w base spare held fuel t [c0, c1] = some x) :
    ∃ y0 y1 n, DataW.trod enc P w base spare held n e [c0] = some y0 ∧ DataW.trod enc P w base spare held n e [c1] = some y1 := by
  cases fuel with
  | zero => simp [DataW.trod] at h
  | succ n =>
    unfold DataW.trod at h
    rw [ht] at h
    have r2 : List.range 2 = [0, 1] := rfl
    simp [r2, hce] at h
    obtain ⟨_, h⟩ := h
    cases h0 : DataW.trod enc P w base spare held n e [c0] with
    | none => simp [h0] at h
    | some y0 =>
      cases h1 : DataW.trod enc P w base spare held n e [c1] with
      | none => simp [h0, h1] at h
      | some y1 => exact ⟨y0, y1, n, h0, h1⟩
theorem okWide_array {t e : TypeId} {n : Nat} {r : Reach} {b0 : Nat} {v : Value} (ht : P.underlying t = some (.array n e)) (h : Value.okWide P w r b0 t v) : ∃ cs, v = .agg cs ∧ cs.size = P.cellsOf t := by
  simp only [Value.okWide, ht] at h
  obtain ⟨cs, h1, h2, _⟩ := h
  exact ⟨cs, h1, h2⟩
theorem cell_blk {p : Addr} {v : Value} (h : w.cell? p = some v) : p.block < w.heap.size := by
  rcases Nat.lt_or_ge p.block w.heap.size with h' | h'
  · exact h'
  · unfold World.cell? at h; rw [Array.getElem?_eq_none h'] at h; simp at h
theorem u8_wf {n : Int} (h : (Lit.int .u8 n).wf = true) : ∃ a : Nat, n = (a : Int) ∧ a < 256 := by
  simp only [Lit.wf, Bool.and_eq_true, decide_eq_true_eq] at h
  obtain ⟨h0, h1⟩ := h
  have h1' : n ≤ 255 := h1
  have h0' : 0 ≤ n := h0
  obtain ⟨m, rfl⟩ := Int.eq_ofNat_of_zero_le h0'
  exact ⟨m, rfl, by omega⟩
end
section
variable {H : Type} {enc : TypeId × Value → H} {w : World}
set_option maxRecDepth 100000 in
theorem open_u8x2 {r : Reach} {b0 : Nat} {v : Value} {d : DataW H} {p : List MemPlace} (hv : Value.okWide Try.prog w r b0 22 v) (h : DataW.Trod enc Try.prog w 0 (fun _ => true) true 22 v d p) : ∃ a b : Nat, v = .agg #[.int .u8 a, .int .u8 b] ∧ a < 256 ∧ b < 256 := by
  obtain ⟨cs, rfl, hsz⟩ := okWide_array Try.underlying22 hv
  have hsz2 : cs.size = 2 := hsz.trans (by kernel_rfl)
  obtain ⟨c0, c1, rfl⟩ : ∃ c0 c1, cs = #[c0, c1] := by
    obtain ⟨l⟩ := cs
    match l, hsz2 with
    | [c0, c1], _ => exact ⟨c0, c1, rfl⟩
  obtain ⟨fuel, hf⟩ := h
  obtain ⟨y0, y1, n, h0, h1⟩ := trod_array2 Try.underlying22 (by kernel_rfl) hf
  obtain ⟨x, hx, _, wx⟩ := DataW.trod_int Try.underlying5 h0
  obtain ⟨y, hy, _, wy⟩ := DataW.trod_int Try.underlying5 h1
  obtain rfl : c0 = .int .u8 x := by simpa using hx
  obtain rfl : c1 = .int .u8 y := by simpa using hy
  obtain ⟨a, rfl, ha⟩ := u8_wf wx
  obtain ⟨b, rfl, hb⟩ := u8_wf wy
  exact ⟨a, b, rfl, ha, hb⟩
set_option maxRecDepth 100000 in
theorem open_u8s {r : Reach} {b0 : Nat} {v : Value} {d : DataW H} {p : List MemPlace} (hv : Value.okWide Try.prog w r b0 23 v) (h : DataW.Trod enc Try.prog w 0 (fun _ => true) true 23 v d p) : ∃ (l : List Nat) (q : Option Addr) (cap : Nat), v = .slice q l.length cap ∧ l.length ≤ maxLen ∧ RdU w q l := by
  obtain ⟨a, len, cap, rfl⟩ := okWide_slice Try.underlying23 hv
  obtain ⟨fuel, hf⟩ := h
  have hf' : DataW.trod enc Try.prog w 0 (fun _ => true) true fuel 23 [.slice a len cap] = some (d, p) := hf
  rcases open_ints Try.underlying23 Try.underlying5 (by kernel_rfl) hf' with ⟨h1, _⟩ | ⟨A, len', cap', zs, h1, _, hl, hm, hzl, _, hc, hwf⟩
  · have h2 := List.head_eq_of_cons_eq h1
    rw [h2]
    exact ⟨[], none, 0, rfl, by simp [maxLen], fun i e he => by simp at he⟩
  · have h2 := List.head_eq_of_cons_eq h1
    rw [h2]
    have hz : zs.length = cap' := by rw [hzl]; rfl
    have hlen : ((zs.take len').map Int.toNat).length = len' := by simp; omega
    refine ⟨(zs.take len').map Int.toNat, some A, cap', by rw [hlen], by rw [hlen]; omega, fun i x hx => ?_⟩
    rw [List.getElem?_map] at hx
    obtain ⟨z, hz', rfl⟩ := Option.map_eq_some_iff.1 hx
    have hi : i < len' := by
      have := (List.getElem?_eq_some_iff.1 hz').1
      simp at this; omega
    rw [List.getElem?_take_of_lt hi] at hz'
    obtain ⟨m, rfl, hm'⟩ := u8_wf (hwf z (List.mem_of_getElem? hz'))
    have hcc := hc i (by omega)
    have hg : zs.getD i 0 = (m : Int) := by rw [List.getD_eq_getElem?_getD, hz']; rfl
    rw [hg] at hcc
    refine ⟨by simpa using hm', A, rfl, ?_, by simpa using hcc⟩
    have := cell_blk hcc
    simpa [addr_block] using this
end
end Go.Proofs.Ytfmmiafdlfdfoaa
