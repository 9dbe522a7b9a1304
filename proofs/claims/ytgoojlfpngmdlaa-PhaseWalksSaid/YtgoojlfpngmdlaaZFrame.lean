/- The walk over overlaylaw25.calms: it hands back a row of as many bools as there are cars. Conditions: at most 100 cars. · The frame that all laws of this seat share: a function of plain data that returns true and leaves all memory that was there as it was, whatever its arguments: from its walk to the row's step. Conditions: none beyond the row's own. -/
import Derived.Test.YtgoojlfpngmdlaaZAuto
import Derived.Test.YtgoojlfpngmdlaaRows
import Derived.WalkKit
import Derived.ProofKit
import Derived.OpenShut
import Derived.ShutString
import Derived.ChangeOld
import Derived.Below
import Derived.SizedLaws
import Derived.ChangeCalls
import Derived.Lib.SmallJoins
namespace Go.Proofs.Ytgoojlfpngmdlaa
open Go.RowKit
theorem app_bool {W1 w : World} {ops : Array Oper} {rest : List Oper} {o : Oper} {a : Act} {Q : Exit → Act → World → Prop} (hgd : o.guard = none) (s x : Operand) (ho : o.op = .call { callee := .builtin .append, args := #[s, x], argTypes := #[32, 32] })
    (L : List Bool) (r : Bool) (n : Nat) (v : Value) (hs : a.eval s = v) (hx : a.eval x = .slice (some ⟨w.heap.size, 0, none⟩) 1 1) (hown : w.ownsRow W1.heap.size 4 1 v n (boolCells L)) (hb : Below W1.heap.size W1 w) (hL : n ≤ 100000)
    (h : ∀ v' w', w'.ownsRow W1.heap.size 4 1 v' (n + 1) (boolCells (L ++ [r])) → Below W1.heap.size W1 w' → wpList Try.prog ops Q rest (a.put o.dst v') w') : wpList Try.prog ops Q (o :: rest) a (w.alloc (.cells #[.bool r] 4)) := by
  obtain ⟨i0, hi, hy0, hy1, hy2⟩ := info_parts infoBo
  have hb2 := hb.trans ((below1' w (.cells #[.bool r] 4)).mono hb.size)
  refine wpList_ap (m := 1) (news := [.bool r]) hgd s x ho Try.underlying32 hi hy0 hy1 hy2 rfl (by decide) hs hx (rowLater hown (below1' _ _)) rfl (rdX_of_blk (Blk.new w [.bool r] 4)) (bool_one r) (by unfold maxLen; omega) (by omega) hb2.size fun v' w' h1 h2 => h v' w' ?_ ?_
  · rw [boolCells_snoc]; exact h1
  · exact hb2.grown h2 hb2.size (fun g hg => (hown.lt g hg).1)
set_option maxHeartbeats 2000000 in
theorem calms_any (b : BldV) (q : Option Addr) (cap : Nat) (n : Nat) (w : World) (hn : n < 256) (hlen : b.cars.length ≤ 100) :
    Calls Try.prog 12 #[cvB b q cap, .int .u8 n] w fun r w' => ∃ v C, r = .returned v ∧ C.length = b.cars.length ∧ w'.ownsRow w.heap.size 4 1 v b.cars.length (boolCells C) ∧ Below w.heap.size w w' := by
  have X0 : Blk (w.alloc (.cells #[.int .i64 b.fl, .int .i64 b.deb, .int .i64 b.room, .int .i64 b.park, .float .f64 b.em, .float .f64 b.fu, .float .f64 b.ov, .slice q b.cars.length cap] 29)) w.heap.size [.int .i64 b.fl, .int .i64 b.deb, .int .i64 b.room, .int .i64 b.park, .float .f64 b.em, .float .f64 b.fu, .float .f64 b.ov, .slice q b.cars.length cap] := by
    have hx := Blk.new w [.int .i64 b.fl, .int .i64 b.deb, .int .i64 b.room, .int .i64 b.park, .float .f64 b.em, .float .f64 b.fu, .float .f64 b.ov, .slice q b.cars.length cap] 29
    exact hx
  have XW : Below w.heap.size w (w.alloc (.cells #[.int .i64 b.fl, .int .i64 b.deb, .int .i64 b.room, .int .i64 b.park, .float .f64 b.em, .float .f64 b.fu, .float .f64 b.ov, .slice q b.cars.length cap] 29)) := below1' w _
  have HWW := Lib.hid XW; have HX0 := Lib.hid X0
  clear XW X0
  go_enter Try.func12, Try.ntmps12
  go_upto_region 1 with fail
  generalize (w.alloc (.cells #[.int .i64 b.fl, .int .i64 b.deb, .int .i64 b.room, .int .i64 b.park, .float .f64 b.em, .float .f64 b.fu, .float .f64 b.ov, .slice q b.cars.length cap] 29)) = w0 at *
  have HW := Lib.hid (Below.refl w0.heap.size w0)
  have hz0 := HX0.out.lt
  obtain ⟨k, hk⟩ : ∃ k, b.cars.length = k := ⟨_, rfl⟩
  rw [hk] at hlen
  have HK := Lib.hid hk
  clear hk
  go_wp2_with fail
  go_loopw [5, 6] (fun v5 v wr => ∃ (i : Nat) (C : List Bool), i ≤ k ∧ v = .int .i64 i ∧ C.length = i ∧ wr.ownsRow w0.heap.size 4 1 v5 i (boolCells C) ∧ Below w0.heap.size w0 wr) (fun _ v _ => k - (intOf v).toNat)
  case atStart => exact ⟨0, [], by omega, rfl, rfl, World.ownsRow_nil _ _ _ _, HW.out⟩
  case round =>
    clear HW
    obtain ⟨i, C, hi, rfl, hC, hown, hb⟩ := hrel
    have HB := Lib.hid hb; have HO := Lib.hid hown; have HC := Lib.hid hC
    clear hb hown hC
    have k7 := (HX0.out.next HB.out).cell 7 _ rfl
    rw [HK.out] at k7
    by_cases hlt : i < k
    · have hd : decide ((i : Int) < (k : Int)) = true := by simp; omega
      have hi0 : (0 : Int) ≤ (i : Int) := by omega
      have hi1 : (i : Int) < 100 := by omega
      have hn0 : (0 : Int) ≤ (n : Int) := by omega
      have hn1 : (n : Int) < 256 := by omega
      go_wp2_with (at_builtin; refine app_bool rfl _ _ rfl C _ i _ rfl rfl HO.out HB.out (by omega) ?_)
      intro v' w' ho hb'
      have HO2 := Lib.hid ho; have HB2 := Lib.hid hb'
      clear ho hb'
      generalize (bits BinOp.and IntKind.u8 ((n : Int) / 2 ^ min i 8) 1 == 1) = x at *
      go_wp2_with fail
      exact ⟨⟨i + 1, C ++ [x], by omega, by go_num, by rw [List.length_append, HC.out]; rfl, HO2.out, HB2.out⟩, by simp [intOf]; omega⟩
    · have hd : decide ((i : Int) < (k : Int)) = false := by simp; omega
      obtain rfl : i = k := by omega
      go_wp2_with fail
      go_ret
      exact ⟨_, C, rfl, by rw [HC.out, HK.out], by rw [HK.out]; exact row_base HO.out HWW.out.size, HWW.out.trans (HB.out.mono HWW.out.size)⟩
end Go.Proofs.Ytgoojlfpngmdlaa
namespace Go.Proofs.Ytgoojlfpngmdlaa
open Go.ChangeShapes Go.WideShapes Go.ChangeAt Go.RowKit

theorem trodAll_below {H : Type} {enc : TypeId × Value → H} {P : Program} (hl : laidOutB P = true) {W W' : World} (hb : Below W.heap.size W W') :
    ∀ {ts : List TypeId} {vs : List Value} {ds : List (DataW H)} {ps : List MemPlace}, ts.all (fun t => P.readableRec t && decide (t < P.types.size)) = true →
      (∀ x ∈ ps, x.block < W.heap.size) → DataW.TrodAll enc P W 0 (fun _ => true) true ts vs ds ps → DataW.TrodAll enc P W' 0 (fun b => decide (b < W.heap.size)) true ts vs ds ps := by
  intro ts
  induction ts with
  | nil =>
    intro vs ds ps _ _ h
    obtain ⟨rfl, rfl, rfl⟩ := trodAll_nil h
    exact trodAll_mk0
  | cons t ts ih =>
    intro vs ds ps hr hlt h
    obtain ⟨v, vs', d, ds', p, q, rfl, rfl, rfl, hd, hrest⟩ := trodAll_cons h
    simp only [List.all_cons, Bool.and_eq_true, decide_eq_true_eq] at hr
    exact trodAll_cons_mk (Below.trod hl hr.1.1 hr.1.2 hd hb (fun x hx => hlt x (by simp [hx])))
      (ih (by simpa using hr.2) (fun x hx => hlt x (by simp [hx])) hrest)

theorem law_lifted {C : Checked} {os : Os} {f : FuncId} {fn : Func} {s : ChangeSpec} (own : ownKnob C.prog.godebug = none) (hl : laidOutB C.prog = true) (started : os.Started) (noInit : C.prog.inits.idxOf? f = none) (hfn : C.prog.funcs[f]? = some fn)
    (tb : TypeId) (hres : fn.resultTypes = #[tb]) (hbool : C.prog.underlying tb = some .bool) (hrec : fn.params.toList.all (fun t => C.prog.readableRec t && decide (t < C.prog.types.size)) = true) (hvars : s.vars = [])
    (H : Type) (enc : TypeId × Value → H)
    (hspec : ∀ (ds : List (DataW H)), ds.length = fn.params.toList.length → s.fn H (ds ++ []) = { results := [.lit (.bool true)], args := ds })
    (witness : ∃ (w : World) (tape : Tape) (i : Input), w.os = os ∧ (w.forCall tape i).Shaped C.prog ∧ i.vars = [] ∧ Input.okWide C.prog (w.forCall tape i) .any w.heap.size f i ∧
      s.pre6 enc C.prog fn [] false (w.forCall tape i).memory i.args ∧ ({} : Assume).holds C.prog (lone (Frame.enter C.prog f i.args .normal) [] (w.forCall tape i)))
    (walk : ∀ (W : World) (base : Nat) (args : Array Value) (ds : List (DataW H)) (ps : List MemPlace),
      (∀ (j : Nat) t v, fn.params[j]? = some t → args[j]? = some v → Value.okWide C.prog W .any base t v) →
      DataW.TrodAll enc C.prog W 0 (fun _ => true) true fn.params.toList args.toList ds ps →
      (DataW.weightsEach C.prog (fn.params.toList ++ s.plain.varTypes C.prog) (ds ++ [])).all (· ≤ reachBytes) = true →
      Calls C.prog f args W fun e W' => e = .returned (.bool true) ∧ Below W.heap.size W W') :
    ReturnsInHanded {} C os f .any (s.pre6 enc C.prog fn [] false) (s.post enc C.prog fn false true false false) := by
  refine returnsInHanded_of_change_sized own started noInit hfn witness ?_
  intro W base args ds gs before hval hW _ hsz _
  have hW' := hW
  obtain ⟨p, q, hA, hV, rfl, hfz, hnd⟩ := hW
  rw [hvars] at hV
  obtain ⟨rfl, rfl⟩ := trodVars_none hV
  refine (walk W base args ds p hval hA hsz).mono fun e W' ⟨he, bel⟩ => ?_
  subst he
  have hlen : ds.length = fn.params.toList.length := (trodAll_length hA).2
  refine ⟨_, rfl, ds, [], p ++ [], [], p, [], by rw [← hvars] at hV; exact hW', ?_, ?_, ?_, bel.frame _, fun h => by cases h⟩
  · rw [hspec ds hlen, hres]; exact trodAll_mk1 (shut_bool hbool _)
  · rw [hspec ds hlen]; exact trodAll_below hl bel hrec hA.lt hA
  · rw [hspec ds hlen, hvars]; rfl

theorem own : ownKnob Try.prog.godebug = none := by kernel_rfl
theorem laidOut : laidOutB Try.prog = true := by kernel_rfl
end Go.Proofs.Ytgoojlfpngmdlaa
