/- A law for a region that draws its order: one walk in the text's order serves for its first n operations; what is left is the region with these done, in whatever order. Conditions: those of the theorem at the end. · The walk over belief.Observe. Conditions: cars and duties that can be read. · The walk over building.Hall. Conditions: cars that can be read. · The walk over belief.New. Conditions: none. · The walk over belief.Inject at the belief of the beginning and one call. Conditions: cars that can be read; a valid building. -/
import Derived.Test.YtfmmiafdlfdfoaaZGrowPair
import Derived.RegionTactic
import Derived.Test.YtfmmiafdlfdfoaaZAgedC
import Derived.Test.YtfmmiafdlfdfoaaZIndic
import Derived.Test.YtfmmiafdlfdfoaaZMade
import Derived.Test.YtfmmiafdlfdfoaaZInjectRef
import Derived.IntWalk
import Derived.Test.YtfmmiafdlfdfoaaZCallsEach
namespace Go.Proofs.Ytfmmiafdlfdfoaa.Grow
open Go Go.RowKit
def lexRestB (md : Region.Mode) (ops : Array Oper) (n m : Nat) : Bool :=
  Region.noSelect ops && decide (n + m = ops.size) && decide (0 < m) && Region.sinkB md ops n && chain2B md ops n && (Region.ready md ops (doneF n m)).all (fun j => decide (n ≤ j)) && lexHeadF md ops (doneF n m) n 0 (Array.replicate ops.size false)
theorem wp_region_rest {P : Program} {id : Nat} {Q : Exit → Act → World → Prop} {a : Act} {w : World} {l : List Oper} (n m : Nat) (pl : Plan) (hp : pl.stable) (hm : P.follows .mixedOrders = true) (hB : lexRestB .any l.toArray n m = true)
    (h0 : ∀ ops, Hid (ops = l.toArray) → lexR P ops .any w.drew pl (fun a' T' => ∀ w', Cl w.drew w' → Holds T' w' → wpAny P .any l.toArray Q m (doneF n m) a' w') 0 (l.take n) a (fun _ _ => True)) : (Code.region id l.toArray true).wp P Q a w := by
  have h := h0 _ rfl
  simp only [lexRestB, Bool.and_eq_true, decide_eq_true_eq] at hB
  obtain ⟨⟨⟨⟨⟨⟨hsel, hn⟩, hm0⟩, hs⟩, hch⟩, hfinB⟩, hlex⟩ := hB
  have hn4 : n + m = l.length := by simpa using hn
  have hn' : n < l.length := by omega
  have htl : (l.take n).length = n := by simp; omega
  have hfin : ∀ j ∈ Region.ready .any l.toArray (doneF n m), n ≤ j := fun j hj => by
    have := List.all_eq_true.1 hfinB j hj
    simpa using this
  have H := anyR_lexF (md := .any) hp hsel hfin (fun i listed hi inv hun j hj => by
      rcases Nat.lt_or_ge j n with h | h
      · exact h
      · exact absurd hj (tail_waits2 hs hch (by simpa using hn') inv _ i rfl hi hun j h)) (l.take n) 0 _ a _ (fun j hj => by
    have hj' : j < n := by rw [htl] at hj; exact hj
    simp [hj']) (by simpa using htl) (inv0 l n) (by rw [htl]; exact hlex) (fun _ _ _ _ _ => trivial) ⟨w.drew, Below.refl _ _, fun _ => trivial⟩ h
  refine wp_region_any hm ?_
  have := wpAny_of_anyR hp (Q := Q) (g := m) (fun listed a' T' w' hC _ hT hL => by
    rw [hL.1]
    exact hL.2 w' hC hT) _ _ _ _ w.drew (Below.refl _ _) (fun _ _ _ _ _ => trivial) (fun _ => trivial) H
  rw [htl, show n + m = l.toArray.size by simpa using hn] at this
  exact this
end Go.Proofs.Ytfmmiafdlfdfoaa.Grow
namespace Go.Proofs.Ytfmmiafdlfdfoaa
open Go.RowKit
theorem agedT_stable (lo : Nat) (L : List Duty) (late : Bool) (v : Value) : Grow.Stable (agedT lo L late v) := by
  intro w w' hw hb
  obtain ⟨q, cap, hv, hr, hl⟩ := hw
  exact ⟨q, cap, hv, hr.next hb, hl⟩
theorem agedT_lo {lo lo' : Nat} {L : List Duty} {late : Bool} {v : Value} {w : World} (h : agedT lo L late v w) (hl : lo' ≤ lo) : agedT lo' L late v w := by
  obtain ⟨q, cap, hv, hT, hlo⟩ := h
  exact ⟨q, cap, hv, hT, fun A hA => Nat.le_trans hl (hlo A hA)⟩
theorem agedT_form {lo : Nat} {L : List Duty} {late : Bool} {v : Value} {w : World} (h : agedT lo L late v w) : ∃ q cap, v = .tuple #[.slice q L.length cap, .bool late] := by
  obtain ⟨q, cap, hv, _⟩ := h
  exact ⟨q, cap, hv⟩
theorem agedT_out {lo cap : Nat} {L : List Duty} {late : Bool} {q : Option Addr} {w : World} (h : agedT lo L late (.tuple #[.slice q L.length cap, .bool late]) w) : RdD w q L ∧ ∀ A, q = some A → lo ≤ A.block := by
  obtain ⟨q', cap', hv, hr, hl⟩ := h
  obtain ⟨rfl, rfl⟩ : q = q' ∧ cap = cap' := by simpa using hv
  exact ⟨hr, hl⟩
end Go.Proofs.Ytfmmiafdlfdfoaa
namespace Go.Proofs.Ytfmmiafdlfdfoaa
open Go.RowKit
def hPure (n : Nat) (d : Int) : Nat → BitVec 32
  | 0 => 0#32
  | k + 1 => if isCallB (n : Int) (k : Int) d then hPure n d k ||| bit k else hPure n d k
theorem hUp_bad (b : BldV) (d : Int) (h : validN b ≠ 0) : ∀ k, hUp b d k = 0#32
  | 0 => rfl
  | k + 1 => by
    have e : callB b k d = false := by unfold callB; simp [h]
    unfold hUp; rw [e, hUp_bad b d h k]; rfl
theorem hUp_pure (b : BldV) (d : Int) (n : Nat) (hn : (n : Int) = b.fl) (h : validN b = 0) : ∀ k, hUp b d k = hPure n d k
  | 0 => rfl
  | k + 1 => by
    have e : callB b k d = isCallB (n : Int) k d := by unfold callB; rw [h, hn]; simp
    unfold hUp hPure; rw [e, hUp_pure b d n hn h k]
theorem hPure_val : ∀ n : Nat, n < 33 → 2 ≤ n → ((2 : Int) ^ (n - 1) - 1) % 4294967296 = ((hPure n 1 32).toNat : Int) ∧ ((2 : Int) ^ (n - 1) - 1) % 4294967296 * 2 % 4294967296 = ((hPure n 2 32).toNat : Int) := by decide +kernel
theorem hall_val (b : BldV) (h : validN b = 0) (h2 : 2 ≤ b.fl) (h32 : b.fl ≤ 32) : ((2 : Int) ^ (b.fl.toNat - 1) - 1) % 4294967296 = ((hallC b).1.toNat : Int) ∧ ((2 : Int) ^ (b.fl.toNat - 1) - 1) % 4294967296 * 2 % 4294967296 = ((hallC b).2.toNat : Int) := by
  have := hPure_val b.fl.toNat (by omega) (by omega)
  show _ = ((hUp b 1 32).toNat : Int) ∧ _ = ((hUp b 2 32).toNat : Int)
  rw [hUp_pure b 1 b.fl.toNat (by omega) h, hUp_pure b 2 b.fl.toNat (by omega) h]
  exact this
set_option maxHeartbeats 4000000 in
theorem hall_any (b : BldV) (q : Option Addr) (cap : Nat) (w : World) (hlen : b.cars.length ≤ 1000) (hr : RdC w q b.cars) :
    Calls Try.prog 59 #[cvB b q cap] w fun e w' => e = .returned (cv (hallC b)) ∧ Below w.heap.size w w' := by
  have X0 : Blk (w.alloc (.cells #[.int .i64 b.fl, .int .i64 b.deb, .int .i64 b.room, .int .i64 b.park, .float .f64 b.em, .float .f64 b.fu, .float .f64 b.ov, .slice q b.cars.length cap] 29)) w.heap.size [.int .i64 b.fl, .int .i64 b.deb, .int .i64 b.room, .int .i64 b.park, .float .f64 b.em, .float .f64 b.fu, .float .f64 b.ov, .slice q b.cars.length cap] := by
    have hx := Blk.new w [.int .i64 b.fl, .int .i64 b.deb, .int .i64 b.room, .int .i64 b.park, .float .f64 b.em, .float .f64 b.fu, .float .f64 b.ov, .slice q b.cars.length cap] 29
    exact hx
  replace X0 : Blk ((w.alloc (.cells #[.int .i64 b.fl, .int .i64 b.deb, .int .i64 b.room, .int .i64 b.park, .float .f64 b.em, .float .f64 b.fu, .float .f64 b.ov, .slice q b.cars.length cap] 29)).alloc (.cells #[.int .u32 0, .int .u32 0] 45)) w.heap.size [.int .i64 b.fl, .int .i64 b.deb, .int .i64 b.room, .int .i64 b.park, .float .f64 b.em, .float .f64 b.fu, .float .f64 b.ov, .slice q b.cars.length cap] := X0.next (below1' _ _)
  have X1 : Blk ((w.alloc (.cells #[.int .i64 b.fl, .int .i64 b.deb, .int .i64 b.room, .int .i64 b.park, .float .f64 b.em, .float .f64 b.fu, .float .f64 b.ov, .slice q b.cars.length cap] 29)).alloc (.cells #[.int .u32 0, .int .u32 0] 45)) (w.heap.size + 1) [.int .u32 0, .int .u32 0] := by
    have hx := Blk.new (w.alloc (.cells #[.int .i64 b.fl, .int .i64 b.deb, .int .i64 b.room, .int .i64 b.park, .float .f64 b.em, .float .f64 b.fu, .float .f64 b.ov, .slice q b.cars.length cap] 29)) [.int .u32 0, .int .u32 0] 45
    rw [World.size_alloc] at hx
    exact hx
  have XW : Below w.heap.size w (w.alloc (.cells #[.int .i64 b.fl, .int .i64 b.deb, .int .i64 b.room, .int .i64 b.park, .float .f64 b.em, .float .f64 b.fu, .float .f64 b.ov, .slice q b.cars.length cap] 29)) := below1' w _
  replace XW : Below w.heap.size w ((w.alloc (.cells #[.int .i64 b.fl, .int .i64 b.deb, .int .i64 b.room, .int .i64 b.park, .float .f64 b.em, .float .f64 b.fu, .float .f64 b.ov, .slice q b.cars.length cap] 29)).alloc (.cells #[.int .u32 0, .int .u32 0] 45)) := XW.trans ((below1' _ _).mono XW.size)
  have HWW := Lib.hid XW; have HX0 := Lib.hid X0; have HX1 := Lib.hid X1
  clear XW X0 X1
  have HR := Lib.hid (hr.next HWW.out)
  have HL := Lib.hid (show b.cars.length ≤ maxLen by unfold maxLen; omega)
  clear hr hlen
  go_enter Try.func59, Try.ntmps59
  go_wp2_with fail
  generalize ((w.alloc (.cells #[.int .i64 b.fl, .int .i64 b.deb, .int .i64 b.room, .int .i64 b.park, .float .f64 b.em, .float .f64 b.fu, .float .f64 b.ov, .slice q b.cars.length cap] 29)).alloc (.cells #[.int .u32 0, .int .u32 0] 45)) = w0 at *
  generalize hg1 : w.heap.size + 1 = g1 at *
  have HG1 := Lib.hid hg1; have hq1 : w.heap.size + 1 ≤ g1 := by omega
  clear hg1
  have HW := Lib.hid (Below.refl w0.heap.size w0)
  have hz0 := HX0.out.lt; have hz1 := HX1.out.lt
  have k0 := (HX0.out).cell 0 _ rfl
  have k1 := (HX0.out).cell 1 _ rfl
  have k2 := (HX0.out).cell 2 _ rfl
  have k3 := (HX0.out).cell 3 _ rfl
  have k4 := (HX0.out).cell 4 _ rfl
  have k5 := (HX0.out).cell 5 _ rfl
  have k6 := (HX0.out).cell 6 _ rfl
  have k7 := (HX0.out).cell 7 _ rfl
  refine (valid_any b q cap _ HL.out HR.out).mono ?_
  rintro e w1 ⟨rfl, hbn⟩
  have HWn := Lib.hid (HW.out.trans (hbn.mono HW.out.size))
  try clear c0
  clear HW hbn
  have HW := HWn
  clear HWn
  have c0 := base_cell HW.out
  have hfin : ∀ (wr : World) (x y : Int), Below w0.heap.size w0 wr → Blk ((wr.setCell ⟨g1, 0, none⟩ (.int .u32 x)).setCell ⟨g1, 1, none⟩ (.int .u32 y)) g1 [.int .u32 x, .int .u32 y] ∧ Below w.heap.size w ((wr.setCell ⟨g1, 0, none⟩ (.int .u32 x)).setCell ⟨g1, 1, none⟩ (.int .u32 y)) := by
    intro wr x y hb
    exact ⟨((HX1.out.later hb hz1).set 0 _).set 1 _, ((HWW.out.trans (hb.mono HWW.out.size)).setCell (p := ⟨g1, 0, none⟩) (by show w.heap.size ≤ g1; omega) _).setCell (p := ⟨g1, 1, none⟩) (by show w.heap.size ≤ g1; omega) _⟩
  have HF := Lib.hid hfin
  clear hfin
  have R1 := HX1.out.later HW.out hz1
  have z0 := (HX1.out).cell 0 _ rfl
  have z1 := (HX1.out).cell 1 _ rfl
  have f0 := R1.fr 0; have f1 := R1.fr 1
  clear R1
  by_cases hv : ¬ validN b = 0
  · have HV := Lib.hid hv
    have e1 : (validN b != 0) = true := by simpa using hv
    clear hv
    go_wp2_with fail
    obtain ⟨R8, hbf⟩ := HF.out w1 0 0 HW.out
    have r0 := (R8).cell 0 _ rfl
    have r1 := (R8).cell 1 _ rfl
    exact bodyPost_ret (v := cv (0#32, 0#32)) (by simp [results, Try.results59, go_sem, r0, r1]) rfl ⟨by have h1 := hUp_bad b 1 HV.out 32; have h2 := hUp_bad b 2 HV.out 32; unfold hallC; rw [h1, h2], hbf⟩
  · replace hv := Classical.not_not.1 hv
    obtain ⟨hf2, hf32⟩ := valid_fl b hv
    have HV := Lib.hid hv
    have e1 : (validN b != 0) = false := by simpa using hv
    clear hv
    go_wp2_with fail
    obtain ⟨hx, hy⟩ := hall_val b HV.out hf2 hf32
    simp only [hy]
    simp only [hx]
    obtain ⟨R8, hbf⟩ := HF.out w1 ((hallC b).1.toNat : Int) ((hallC b).2.toNat : Int) HW.out
    have r0 := (R8).cell 0 _ rfl
    have r1 := (R8).cell 1 _ rfl
    exact bodyPost_ret (v := cv (hallC b)) (by simp [results, Try.results59, go_sem, r0, r1]) rfl ⟨rfl, hbf⟩
end Go.Proofs.Ytfmmiafdlfdfoaa
namespace Go.Proofs.Ytfmmiafdlfdfoaa
open Go.RowKit
end Go.Proofs.Ytfmmiafdlfdfoaa
namespace Go.Proofs.Ytfmmiafdlfdfoaa
open Go.RowKit
theorem row_cap {w : World} {base cap n : Nat} {q : Option Addr} {e : TypeId} {size : Nat} {xs : List Value} (h : w.ownsRow base e size (.slice q n cap) n xs) : n ≤ cap := by
  rcases h.2 with ⟨hv, _⟩ | ⟨g, cap', cur, hv, _, _, hle, _⟩
  · simp at hv; omega
  · simp at hv; omega
set_option maxHeartbeats 1000000 in
theorem bsf_empty (q : Option Addr) (cap : Nat) (d : Duty) (f : Value) (w : World) :
    Calls Try.prog 60 #[.slice q 0 cap, .agg #[.int .i64 d.1, .int .i64 d.2.1, .int .i64 d.2.2], f] w fun e w' => e = .returned (.tuple #[.int .i64 0, .bool false]) ∧ Below w.heap.size w w' := by
  go_enter Try.func60, Try.ntmps60
  go_wp2_with fail
  go_loopw [9, 10] (fun v9 v10 wr => v9 = .int .i64 0 ∧ v10 = .int .i64 0 ∧ Below w.heap.size w wr) (fun _ _ _ => 0)
  case atStart => exact ⟨rfl, rfl, below1' _ _⟩
  case round =>
    obtain ⟨rfl, rfl, hb⟩ := hrel
    go_wp2_with fail
    go_region
    go_wp2_with fail
    refine bodyPost_ret (v := .tuple #[.int .i64 0, .bool false]) (by simp [results, Try.results60, go_sem]) rfl ?_
    exact ⟨rfl, ⟨hb.os, hb.tape, hb.output, hb.size, hb.block⟩⟩
set_option maxHeartbeats 1000000 in
set_option maxRecDepth 100000 in
theorem insert_end (v : Value) (base n cap g : Nat) (q : Option Addr) (L : List Duty) (d : Duty) (w : World) (hv : v = .slice q n cap) (hn : n ≤ 1000) (hown : w.ownsRow base 71 3 v n (dutyCells L)) (hb : base ≤ w.heap.size) (hg : Blk w g d.cells) :
    Calls Try.prog 62 #[.slice q n cap, .int .i64 n, .slice (some ⟨g, 0, none⟩) 1 1] w fun e w' => ∃ v', e = .returned v' ∧ w'.ownsRow base 71 3 v' (n + 1) (dutyCells (L ++ [d])) ∧ Below base w w' ∧ w.grownBy w' v.ownBlock := by
  obtain ⟨i0, hi, hy0, hy1, hy2⟩ := info_parts infoD
  have Hi := Lib.hid hi; have Hz0 := Lib.hid hy0; have Hz1 := Lib.hid hy1; have Hz2 := Lib.hid hy2
  clear hi hy0 hy1 hy2
  subst hv
  have HO := Lib.hid hown; have HG := Lib.hid hg
  clear hown hg
  have hc1 : n ≤ cap := row_cap HO.out
  go_enter Try.func62, Try.ntmps62
  go_wp2_with ((at_builtin; refine wpList_append_own _ rfl _ _ 36 rfl base 71 i0 (.agg #[.int .i64 0, .int .i64 0, .int .i64 0]) 3 24 Try.underlying36 Hi.out Hz0.out Hz1.out Hz2.out rfl (by decide) _ _ _ rfl HO.out ⟨g, 0, none⟩ 1 1 d.cells rfl rfl (blk_news HG.out) (duty_one _) (by unfold maxLen; omega) (by omega) (by omega) ?_))
  all_goals
    intro v' w9 hown2 hgr _
    have hb3 : Below base w w9 := (Below.refl base w).grown hgr hb (fun k hk => (HO.out.lt k (by cases q <;> exact hk)).1)
    have hown3 : w9.ownsRow base 71 3 v' (n + 1) (dutyCells (L ++ [d])) := by rw [dutyCells_snoc]; exact hown2
    have HGR : Hid (w.grownBy w9 (Value.slice q n cap).ownBlock) := Lib.hid ⟨hgr.os, hgr.tape, hgr.output, hgr.size, fun k hk hne => hgr.block k hk (by cases q <;> exact hne)⟩
    clear hown2 hgr
    go_wp2_with fail
    go_ret
    exact ⟨_, rfl, hown3, hb3, HGR.out⟩
theorem hall_one (b : BldV) (hv : validN b = 0) : listC (both (1#32, 0#32) (hallC b)) = [(0, 1)] := by
  obtain ⟨h2, h32⟩ := valid_fl b hv
  have key : ∀ n : Nat, n < 33 → 2 ≤ n → 1#32 &&& hPure n 1 32 = 1#32 := by decide +kernel
  have e1 : both (1#32, 0#32) (hallC b) = (1#32, 0#32) := by
    show ((1#32 &&& hUp b 1 32, 0#32 &&& hUp b 2 32) : CS) = _
    rw [hUp_pure b 1 b.fl.toNat (by omega) hv, key _ (by omega) (by omega)]
    simp
  rw [e1]
  decide +kernel
def entR (v : Value) (w : World) : Prop := ∃ g cap, v = .slice (some ⟨g, 0, none⟩) 1 cap ∧ g < w.heap.size ∧ ∀ j u, (entC (0, 1))[j]? = some u → w.cell? ⟨g, j, none⟩ = some u
theorem entR_stable (v : Value) : Grow.Stable (entR v) := by
  rintro w w' ⟨g, cap, hv, hg, hr⟩ hb
  exact ⟨g, cap, hv, Nat.lt_of_lt_of_le hg hb.size, fun j u hu => cell_later hb (hr j u hu)⟩
theorem entR_form {v : Value} {w : World} (h : entR v w) : ∃ g cap, v = .slice (some ⟨g, 0, none⟩) 1 cap := by
  obtain ⟨g, cap, hv, _⟩ := h
  exact ⟨g, cap, hv⟩
theorem entR_out {g : Nat} {cap : Nat} {w : World} (h : entR (.slice (some ⟨g, 0, none⟩) 1 cap) w) : g < w.heap.size ∧ ∀ j u, (entC (0, 1))[j]? = some u → w.cell? ⟨g, j, none⟩ = some u := by
  obtain ⟨g', cap', hv, hg, hr⟩ := h
  obtain ⟨rfl, rfl⟩ : g = g' ∧ cap = cap' := by simpa using hv
  exact ⟨hg, hr⟩
theorem entR_of {w : World} {base : Nat} {v : Value} (h : w.ownsRow base 53 5 v 1 (cells [(0, 1)])) : entR v w := by
  rcases h.2 with ⟨_, hx⟩ | ⟨g, cap, cur, hv, _⟩
  · cases hx
  · subst hv
    have hr := rdE_of_owns h (l := [(0, 1)]) rfl 0 (0, 1) rfl
    obtain ⟨A, hq, hA, hc⟩ := hr
    obtain rfl : A = ⟨g, 0, none⟩ := by simpa using hq.symm
    refine ⟨g, cap, rfl, hA, fun j u hu => ?_⟩
    have := hc j u hu
    simpa [Addr.add_lit] using this
def oneB : BelV := ⟨-1, 0, 0, [(0, 1, 0)], 0, false⟩
end Go.Proofs.Ytfmmiafdlfdfoaa
