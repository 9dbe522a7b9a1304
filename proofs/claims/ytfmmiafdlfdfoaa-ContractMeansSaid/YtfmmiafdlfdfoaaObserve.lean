/- The walk over overlayref19.Observe. Conditions: cars and duties that can be read; slack times that are no more than the greatest number less one. -/
import Derived.Test.YtfmmiafdlfdfoaaAged
import Derived.Test.YtfmmiafdlfdfoaaShows
import Derived.RegionTactic
namespace Go.Proofs.Ytfmmiafdlfdfoaa
open Go.RowKit
def stillV (s : BelV) (o : ObsV) : Int := if 0 ≤ o.1 ∧ o.2.2 = 2 ∧ o.2.1 = 0 then min (s.still + 1) 1000000 else 0
def zeroB : BelV := ⟨0, 0, 0, [], 0, false⟩
def obsOk (b : BldV) (car : Int) (s : BelV) (o : ObsV) : Bool := stateB b car s && obsB b.fl o
def observeV (b : BldV) (car : Int) (s : BelV) (o : ObsV) : BelV :=
  if obsOk b car s o then ⟨if 0 ≤ o.1 then o.1 else s.fl, o.2.1, o.2.2, (agedV b car s (showsV b.fl o)).du, stillV s o, (agedV b car s (showsV b.fl o)).late⟩ else zeroB
def errV (ok : Bool) : Int := if ok then 0 else 1
/-- A belief and an error. -/
def belE (lo : Nat) (V : BelV) (e : Int) (v : Value) (w : World) : Prop := ∃ q cap, v = .tuple #[cvS V q cap, .int .i64 e] ∧ RdD w q V.du ∧ ∀ A, q = some A → lo ≤ A.block
structure Keep (w : World) (g2 g3 : Nat) (q9 : Option Addr) (o : ObsV) (V : BelV) (wx : World) : Prop where
  res : Blk wx g3 [.int .i64 0, .int .i64 0, .int .i64 0, .slice none 0 0, .int .i64 0, .bool false]
  obs : Blk wx g2 [.int .i64 o.1, .int .i64 o.2.1, .int .i64 o.2.2]
  rd : RdD wx q9 V.du
  bel : Below w.heap.size w wx
theorem Keep.set {w wx : World} {g1 g2 g3 : Nat} {q9 : Option Addr} {o : ObsV} {V : BelV} (h : Keep w g2 g3 q9 o V wx) (h3 : g3 ≠ g1) (h2 : g2 ≠ g1) (hl : ∀ A, q9 = some A → A.block ≠ g1) (hg : w.heap.size ≤ g1) (i : Nat) (u : Value) : Keep w g2 g3 q9 o V (wx.setCell ⟨g1, i, none⟩ u) :=
  ⟨h.res.other h3 u, h.obs.other h2 u, h.rd.set hl, h.bel.setCell (p := ⟨g1, i, none⟩) hg u⟩
theorem Blk.drew {W : World} {b : Nat} {xs : List Value} (h : Blk W b xs) : Blk W.drew b xs := h
theorem Keep.drew {w wx : World} {g2 g3 : Nat} {q9 : Option Addr} {o : ObsV} {V : BelV} (h : Keep w g2 g3 q9 o V wx) : Keep w g2 g3 q9 o V wx.drew :=
  ⟨h.res, h.obs, h.rd, ⟨h.bel.os, h.bel.tape, h.bel.output, h.bel.size, h.bel.block⟩⟩
end Go.Proofs.Ytfmmiafdlfdfoaa
