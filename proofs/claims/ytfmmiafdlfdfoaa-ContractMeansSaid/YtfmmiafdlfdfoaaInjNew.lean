/- The walk over belief.Inject at the belief of the beginning and one call. Conditions: cars that can be read; a valid building. -/
import Derived.Test.YtfmmiafdlfdfoaaObsC
import Derived.Test.YtfmmiafdlfdfoaaHallC
import Derived.Test.YtfmmiafdlfdfoaaCallsEach
import Derived.Test.YtfmmiafdlfdfoaaInjectRef
namespace Go.Proofs.Ytfmmiafdlfdfoaa
open Go.RowKit
theorem row_cap {w : World} {base cap n : Nat} {q : Option Addr} {e : TypeId} {size : Nat} {xs : List Value} (h : w.ownsRow base e size (.slice q n cap) n xs) : n ≤ cap := by
  rcases h.2 with ⟨hv, _⟩ | ⟨g, cap', cur, hv, _, _, hle, _⟩
  · simp at hv; omega
  · simp at hv; omega
set_option maxHeartbeats 1000000 in
theorem bsf_empty (q : Option Addr) (cap : Nat) (d : Duty) (f : Value) (w : World) :
    Calls Try.prog 60 #[.slice q 0 cap, .agg #[.int .i64 d.1, .int .i64 d.2.1, .int .i64 d.2.2], f] w fun e w' => e = .returned (.tuple #[.int .i64 0, .bool false]) ∧ Below w.heap.size w w' := by
  go_enter Try.func60, Try.ntmps60
  go_wp2_with fail
  go_loopw [9, 10] (fun v9 v10 wr => v9 = .int .i64 0 ∧ v10 = .int .i64 0 ∧ Below w.heap.size w wr) (fun _ _ _ => 0)
  case atStart => exact ⟨rfl, rfl, below1' _ _⟩
  case round =>
    obtain ⟨rfl, rfl, hb⟩ := hrel
    go_wp2_with fail
    go_region
    go_wp2_with fail
    refine bodyPost_ret (v := .tuple #[.int .i64 0, .bool false]) (by simp [results, Try.results60, go_sem]) rfl ?_
    exact ⟨rfl, ⟨hb.os, hb.tape, hb.output, hb.size, hb.block⟩⟩
set_option maxHeartbeats 1000000 in
set_option maxRecDepth 100000 in
theorem insert_end (v : Value) (base n cap g : Nat) (q : Option Addr) (L : List Duty) (d : Duty) (w : World) (hv : v = .slice q n cap) (hn : n ≤ 1000) (hown : w.ownsRow base 71 3 v n (dutyCells L)) (hb : base ≤ w.heap.size) (hg : Blk w g d.cells) :
    Calls Try.prog 62 #[.slice q n cap, .int .i64 n, .slice (some ⟨g, 0, none⟩) 1 1] w fun e w' => ∃ v', e = .returned v' ∧ w'.ownsRow base 71 3 v' (n + 1) (dutyCells (L ++ [d])) ∧ Below base w w' ∧ w.grownBy w' v.ownBlock := by
  obtain ⟨i0, hi, hy0, hy1, hy2⟩ := info_parts infoD
  have Hi := Lib.hid hi; have Hz0 := Lib.hid hy0; have Hz1 := Lib.hid hy1; have Hz2 := Lib.hid hy2
  clear hi hy0 hy1 hy2
  subst hv
  have HO := Lib.hid hown; have HG := Lib.hid hg
  clear hown hg
  have hc1 : n ≤ cap := row_cap HO.out
  go_enter Try.func62, Try.ntmps62
  go_wp2_with ((at_builtin; refine wpList_append_own _ rfl _ _ 36 rfl base 71 i0 (.agg #[.int .i64 0, .int .i64 0, .int .i64 0]) 3 24 Try.underlying36 Hi.out Hz0.out Hz1.out Hz2.out rfl (by decide) _ _ _ rfl HO.out ⟨g, 0, none⟩ 1 1 d.cells rfl rfl (blk_news HG.out) (duty_one _) (by unfold maxLen; omega) (by omega) (by omega) ?_))
  all_goals
    intro v' w9 hown2 hgr _
    have hb3 : Below base w w9 := (Below.refl base w).grown hgr hb (fun k hk => (HO.out.lt k (by cases q <;> exact hk)).1)
    have hown3 : w9.ownsRow base 71 3 v' (n + 1) (dutyCells (L ++ [d])) := by rw [dutyCells_snoc]; exact hown2
    have HGR : Hid (w.grownBy w9 (Value.slice q n cap).ownBlock) := Lib.hid ⟨hgr.os, hgr.tape, hgr.output, hgr.size, fun k hk hne => hgr.block k hk (by cases q <;> exact hne)⟩
    clear hown2 hgr
    go_wp2_with fail
    go_ret
    exact ⟨_, rfl, hown3, hb3, HGR.out⟩
theorem hall_one (b : BldV) (hv : validN b = 0) : listC (both (1#32, 0#32) (hallC b)) = [(0, 1)] := by
  obtain ⟨h2, h32⟩ := valid_fl b hv
  have key : ∀ n : Nat, n < 33 → 2 ≤ n → 1#32 &&& hPure n 1 32 = 1#32 := by decide +kernel
  have e1 : both (1#32, 0#32) (hallC b) = (1#32, 0#32) := by
    show ((1#32 &&& hUp b 1 32, 0#32 &&& hUp b 2 32) : CS) = _
    rw [hUp_pure b 1 b.fl.toNat (by omega) hv, key _ (by omega) (by omega)]
    simp
  rw [e1]
  decide +kernel
def entR (v : Value) (w : World) : Prop := ∃ g cap, v = .slice (some ⟨g, 0, none⟩) 1 cap ∧ g < w.heap.size ∧ ∀ j u, (entC (0, 1))[j]? = some u → w.cell? ⟨g, j, none⟩ = some u
theorem entR_stable (v : Value) : Grow.Stable (entR v) := by
  rintro w w' ⟨g, cap, hv, hg, hr⟩ hb
  exact ⟨g, cap, hv, Nat.lt_of_lt_of_le hg hb.size, fun j u hu => cell_later hb (hr j u hu)⟩
theorem entR_form {v : Value} {w : World} (h : entR v w) : ∃ g cap, v = .slice (some ⟨g, 0, none⟩) 1 cap := by
  obtain ⟨g, cap, hv, _⟩ := h
  exact ⟨g, cap, hv⟩
theorem entR_out {g : Nat} {cap : Nat} {w : World} (h : entR (.slice (some ⟨g, 0, none⟩) 1 cap) w) : g < w.heap.size ∧ ∀ j u, (entC (0, 1))[j]? = some u → w.cell? ⟨g, j, none⟩ = some u := by
  obtain ⟨g', cap', hv, hg, hr⟩ := h
  obtain ⟨rfl, rfl⟩ : g = g' ∧ cap = cap' := by simpa using hv
  exact ⟨hg, hr⟩
theorem entR_of {w : World} {base : Nat} {v : Value} (h : w.ownsRow base 53 5 v 1 (cells [(0, 1)])) : entR v w := by
  rcases h.2 with ⟨_, hx⟩ | ⟨g, cap, cur, hv, _⟩
  · cases hx
  · subst hv
    have hr := rdE_of_owns h (l := [(0, 1)]) rfl 0 (0, 1) rfl
    obtain ⟨A, hq, hA, hc⟩ := hr
    obtain rfl : A = ⟨g, 0, none⟩ := by simpa using hq.symm
    refine ⟨g, cap, rfl, hA, fun j u hu => ?_⟩
    have := hc j u hu
    simpa [Addr.add_lit] using this
def oneB : BelV := ⟨-1, 0, 0, [(0, 1, 0)], 0, false⟩
end Go.Proofs.Ytfmmiafdlfdfoaa
