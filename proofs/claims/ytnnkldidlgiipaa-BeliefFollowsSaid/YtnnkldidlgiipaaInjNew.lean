/- The walk over belief.Inject at the belief of the beginning and one call. Conditions: cars that can be read; a valid building. -/
import Derived.Test.YtnnkldidlgiipaaObsC
import Derived.Test.YtnnkldidlgiipaaHallC
import Derived.Test.YtnnkldidlgiipaaCallsEach
import Derived.Test.YtnnkldidlgiipaaInjectRef
namespace Go.Proofs.Ytnnkldidlgiipaa
open Go.RowKit
theorem row_cap {w : World} {base cap n : Nat} {q : Option Addr} {e : TypeId} {size : Nat} {xs : List Value} (h : w.ownsRow base e size (.slice q n cap) n xs) : n ≤ cap := by
  rcases h.2 with ⟨hv, _⟩ | ⟨g, cap', cur, hv, _, _, hle, _⟩
  · simp at hv; omega
  · simp at hv; omega
set_option maxHeartbeats 1000000 in
theorem bsf_empty (q : Option Addr) (cap : Nat) (d : Duty) (f : Value) (w : World) :
    Calls Try.prog 30 #[.slice q 0 cap, .agg #[.int .i64 d.1, .int .i64 d.2.1, .int .i64 d.2.2], f] w fun e w' => e = .returned (.tuple #[.int .i64 0, .bool false]) ∧ Below w.heap.size w w' := by
  go_enter Try.func30, Try.ntmps30
  go_wp2_with fail
  go_loopw [9, 10] (fun v9 v10 wr => v9 = .int .i64 0 ∧ v10 = .int .i64 0 ∧ Below w.heap.size w wr) (fun _ _ _ => 0)
  case atStart => exact ⟨rfl, rfl, below1' _ _⟩
  case round =>
    obtain ⟨rfl, rfl, hb⟩ := hrel
    go_wp2_with fail
    go_region
    go_wp2_with fail
    refine bodyPost_ret (v := .tuple #[.int .i64 0, .bool false]) (by simp [results, Try.results30, go_sem]) rfl ?_
    exact ⟨rfl, ⟨hb.os, hb.tape, hb.output, hb.size, hb.block⟩⟩
set_option maxHeartbeats 1000000 in
set_option maxRecDepth 100000 in
theorem insert_end (v : Value) (base n cap g : Nat) (q : Option Addr) (L : List Duty) (d : Duty) (w : World) (hv : v = .slice q n cap) (hn : n ≤ 1000) (hown : w.ownsRow base 71 3 v n (dutyCells L)) (hb : base ≤ w.heap.size) (hg : Blk w g d.cells) :
    Calls Try.prog 32 #[.slice q n cap, .int .i64 n, .slice (some ⟨g, 0, none⟩) 1 1] w fun e w' => ∃ v', e = .returned v' ∧ w'.ownsRow base 71 3 v' (n + 1) (dutyCells (L ++ [d])) ∧ Below base w w' ∧ w.grownBy w' v.ownBlock := by
  obtain ⟨i0, hi, hy0, hy1, hy2⟩ := info_parts infoD
  have Hi := Lib.hid hi; have Hz0 := Lib.hid hy0; have Hz1 := Lib.hid hy1; have Hz2 := Lib.hid hy2
  clear hi hy0 hy1 hy2
  subst hv
  have HO := Lib.hid hown; have HG := Lib.hid hg
  clear hown hg
  have hc1 : n ≤ cap := row_cap HO.out
  go_enter Try.func32, Try.ntmps32
  go_wp2_with ((at_builtin; refine wpList_append_own _ rfl _ _ 33 rfl base 71 i0 (.agg #[.int .i64 0, .int .i64 0, .int .i64 0]) 3 24 Try.underlying33 Hi.out Hz0.out Hz1.out Hz2.out rfl (by decide) _ _ _ rfl HO.out ⟨g, 0, none⟩ 1 1 d.cells rfl rfl (blk_news HG.out) (duty_one _) (by unfold maxLen; omega) (by omega) (by omega) ?_))
  all_goals
    intro v' w9 hown2 hgr _
    have hb3 : Below base w w9 := (Below.refl base w).grown hgr hb (fun k hk => (HO.out.lt k (by cases q <;> exact hk)).1)
    have hown3 : w9.ownsRow base 71 3 v' (n + 1) (dutyCells (L ++ [d])) := by rw [dutyCells_snoc]; exact hown2
    have HGR : Hid (w.grownBy w9 (Value.slice q n cap).ownBlock) := Lib.hid ⟨hgr.os, hgr.tape, hgr.output, hgr.size, fun k hk hne => hgr.block k hk (by cases q <;> exact hne)⟩
    clear hown2 hgr
    go_wp2_with fail
    go_ret
    exact ⟨_, rfl, hown3, hb3, HGR.out⟩
theorem hall_one (b : BldV) (hv : validN b = 0) : listC (both (1#32, 0#32) (hallC b)) = [(0, 1)] := by
  obtain ⟨h2, h32⟩ := valid_fl b hv
  have key : ∀ n : Nat, n < 33 → 2 ≤ n → 1#32 &&& hPure n 1 32 = 1#32 := by decide +kernel
  have e1 : both (1#32, 0#32) (hallC b) = (1#32, 0#32) := by
    show ((1#32 &&& hUp b 1 32, 0#32 &&& hUp b 2 32) : CS) = _
    rw [hUp_pure b 1 b.fl.toNat (by omega) hv, key _ (by omega) (by omega)]
    simp
  rw [e1]
  decide +kernel
def entR (v : Value) (w : World) : Prop := ∃ g cap, v = .slice (some ⟨g, 0, none⟩) 1 cap ∧ g < w.heap.size ∧ ∀ j u, (entC (0, 1))[j]? = some u → w.cell? ⟨g, j, none⟩ = some u
theorem entR_stable (v : Value) : Grow.Stable (entR v) := by
  rintro w w' ⟨g, cap, hv, hg, hr⟩ hb
  exact ⟨g, cap, hv, Nat.lt_of_lt_of_le hg hb.size, fun j u hu => cell_later hb (hr j u hu)⟩
theorem entR_form {v : Value} {w : World} (h : entR v w) : ∃ g cap, v = .slice (some ⟨g, 0, none⟩) 1 cap := by
  obtain ⟨g, cap, hv, _⟩ := h
  exact ⟨g, cap, hv⟩
theorem entR_out {g : Nat} {cap : Nat} {w : World} (h : entR (.slice (some ⟨g, 0, none⟩) 1 cap) w) : g < w.heap.size ∧ ∀ j u, (entC (0, 1))[j]? = some u → w.cell? ⟨g, j, none⟩ = some u := by
  obtain ⟨g', cap', hv, hg, hr⟩ := h
  obtain ⟨rfl, rfl⟩ : g = g' ∧ cap = cap' := by simpa using hv
  exact ⟨hg, hr⟩
theorem entR_of {w : World} {base : Nat} {v : Value} (h : w.ownsRow base 69 5 v 1 (cells [(0, 1)])) : entR v w := by
  rcases h.2 with ⟨_, hx⟩ | ⟨g, cap, cur, hv, _⟩
  · cases hx
  · subst hv
    have hr := rdE_of_owns h (l := [(0, 1)]) rfl 0 (0, 1) rfl
    obtain ⟨A, hq, hA, hc⟩ := hr
    obtain rfl : A = ⟨g, 0, none⟩ := by simpa using hq.symm
    refine ⟨g, cap, rfl, hA, fun j u hu => ?_⟩
    have := hc j u hu
    simpa [Addr.add_lit] using this
def oneB : BelV := ⟨-1, 0, 0, [(0, 1, 0)], 0, false⟩
set_option maxHeartbeats 4000000 in
set_option maxRecDepth 100000 in
theorem injectNew_any (b : BldV) (q : Option Addr) (cap : Nat) (car : Int) (w : World) (hlen : b.cars.length ≤ 1000) (hs : stateB b car newB = true) (hr : RdC w q b.cars) :
    Calls Try.prog 12 #[cvB b q cap, .int .i64 car, cvS newB none 0, cv (1#32, 0#32)] w fun e w' => ∃ v, e = .returned v ∧ Below w.heap.size w w' ∧ belE w.heap.size oneB 0 v w' := by
  show Calls _ _ #[cvB b q cap, .int .i64 car, .agg #[.int .i64 (-1), .int .i64 0, .int .i64 0, .slice none 0 0, .int .i64 0, .bool false], .agg #[.int .u32 1, .int .u32 0]] _ _
  have X0 : Blk (w.alloc (.cells #[.int .i64 b.fl, .int .i64 b.deb, .int .i64 b.room, .int .i64 b.park, .float .f64 b.em, .float .f64 b.fu, .float .f64 b.ov, .slice q b.cars.length cap] 27)) w.heap.size [.int .i64 b.fl, .int .i64 b.deb, .int .i64 b.room, .int .i64 b.park, .float .f64 b.em, .float .f64 b.fu, .float .f64 b.ov, .slice q b.cars.length cap] := by
    have hx := Blk.new w [.int .i64 b.fl, .int .i64 b.deb, .int .i64 b.room, .int .i64 b.park, .float .f64 b.em, .float .f64 b.fu, .float .f64 b.ov, .slice q b.cars.length cap] 27
    exact hx
  replace X0 : Blk ((w.alloc (.cells #[.int .i64 b.fl, .int .i64 b.deb, .int .i64 b.room, .int .i64 b.park, .float .f64 b.em, .float .f64 b.fu, .float .f64 b.ov, .slice q b.cars.length cap] 27)).alloc (.cells #[.int .i64 (-1), .int .i64 0, .int .i64 0, .slice none 0 0, .int .i64 0, .bool false] 35)) w.heap.size [.int .i64 b.fl, .int .i64 b.deb, .int .i64 b.room, .int .i64 b.park, .float .f64 b.em, .float .f64 b.fu, .float .f64 b.ov, .slice q b.cars.length cap] := X0.next (below1' _ _)
  replace X0 : Blk (((w.alloc (.cells #[.int .i64 b.fl, .int .i64 b.deb, .int .i64 b.room, .int .i64 b.park, .float .f64 b.em, .float .f64 b.fu, .float .f64 b.ov, .slice q b.cars.length cap] 27)).alloc (.cells #[.int .i64 (-1), .int .i64 0, .int .i64 0, .slice none 0 0, .int .i64 0, .bool false] 35)).alloc (.cells #[.int .u32 1, .int .u32 0] 39)) w.heap.size [.int .i64 b.fl, .int .i64 b.deb, .int .i64 b.room, .int .i64 b.park, .float .f64 b.em, .float .f64 b.fu, .float .f64 b.ov, .slice q b.cars.length cap] := X0.next (below1' _ _)
  replace X0 : Blk ((((w.alloc (.cells #[.int .i64 b.fl, .int .i64 b.deb, .int .i64 b.room, .int .i64 b.park, .float .f64 b.em, .float .f64 b.fu, .float .f64 b.ov, .slice q b.cars.length cap] 27)).alloc (.cells #[.int .i64 (-1), .int .i64 0, .int .i64 0, .slice none 0 0, .int .i64 0, .bool false] 35)).alloc (.cells #[.int .u32 1, .int .u32 0] 39)).alloc (.cells #[.int .i64 0, .int .i64 0, .int .i64 0, .slice none 0 0, .int .i64 0, .bool false] 35)) w.heap.size [.int .i64 b.fl, .int .i64 b.deb, .int .i64 b.room, .int .i64 b.park, .float .f64 b.em, .float .f64 b.fu, .float .f64 b.ov, .slice q b.cars.length cap] := X0.next (below1' _ _)
  have X1 : Blk ((w.alloc (.cells #[.int .i64 b.fl, .int .i64 b.deb, .int .i64 b.room, .int .i64 b.park, .float .f64 b.em, .float .f64 b.fu, .float .f64 b.ov, .slice q b.cars.length cap] 27)).alloc (.cells #[.int .i64 (-1), .int .i64 0, .int .i64 0, .slice none 0 0, .int .i64 0, .bool false] 35)) (w.heap.size + 1) [.int .i64 (-1), .int .i64 0, .int .i64 0, .slice none 0 0, .int .i64 0, .bool false] := by
    have hx := Blk.new (w.alloc (.cells #[.int .i64 b.fl, .int .i64 b.deb, .int .i64 b.room, .int .i64 b.park, .float .f64 b.em, .float .f64 b.fu, .float .f64 b.ov, .slice q b.cars.length cap] 27)) [.int .i64 (-1), .int .i64 0, .int .i64 0, .slice none 0 0, .int .i64 0, .bool false] 35
    rw [World.size_alloc] at hx
    exact hx
  replace X1 : Blk (((w.alloc (.cells #[.int .i64 b.fl, .int .i64 b.deb, .int .i64 b.room, .int .i64 b.park, .float .f64 b.em, .float .f64 b.fu, .float .f64 b.ov, .slice q b.cars.length cap] 27)).alloc (.cells #[.int .i64 (-1), .int .i64 0, .int .i64 0, .slice none 0 0, .int .i64 0, .bool false] 35)).alloc (.cells #[.int .u32 1, .int .u32 0] 39)) (w.heap.size + 1) [.int .i64 (-1), .int .i64 0, .int .i64 0, .slice none 0 0, .int .i64 0, .bool false] := X1.next (below1' _ _)
  replace X1 : Blk ((((w.alloc (.cells #[.int .i64 b.fl, .int .i64 b.deb, .int .i64 b.room, .int .i64 b.park, .float .f64 b.em, .float .f64 b.fu, .float .f64 b.ov, .slice q b.cars.length cap] 27)).alloc (.cells #[.int .i64 (-1), .int .i64 0, .int .i64 0, .slice none 0 0, .int .i64 0, .bool false] 35)).alloc (.cells #[.int .u32 1, .int .u32 0] 39)).alloc (.cells #[.int .i64 0, .int .i64 0, .int .i64 0, .slice none 0 0, .int .i64 0, .bool false] 35)) (w.heap.size + 1) [.int .i64 (-1), .int .i64 0, .int .i64 0, .slice none 0 0, .int .i64 0, .bool false] := X1.next (below1' _ _)
  have X2 : Blk (((w.alloc (.cells #[.int .i64 b.fl, .int .i64 b.deb, .int .i64 b.room, .int .i64 b.park, .float .f64 b.em, .float .f64 b.fu, .float .f64 b.ov, .slice q b.cars.length cap] 27)).alloc (.cells #[.int .i64 (-1), .int .i64 0, .int .i64 0, .slice none 0 0, .int .i64 0, .bool false] 35)).alloc (.cells #[.int .u32 1, .int .u32 0] 39)) (w.heap.size + 1 + 1) [.int .u32 1, .int .u32 0] := by
    have hx := Blk.new ((w.alloc (.cells #[.int .i64 b.fl, .int .i64 b.deb, .int .i64 b.room, .int .i64 b.park, .float .f64 b.em, .float .f64 b.fu, .float .f64 b.ov, .slice q b.cars.length cap] 27)).alloc (.cells #[.int .i64 (-1), .int .i64 0, .int .i64 0, .slice none 0 0, .int .i64 0, .bool false] 35)) [.int .u32 1, .int .u32 0] 39
    rw [World.size_alloc, World.size_alloc] at hx
    exact hx
  replace X2 : Blk ((((w.alloc (.cells #[.int .i64 b.fl, .int .i64 b.deb, .int .i64 b.room, .int .i64 b.park, .float .f64 b.em, .float .f64 b.fu, .float .f64 b.ov, .slice q b.cars.length cap] 27)).alloc (.cells #[.int .i64 (-1), .int .i64 0, .int .i64 0, .slice none 0 0, .int .i64 0, .bool false] 35)).alloc (.cells #[.int .u32 1, .int .u32 0] 39)).alloc (.cells #[.int .i64 0, .int .i64 0, .int .i64 0, .slice none 0 0, .int .i64 0, .bool false] 35)) (w.heap.size + 1 + 1) [.int .u32 1, .int .u32 0] := X2.next (below1' _ _)
  have X3 : Blk ((((w.alloc (.cells #[.int .i64 b.fl, .int .i64 b.deb, .int .i64 b.room, .int .i64 b.park, .float .f64 b.em, .float .f64 b.fu, .float .f64 b.ov, .slice q b.cars.length cap] 27)).alloc (.cells #[.int .i64 (-1), .int .i64 0, .int .i64 0, .slice none 0 0, .int .i64 0, .bool false] 35)).alloc (.cells #[.int .u32 1, .int .u32 0] 39)).alloc (.cells #[.int .i64 0, .int .i64 0, .int .i64 0, .slice none 0 0, .int .i64 0, .bool false] 35)) (w.heap.size + 1 + 1 + 1) [.int .i64 0, .int .i64 0, .int .i64 0, .slice none 0 0, .int .i64 0, .bool false] := by
    have hx := Blk.new (((w.alloc (.cells #[.int .i64 b.fl, .int .i64 b.deb, .int .i64 b.room, .int .i64 b.park, .float .f64 b.em, .float .f64 b.fu, .float .f64 b.ov, .slice q b.cars.length cap] 27)).alloc (.cells #[.int .i64 (-1), .int .i64 0, .int .i64 0, .slice none 0 0, .int .i64 0, .bool false] 35)).alloc (.cells #[.int .u32 1, .int .u32 0] 39)) [.int .i64 0, .int .i64 0, .int .i64 0, .slice none 0 0, .int .i64 0, .bool false] 35
    rw [World.size_alloc, World.size_alloc, World.size_alloc] at hx
    exact hx
  have XW : Below w.heap.size w (w.alloc (.cells #[.int .i64 b.fl, .int .i64 b.deb, .int .i64 b.room, .int .i64 b.park, .float .f64 b.em, .float .f64 b.fu, .float .f64 b.ov, .slice q b.cars.length cap] 27)) := below1' w _
  replace XW : Below w.heap.size w ((w.alloc (.cells #[.int .i64 b.fl, .int .i64 b.deb, .int .i64 b.room, .int .i64 b.park, .float .f64 b.em, .float .f64 b.fu, .float .f64 b.ov, .slice q b.cars.length cap] 27)).alloc (.cells #[.int .i64 (-1), .int .i64 0, .int .i64 0, .slice none 0 0, .int .i64 0, .bool false] 35)) := XW.trans ((below1' _ _).mono XW.size)
  replace XW : Below w.heap.size w (((w.alloc (.cells #[.int .i64 b.fl, .int .i64 b.deb, .int .i64 b.room, .int .i64 b.park, .float .f64 b.em, .float .f64 b.fu, .float .f64 b.ov, .slice q b.cars.length cap] 27)).alloc (.cells #[.int .i64 (-1), .int .i64 0, .int .i64 0, .slice none 0 0, .int .i64 0, .bool false] 35)).alloc (.cells #[.int .u32 1, .int .u32 0] 39)) := XW.trans ((below1' _ _).mono XW.size)
  replace XW : Below w.heap.size w ((((w.alloc (.cells #[.int .i64 b.fl, .int .i64 b.deb, .int .i64 b.room, .int .i64 b.park, .float .f64 b.em, .float .f64 b.fu, .float .f64 b.ov, .slice q b.cars.length cap] 27)).alloc (.cells #[.int .i64 (-1), .int .i64 0, .int .i64 0, .slice none 0 0, .int .i64 0, .bool false] 35)).alloc (.cells #[.int .u32 1, .int .u32 0] 39)).alloc (.cells #[.int .i64 0, .int .i64 0, .int .i64 0, .slice none 0 0, .int .i64 0, .bool false] 35)) := XW.trans ((below1' _ _).mono XW.size)
  have HWW := Lib.hid XW; have HX0 := Lib.hid X0; have HX1 := Lib.hid X1; have HX2 := Lib.hid X2; have HX3 := Lib.hid X3
  clear XW X0 X1 X2 X3
  have HR := Lib.hid (hr.next HWW.out); have hr0 := Lib.hid hr; have HST := Lib.hid hs
  have HL1 := Lib.hid hlen
  have HONE := Lib.hid (hall_one b (state_valid b car newB hs))
  clear hr hs hlen
  go_enter Try.func12, Try.ntmps12
  go_upto_region 1 with fail
  generalize ((((w.alloc (.cells #[.int .i64 b.fl, .int .i64 b.deb, .int .i64 b.room, .int .i64 b.park, .float .f64 b.em, .float .f64 b.fu, .float .f64 b.ov, .slice q b.cars.length cap] 27)).alloc (.cells #[.int .i64 (-1), .int .i64 0, .int .i64 0, .slice none 0 0, .int .i64 0, .bool false] 35)).alloc (.cells #[.int .u32 1, .int .u32 0] 39)).alloc (.cells #[.int .i64 0, .int .i64 0, .int .i64 0, .slice none 0 0, .int .i64 0, .bool false] 35)) = w0 at *
  generalize hg3 : w.heap.size + 1 + 1 + 1 = g3 at *
  generalize hg2 : w.heap.size + 1 + 1 = g2 at *
  generalize hg1 : w.heap.size + 1 = g1 at *
  have HG1 := Lib.hid hg1; have hq1 : w.heap.size + 1 ≤ g1 := by omega
  have HG2 := Lib.hid hg2; have hq2 : w.heap.size + 2 ≤ g2 := by omega
  have HG3 := Lib.hid hg3; have hq3 : w.heap.size + 3 ≤ g3 := by omega
  clear hg1 hg2 hg3
  have HW := Lib.hid (Below.refl w0.heap.size w0)
  have hz0 := HX0.out.lt; have hz1 := HX1.out.lt; have hz2 := HX2.out.lt; have hz3 := HX3.out.lt
  have hg13 : g3 ≠ g1 := by have := HG2.out; have := HG3.out; omega
  have hG3 : w.heap.size ≤ g3 := by omega
  have hG1 : w.heap.size ≤ g1 := by omega
  have k0 := (HX0.out).cell 0 _ rfl
  have k1 := (HX0.out).cell 1 _ rfl
  have k2 := (HX0.out).cell 2 _ rfl
  have k3 := (HX0.out).cell 3 _ rfl
  have k4 := (HX0.out).cell 4 _ rfl
  have k5 := (HX0.out).cell 5 _ rfl
  have k6 := (HX0.out).cell 6 _ rfl
  have k7 := (HX0.out).cell 7 _ rfl
  have j0 := (HX1.out).cell 0 _ rfl
  have j1 := (HX1.out).cell 1 _ rfl
  have j2 := (HX1.out).cell 2 _ rfl
  have j3 := (HX1.out).cell 3 _ rfl
  have j4 := (HX1.out).cell 4 _ rfl
  have j5 := (HX1.out).cell 5 _ rfl
  have m0 := (HX2.out).cell 0 _ rfl
  have m1 := (HX2.out).cell 1 _ rfl
  have c0 := base_cell HW.out
  go_wp2_with fail
  refine (calls_bool (isState_any b q cap car newB none 0 _ HL1.out (by decide) HR.out (fun i d h => by simp [newB] at h)) HST.out).mono ?_
  rintro e w1 ⟨rfl, hbn⟩
  have HWn := Lib.hid (HW.out.trans (hbn.mono HW.out.size))
  try clear c0
  clear HW hbn
  have HW := HWn
  clear HWn
  have c0 := base_cell HW.out
  have hmk : ∀ w, (Instr.makeSlice 33 (.int .i64 0) (.int .i64 0)).run Try.prog w = .ok (.slice (some ⟨w.heap.size, 0, none⟩) 0 0) (w.alloc (.cells #[] 71)) := fun _ => by kernel_rfl
  have hbe := below1' w1 (.cells #[] 71)
  have HO := Lib.hid (World.ownsRow_made (base := w0.heap.size) (size := 3) (e := 71) w1 #[] 0 HW.out.size (by unfold maxLen; omega) rfl)
  have HW2 := Lib.hid (HW.out.trans (hbe.mono HW.out.size))
  have hg5 : w0.heap.size ≤ w1.heap.size := HW.out.size
  clear hbe
  go_upto_region 4 with fail
  clear HW c0 k0 k1 k2 k3 k4 k5 k6 k7 j0 j1 j2 j3 j4 j5 m0 m1
  generalize w1.alloc (.cells #[] 71) = w2 at *
  generalize w1.heap.size = g5 at *
  have B2 := HX1.out.later HW2.out hz1
  have j0 := (B2).cell 0 _ rfl
  have j1 := (B2).cell 1 _ rfl
  have j2 := (B2).cell 2 _ rfl
  have j3 := (B2).cell 3 _ rfl
  have j4 := (B2).cell 4 _ rfl
  have j5 := (B2).cell 5 _ rfl
  have f3 := B2.fr 3
  clear B2
  have hcp := run_copy_nil (P := Try.prog) w2 33 33 3 71 ⟨g5, 0, none⟩ 0 0 Try.underlying33 (by kernel_rfl)
  go_upto_region 6 with fail
  have hne1 := row_ne HO.out hz1
  have HO3 := Lib.hid (row_set (i := 3) (u := .slice (some ⟨g5, 0, none⟩) 0 0) HO.out hne1)
  have HB3 := Lib.hid ((HX1.out.later HW2.out hz1).set 3 (.slice (some ⟨g5, 0, none⟩) 0 0))
  have HX03 := Lib.hid ((HX0.out.later HW2.out hz0).other (i := 3) (g := g1) (by omega) (.slice (some ⟨g5, 0, none⟩) 0 0))
  have HX23 := Lib.hid ((HX2.out.later HW2.out hz2).other (i := 3) (g := g1) (by have := HG2.out; omega) (.slice (some ⟨g5, 0, none⟩) 0 0))
  have HX33 := Lib.hid ((HX3.out.later HW2.out hz3).other (i := 3) hg13 (.slice (some ⟨g5, 0, none⟩) 0 0))
  have HW3 := Lib.hid ((HWW.out.trans (HW2.out.mono HWW.out.size)).setCell (p := ⟨g1, 3, none⟩) hG1 (.slice (some ⟨g5, 0, none⟩) 0 0))
  have HR3 : Hid (RdC (w2.setCell ⟨g1, 3, none⟩ (.slice (some ⟨g5, 0, none⟩) 0 0)) q b.cars) := Lib.hid ((hr0.out.next HW3.out))
  clear HO HW2 hne1 j0 j1 j2 j3 j4 j5 f3 hcp HR HX0 HX1 HX2 HX3 hmk
  change Hid (Blk _ g1 [.int .i64 (-1), .int .i64 0, .int .i64 0, .slice (some ⟨g5, 0, none⟩) 0 0, .int .i64 0, .bool false]) at HB3
  generalize w2.setCell ⟨g1, 3, none⟩ (.slice (some ⟨g5, 0, none⟩) 0 0) = w3 at *
  have t0 := (HX03.out).reg 0 _ rfl
  have t1 := (HX03.out).reg 1 _ rfl
  have t2 := (HX03.out).reg 2 _ rfl
  have t3 := (HX03.out).reg 3 _ rfl
  have t4 := (HX03.out).reg 4 _ rfl
  have t5 := (HX03.out).reg 5 _ rfl
  have t6 := (HX03.out).reg 6 _ rfl
  have t7 := (HX03.out).reg 7 _ rfl
  have u0 := (HX23.out).reg 0 _ rfl
  have u1 := (HX23.out).reg 1 _ rfl
  refine Grow.wp_region (relPlan 4 entR) (relPlan_stable 4 _ entR_stable) (by kernel_rfl) (by kernel_rfl) ?_
  intro opsq Hopsq
  repeat (first | (refine Grow.lex_move rfl ?_ rfl ?_; (· first | exact Grow.wanted_none | (rw [Hopsq.out]; rfl)); intro K hK; simp only [Grow.put_lit, Grow.setAt, Grow.eval_lit, Grow.ev]; refine hK _ _ ?_; clear hK K) | (refine Grow.lex_assign rfl ?_ rfl ?_; (· first | exact Grow.wanted_none | (rw [Hopsq.out]; rfl)); intro K hK; simp only [Grow.put_lit, Grow.setAt, Grow.eval_lit, Grow.ev]; refine hK _ _ ?_; clear hK K) | (refine Grow.lex_plain rfl rfl ?_ rfl ?_; (· first | exact Grow.wanted_none | (rw [Hopsq.out]; rfl)); apply Exists.intro; refine ⟨fun wq hCq _ => ?_, ?_⟩; (· (go_wp2_with fail; refine ⟨rfl, Below.refl _ _, ?_⟩; simp only [Grow.getD_lit, Grow.nth]; rfl)); intro K hK; simp only [Grow.put_lit, Grow.setAt]; refine hK _ _ ?_; clear hK K) | (refine Grow.lex_nilCheck rfl rfl ?_ rfl ?_; (· first | exact Grow.wanted_none | (rw [Hopsq.out]; rfl)); intro K hK; simp only [Grow.put_lit, Grow.setAt]; refine hK _ _ ?_; clear hK K) | (refine Grow.lex_skip ?_ ?_; (· (rw [Hopsq.out]; rfl)); intro K hK; simp only [Grow.put_lit, Grow.setAt]; refine hK _ _ ?_; clear hK K))
  (refine Grow.lex_call ?_ rfl ?_; (· first | exact Grow.wanted_none | (rw [Hopsq.out]; rfl)); apply Exists.intro; apply Exists.intro; refine ⟨fun wq => ?_, ?_⟩; (· (go_simp; exact ⟨rfl, rfl⟩)); apply Exists.intro; refine ⟨fun wq hCq hKq => ?_, ?_⟩; (· exact hall_any b q cap _ HL1.out (HR3.out.next (Grow.Cl.base hCq))); intro K hK; simp only [Grow.put_lit, Grow.setAt]; refine hK _ _ ?_; clear hK K)
  repeat (first | (refine Grow.lex_move rfl ?_ rfl ?_; (· first | exact Grow.wanted_none | (rw [Hopsq.out]; rfl)); intro K hK; simp only [Grow.put_lit, Grow.setAt, Grow.eval_lit, Grow.ev]; refine hK _ _ ?_; clear hK K) | (refine Grow.lex_assign rfl ?_ rfl ?_; (· first | exact Grow.wanted_none | (rw [Hopsq.out]; rfl)); intro K hK; simp only [Grow.put_lit, Grow.setAt, Grow.eval_lit, Grow.ev]; refine hK _ _ ?_; clear hK K) | (refine Grow.lex_plain rfl rfl ?_ rfl ?_; (· first | exact Grow.wanted_none | (rw [Hopsq.out]; rfl)); apply Exists.intro; refine ⟨fun wq hCq _ => ?_, ?_⟩; (· (go_wp2_with fail; refine ⟨rfl, Below.refl _ _, ?_⟩; simp only [Grow.getD_lit, Grow.nth]; rfl)); intro K hK; simp only [Grow.put_lit, Grow.setAt]; refine hK _ _ ?_; clear hK K) | (refine Grow.lex_nilCheck rfl rfl ?_ rfl ?_; (· first | exact Grow.wanted_none | (rw [Hopsq.out]; rfl)); intro K hK; simp only [Grow.put_lit, Grow.setAt]; refine hK _ _ ?_; clear hK K) | (refine Grow.lex_skip ?_ ?_; (· (rw [Hopsq.out]; rfl)); intro K hK; simp only [Grow.put_lit, Grow.setAt]; refine hK _ _ ?_; clear hK K))
  (refine Grow.lex_call ?_ rfl ?_; (· first | exact Grow.wanted_none | (rw [Hopsq.out]; rfl)); apply Exists.intro; apply Exists.intro; refine ⟨fun wq => ?_, ?_⟩; (· (go_simp; exact ⟨rfl, rfl⟩)); apply Exists.intro; refine ⟨fun wq hCq hKq => ?_, ?_⟩; (· exact both_any (1#32, 0#32) (hallC b) _); intro K hK; simp only [Grow.put_lit, Grow.setAt]; refine hK _ _ ?_; clear hK K)
  repeat (first | (refine Grow.lex_move rfl ?_ rfl ?_; (· first | exact Grow.wanted_none | (rw [Hopsq.out]; rfl)); intro K hK; simp only [Grow.put_lit, Grow.setAt, Grow.eval_lit, Grow.ev]; refine hK _ _ ?_; clear hK K) | (refine Grow.lex_assign rfl ?_ rfl ?_; (· first | exact Grow.wanted_none | (rw [Hopsq.out]; rfl)); intro K hK; simp only [Grow.put_lit, Grow.setAt, Grow.eval_lit, Grow.ev]; refine hK _ _ ?_; clear hK K) | (refine Grow.lex_plain rfl rfl ?_ rfl ?_; (· first | exact Grow.wanted_none | (rw [Hopsq.out]; rfl)); apply Exists.intro; refine ⟨fun wq hCq _ => ?_, ?_⟩; (· (go_wp2_with fail; refine ⟨rfl, Below.refl _ _, ?_⟩; simp only [Grow.getD_lit, Grow.nth]; rfl)); intro K hK; simp only [Grow.put_lit, Grow.setAt]; refine hK _ _ ?_; clear hK K) | (refine Grow.lex_nilCheck rfl rfl ?_ rfl ?_; (· first | exact Grow.wanted_none | (rw [Hopsq.out]; rfl)); intro K hK; simp only [Grow.put_lit, Grow.setAt]; refine hK _ _ ?_; clear hK K) | (refine Grow.lex_skip ?_ ?_; (· (rw [Hopsq.out]; rfl)); intro K hK; simp only [Grow.put_lit, Grow.setAt]; refine hK _ _ ?_; clear hK K))
  (refine Grow.lex_callR (r := (fun _ v w => entR v w)) ?_ rfl ?_; (· first | exact Grow.wanted_none | (rw [Hopsq.out]; rfl)); apply Exists.intro; apply Exists.intro; refine ⟨fun wq => ?_, ?_, ?_⟩; (· (go_simp; exact ⟨rfl, rfl⟩)); (· (intro wq hCq hKq; exact (list_any (both (1#32, 0#32) (hallC b)) _).mono (fun e w' ⟨v, he, hown, hb⟩ => ⟨v, he, hb, by rw [HONE.out] at hown; exact entR_of hown⟩))); intro vq hWq; obtain ⟨_, _, hTT⟩ := hWq; obtain ⟨g8, cap8, hvq⟩ := entR_form (Grow.Holds.of_upd hTT).2; subst hvq; clear hTT; intro K hK; simp only [Grow.put_lit, Grow.setAt]; refine hK _ _ ?_; clear hK K)
  repeat (first | (refine Grow.lex_move rfl ?_ rfl ?_; (· first | exact Grow.wanted_none | (rw [Hopsq.out]; rfl)); intro K hK; simp only [Grow.put_lit, Grow.setAt, Grow.eval_lit, Grow.ev]; refine hK _ _ ?_; clear hK K) | (refine Grow.lex_assign rfl ?_ rfl ?_; (· first | exact Grow.wanted_none | (rw [Hopsq.out]; rfl)); intro K hK; simp only [Grow.put_lit, Grow.setAt, Grow.eval_lit, Grow.ev]; refine hK _ _ ?_; clear hK K) | (refine Grow.lex_plain rfl rfl ?_ rfl ?_; (· first | exact Grow.wanted_none | (rw [Hopsq.out]; rfl)); apply Exists.intro; refine ⟨fun wq hCq _ => ?_, ?_⟩; (· (go_wp2_with fail; refine ⟨rfl, Below.refl _ _, ?_⟩; simp only [Grow.getD_lit, Grow.nth]; rfl)); intro K hK; simp only [Grow.put_lit, Grow.setAt]; refine hK _ _ ?_; clear hK K) | (refine Grow.lex_nilCheck rfl rfl ?_ rfl ?_; (· first | exact Grow.wanted_none | (rw [Hopsq.out]; rfl)); intro K hK; simp only [Grow.put_lit, Grow.setAt]; refine hK _ _ ?_; clear hK K) | (refine Grow.lex_skip ?_ ?_; (· (rw [Hopsq.out]; rfl)); intro K hK; simp only [Grow.put_lit, Grow.setAt]; refine hK _ _ ?_; clear hK K))
  refine Grow.lex_nil ?_
  intro w4 hb4 hTq
  obtain ⟨hA, hcc⟩ := entR_out (Grow.Holds.of_upd hTq).2
  replace hb4 := Grow.Cl.base hb4
  clear hTq Hopsq opsq t0 t1 t2 t3 t4 t5 t6 t7 u0 u1
  have x0 := hcc 0 _ rfl; have x1 := hcc 1 _ rfl; have x2 := hcc 2 _ rfl; have x3 := hcc 3 _ rfl; have x4 := hcc 4 _ rfl
  have HO4 := Lib.hid (rowLater HO3.out hb4)
  have HB4 := Lib.hid (HB3.out.next hb4)
  have HX34 := Lib.hid (HX33.out.next hb4)
  have HW4 := Lib.hid (HW3.out.trans (hb4.mono HW3.out.size))
  have hg1' := HB4.out.lt; have hg3' := HX34.out.lt
  clear hcc hb4 HO3 HB3 HX33 HW3 HX03 HX23 HR3
  go_wp2_with fail
  have hGw : w.heap.size ≤ w0.heap.size := by omega
  have hzz1 : g1 < w0.heap.size := hz1; have hzz3 : g3 < w0.heap.size := hz3
  go_loopw [38] (fun v wr => (v = .int .i64 0 ∧ wr = w4) ∨ (v = .int .i64 1 ∧ ∃ q9 cap9, Blk wr g1 [.int .i64 (-1), .int .i64 0, .int .i64 0, .slice q9 1 cap9, .int .i64 0, .bool false] ∧ RdD wr q9 [(0, 1, 0)] ∧ (∀ A, q9 = some A → w0.heap.size ≤ A.block) ∧ Blk wr g3 [.int .i64 0, .int .i64 0, .int .i64 0, .slice none 0 0, .int .i64 0, .bool false] ∧ Below w.heap.size w wr)) (fun v _ => 1 - (intOf v).toNat)
  case atStart => exact .inl ⟨rfl, rfl⟩
  case round =>
    rcases hrel with ⟨rfl, rfl⟩ | ⟨rfl, q9, cap9, hB, hD, hlo, hX, hW⟩
    · skip
      have X0 : Blk (wr.alloc (.cells #[.int .i64 0, .int .i64 1, .int .i64 (-1), .int .i64 0, .bool false] 69)) wr.heap.size [.int .i64 0, .int .i64 1, .int .i64 (-1), .int .i64 0, .bool false] := by
        have hx := Blk.new wr [.int .i64 0, .int .i64 1, .int .i64 (-1), .int .i64 0, .bool false] 69
        exact hx
      replace X0 : Blk ((wr.alloc (.cells #[.int .i64 0, .int .i64 1, .int .i64 (-1), .int .i64 0, .bool false] 69)).alloc (.cells #[.int .i64 0, .int .i64 1, .int .i64 0] 71)) wr.heap.size [.int .i64 0, .int .i64 1, .int .i64 (-1), .int .i64 0, .bool false] := X0.next (below1' _ _)
      have X1 : Blk ((wr.alloc (.cells #[.int .i64 0, .int .i64 1, .int .i64 (-1), .int .i64 0, .bool false] 69)).alloc (.cells #[.int .i64 0, .int .i64 1, .int .i64 0] 71)) (wr.heap.size + 1) [.int .i64 0, .int .i64 1, .int .i64 0] := by
        have hx := Blk.new (wr.alloc (.cells #[.int .i64 0, .int .i64 1, .int .i64 (-1), .int .i64 0, .bool false] 69)) [.int .i64 0, .int .i64 1, .int .i64 0] 71
        rw [World.size_alloc] at hx
        exact hx
      have XW : Below wr.heap.size wr (wr.alloc (.cells #[.int .i64 0, .int .i64 1, .int .i64 (-1), .int .i64 0, .bool false] 69)) := below1' wr _
      replace XW : Below wr.heap.size wr ((wr.alloc (.cells #[.int .i64 0, .int .i64 1, .int .i64 (-1), .int .i64 0, .bool false] 69)).alloc (.cells #[.int .i64 0, .int .i64 1, .int .i64 0] 71)) := XW.trans ((below1' _ _).mono XW.size)
      have HWW := Lib.hid XW; have HX0 := Lib.hid X0; have HX1 := Lib.hid X1
      clear XW X0 X1
      go_upto_region 10 with fail
      have hsz : wr.heap.size + 1 = wr.heap.size + 1 := rfl
      generalize ((wr.alloc (.cells #[.int .i64 0, .int .i64 1, .int .i64 (-1), .int .i64 0, .bool false] 69)).alloc (.cells #[.int .i64 0, .int .i64 1, .int .i64 0] 71)) = w5 at *
      have HW := Lib.hid (Below.refl w5.heap.size w5)
      have hz0 := HX0.out.lt; have hz1 := HX1.out.lt
      have HB5 := Lib.hid (HB4.out.next HWW.out)
      have HO5 := Lib.hid (rowLater HO4.out HWW.out)
      have HX35 := Lib.hid (HX34.out.next HWW.out)
      have HW5 := Lib.hid (HW4.out.trans (HWW.out.mono HW4.out.size))
      clear x0 x1 x2 x3 x4 HB4 HO4 HX34 HW4 hsz HW hz0
      have j0 := (HB5.out).cell 0 _ rfl
      have j1 := (HB5.out).cell 1 _ rfl
      have j2 := (HB5.out).cell 2 _ rfl
      have j3 := (HB5.out).cell 3 _ rfl
      have j4 := (HB5.out).cell 4 _ rfl
      have j5 := (HB5.out).cell 5 _ rfl
      have d0 := (HX1.out).cell 0 _ rfl
      have d1 := (HX1.out).cell 1 _ rfl
      have d2 := (HX1.out).cell 2 _ rfl
      go_wp2_with fail
      refine (bsf_empty (some ⟨g5, 0, none⟩) 0 (0, 1, 0) _ w5).mono ?_
      rintro e w6 ⟨rfl, hb6⟩
      have HB6 := Lib.hid (HB5.out.next hb6)
      have HO6 := Lib.hid (rowLater HO5.out hb6)
      have HX36 := Lib.hid (HX35.out.next hb6)
      have HW6 := Lib.hid (HW5.out.trans (hb6.mono HW5.out.size))
      have HX16 := Lib.hid (HX1.out.next hb6)
      clear j0 j1 j2 j3 j4 j5 d0 d1 d2 HB5 HO5 HX35 HW5 hb6 HWW
      have j0 := (HB6.out).cell 0 _ rfl
      have j1 := (HB6.out).cell 1 _ rfl
      have j2 := (HB6.out).cell 2 _ rfl
      have j3 := (HB6.out).cell 3 _ rfl
      have j4 := (HB6.out).cell 4 _ rfl
      have j5 := (HB6.out).cell 5 _ rfl
      have d0 := (HX16.out).cell 0 _ rfl
      have d1 := (HX16.out).cell 1 _ rfl
      have d2 := (HX16.out).cell 2 _ rfl
      have BD := Blk.new w6 (Duty.cells (0, 1, 0)) 71
      have hbe := below1' w6 (.cells #[.int .i64 0, .int .i64 1, .int .i64 0] 71)
      have hsz6 : w0.heap.size ≤ w6.heap.size := by have h5 : g5 < w6.heap.size := (HO6.out.lt g5 rfl).2; omega
      have hO7 := rowLater HO6.out hbe
      have hIns := insert_end (.slice (some ⟨g5, 0, none⟩) 0 0) w0.heap.size 0 0 w6.heap.size (some ⟨g5, 0, none⟩) [] (0, 1, 0) (w6.alloc (.cells #[.int .i64 0, .int .i64 1, .int .i64 0] 71)) rfl (by omega) hO7 (Nat.le_trans hsz6 hbe.size) BD
      have HINS := Lib.hid hIns
      have HB7 := Lib.hid (HB6.out.next hbe)
      have HX37 := Lib.hid (HX36.out.next hbe)
      have HW7 := Lib.hid (HW6.out.trans (hbe.mono HW6.out.size))
      clear hO7 hIns hbe BD HB6 HO6 HX36 HW6 HX16
      go_wp2_with fail
      refine HINS.out.mono ?_
      rintro e w8 ⟨v, rfl, hown, hb8, _⟩
      obtain ⟨q9, cap9, rfl⟩ := row_form hown
      have HB8 := Lib.hid (HB7.out.later hb8 hzz1)
      have HX38 := Lib.hid (HX37.out.later hb8 hzz3)
      have HW8 := Lib.hid (HW7.out.trans (hb8.mono hGw))
      have HO8 := Lib.hid hown
      have hlo9 := row_lo hown
      clear hb8 hown HINS HB7 HX37 HW7 j0 j1 j2 j3 j4 j5 d0 d1 d2
      have f3 := HB8.out.fr 3
      have j0 := (HB8.out).cell 0 _ rfl
      have j1 := (HB8.out).cell 1 _ rfl
      have j2 := (HB8.out).cell 2 _ rfl
      have j3 := (HB8.out).cell 3 _ rfl
      have j4 := (HB8.out).cell 4 _ rfl
      have j5 := (HB8.out).cell 5 _ rfl
      go_wp2_with fail
      refine ⟨.inr ⟨by go_num, q9, cap9, HB8.out.set 3 _, ?_, hlo9, HX38.out.other hg13 _, HW8.out.setCell (p := ⟨g1, 3, none⟩) hG1 _⟩, by simp [intOf]⟩
      exact (rdD_of_owns HO8.out rfl).set fun A hA => by have := hlo9 A hA; omega
    · have HB := Lib.hid hB; have HD := Lib.hid hD; have HX := Lib.hid hX; have HW9 := Lib.hid hW
      clear hB hD hX hW
      have hne1 : ∀ A, q9 = some A → A.block ≠ g1 := fun A hA => by have := hlo A hA; omega
      have hne3 : ∀ A, q9 = some A → A.block ≠ g3 := fun A hA => by have := hlo A hA; omega
      have hloW : ∀ A, q9 = some A → w.heap.size ≤ A.block := fun A hA => Nat.le_trans hGw (hlo A hA)
      have HN1 := Lib.hid hne1; have HN3 := Lib.hid hne3; have HLW := Lib.hid hloW
      clear hne1 hne3 hloW hlo
      have j0 := (HB.out).cell 0 _ rfl
      have j1 := (HB.out).cell 1 _ rfl
      have j2 := (HB.out).cell 2 _ rfl
      have j3 := (HB.out).cell 3 _ rfl
      have j4 := (HB.out).cell 4 _ rfl
      have j5 := (HB.out).cell 5 _ rfl
      have e5 := HB.out.fr 5
      go_upto_region 15 with fail
      have HBa := Lib.hid (HB.out.set 5 (.bool false))
      have HDa := Lib.hid (HD.out.set (g := g1) (i := 5) (u := .bool false) HN1.out)
      have HXa := Lib.hid (HX.out.other (i := 5) hg13 (.bool false))
      have HWa := Lib.hid (HW9.out.setCell (p := ⟨g1, 5, none⟩) hG1 (.bool false))
      clear HB HD HX HW9 j0 j1 j2 j3 j4 j5 e5
      change Hid (Blk _ g1 [.int .i64 (-1), .int .i64 0, .int .i64 0, .slice q9 1 cap9, .int .i64 0, .bool false]) at HBa
      generalize wr.setCell ⟨g1, 5, none⟩ (.bool false) = wz at *
      have j0 := (HBa.out).cell 0 _ rfl
      have j1 := (HBa.out).cell 1 _ rfl
      have j2 := (HBa.out).cell 2 _ rfl
      have j3 := (HBa.out).cell 3 _ rfl
      have j4 := (HBa.out).cell 4 _ rfl
      have j5 := (HBa.out).cell 5 _ rfl
      have z0 := (HXa.out).cell 0 _ rfl
      have z1 := (HXa.out).cell 1 _ rfl
      have z2 := (HXa.out).cell 2 _ rfl
      have z3 := (HXa.out).cell 3 _ rfl
      have z4 := (HXa.out).cell 4 _ rfl
      have z5 := (HXa.out).cell 5 _ rfl
      have f0 := HXa.out.fr 0; have f1 := HXa.out.fr 1; have f2 := HXa.out.fr 2; have f3 := HXa.out.fr 3; have f4 := HXa.out.fr 4; have f5 := HXa.out.fr 5
      go_wp2_with fail
      have R8 := (((((HXa.out.set 0 (.int .i64 (-1))).set 1 (.int .i64 0)).set 2 (.int .i64 0)).set 3 (.slice q9 1 cap9)).set 4 (.int .i64 0)).set 5 (.bool false)
      have r0 := (R8).cell 0 _ rfl
      have r1 := (R8).cell 1 _ rfl
      have r2 := (R8).cell 2 _ rfl
      have r3 := (R8).cell 3 _ rfl
      have r4 := (R8).cell 4 _ rfl
      have r5 := (R8).cell 5 _ rfl
      exact bodyPost_ret (v := .tuple #[cvS oneB q9 cap9, .int .i64 0]) (by simp [results, Try.results12, go_sem, oneB, r0, r1, r2, r3, r4, r5]) rfl ⟨_, rfl, (((((HWa.out.setCell (p := ⟨g3, 0, none⟩) hG3 _).setCell (p := ⟨g3, 1, none⟩) hG3 _).setCell (p := ⟨g3, 2, none⟩) hG3 _).setCell (p := ⟨g3, 3, none⟩) hG3 _).setCell (p := ⟨g3, 4, none⟩) hG3 _).setCell (p := ⟨g3, 5, none⟩) hG3 _, ⟨q9, cap9, rfl, (((((HDa.out.set HN3.out).set HN3.out).set HN3.out).set HN3.out).set HN3.out).set HN3.out, HLW.out⟩⟩
end Go.Proofs.Ytnnkldidlgiipaa
