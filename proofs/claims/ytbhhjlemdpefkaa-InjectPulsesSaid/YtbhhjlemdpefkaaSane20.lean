/- The sanity check of chapter 20 answers true. Conditions: none. -/
import Derived.Test.YtbhhjlemdpefkaaCoilsRef
namespace Go.Proofs.Ytbhhjlemdpefkaa
open Go.RowKit
attribute [local go_sem ↓] run_eql_cs run_neq_cs
theorem run_eql_k (x y u v : Int) (o p : Bool) (w : World) : (binOp .eql 41 (.agg #[.int .u32 x, .int .u32 y, .bool o]) (.agg #[.int .u32 u, .int .u32 v, .bool p])).run Try.prog w = .ok (.bool (x == u && y == v && o == p)) w := by
  rw [run_eql_struct, run_equalIn_agg w 9999 41 _ _ (by kernel_rfl) (by kernel_rfl)]
  cases h1 : x == u <;> cases h2 : y == v <;> cases o <;> cases p <;> simp [go_sem, h1, h2]
theorem run_neq_k (x y u v : Int) (o p : Bool) (w : World) : (binOp .neq 41 (.agg #[.int .u32 x, .int .u32 y, .bool o]) (.agg #[.int .u32 u, .int .u32 v, .bool p])).run Try.prog w = .ok (.bool (!(x == u && y == v && o == p))) w := by
  rw [run_neq_struct, run_equalIn_agg w 9999 41 _ _ (by kernel_rfl) (by kernel_rfl)]
  cases h1 : x == u <;> cases h2 : y == v <;> cases o <;> cases p <;> simp [go_sem, h1, h2]
attribute [local go_sem ↓] run_eql_k run_neq_k
attribute [local go_sem] run_store_float
theorem cvB18 (n t g cap : Nat) : (Value.agg (bldP (fl18 n) (1 + (t : Int) % 7) (.slice (some ⟨g, 0, none⟩) (k18 n) cap)).toArray) = cvB (b18 n t) (some ⟨g, 0, none⟩) cap := by
  show _ = Value.agg #[.int .i64 (fl18 n), .int .i64 1, .int .i64 4000, .int .i64 (1 + (t : Int) % 7), .float .f64 4591870180066957722, .float .f64 4605380978949069210, .float .f64 4607632778762754458, .slice (some ⟨g, 0, none⟩) (cars18 n t).length cap]
  rw [cars18_len]
/-- The made building, as data. -/
theorem b18_val (n t : Nat) (w : World) (hn : n < 256) (ht : t < 256) :
    Calls Try.prog 8 #[.int .u8 n, .int .u8 t] w fun e w' => ∃ g cap, e = .returned (cvB (b18 n t) (some ⟨g, 0, none⟩) cap) ∧ w.heap.size < g ∧ g < w'.heap.size ∧ w'.ownsRow (w.heap.size + 1) 34 9 (.slice (some ⟨g, 0, none⟩) (b18 n t).cars.length cap) (b18 n t).cars.length (carCells (b18 n t).cars) ∧ RdC w' (some ⟨g, 0, none⟩) (b18 n t).cars ∧ Below w.heap.size w w' := by
  refine (b18_any n t w hn ht).mono ?_
  rintro e w' ⟨g, cap, rfl, hown, hb⟩
  refine ⟨g, cap, by rw [cvB18], ?_, ?_, ?_, rdC_of_owns hown (cars18_len n t), hb⟩
  · exact row_ge hown (Nat.le_refl _) (k := g) rfl
  · rcases hown.2 with ⟨hv, _⟩ | ⟨g', cap', cur, hv, _, hh, _⟩
    · simp at hv
    · simp at hv; rw [hv.1]; exact (Array.getElem?_eq_some_iff.1 hh).1
  · show w'.ownsRow _ _ 9 (.slice (some ⟨g, 0, none⟩) (cars18 n t).length cap) (cars18 n t).length (carCells (cars18 n t))
    rw [cars18_len]; exact hown
def duS : List Duty := [(0, 1, 1), (1, 2, 2)]
def belS : BelV := ⟨0, 0, 0, duS, 0, false⟩
theorem stateS : stateB (b18 0 4) 0 belS = true := by
  have hv := valid18 0 4
  unfold stateB headB dutiesB
  rw [hv]
  have h1 : stepB (b18 0 4) (dlOf (b18 0 4) 0) belS.du 0 = true := by
    show (callB (b18 0 4) 0 1 && inR 0 (dlOf (b18 0 4) 0) 1 && true) = true
    unfold callB; rw [hv]; decide +kernel
  have h2 : stepB (b18 0 4) (dlOf (b18 0 4) 0) belS.du 1 = true := by
    show (callB (b18 0 4) 1 2 && inR 0 (dlOf (b18 0 4) 0) 2 && decide (cmpD (0, 1, 1) (1, 2, 2) < 0)) = true
    unfold callB; rw [hv]; decide +kernel
  have h3 : (List.range belS.du.length).all (stepB (b18 0 4) (dlOf (b18 0 4) 0) belS.du) = true := by
    show ([0, 1] : List Nat).all _ = true
    simp [h1, h2]
  rw [h3]; decide +kernel
theorem coilS1 : coilV (b18 0 4) 0 1 belS = (1#32, 0#32) ∧ wiredOn (b18 0 4) 0 1 belS = true := by
  have h : wiredOn (b18 0 4) 0 1 belS = true := by unfold wiredOn; rw [stateS]; rfl
  refine ⟨?_, h⟩
  unfold coilV; rw [h]; decide +kernel
theorem coilS4 : coilV (b18 0 4) 0 4 belS = (0#32, 0#32) ∧ wiredOn (b18 0 4) 0 4 belS = false := by
  have h : wiredOn (b18 0 4) 0 4 belS = false := by unfold wiredOn; rw [stateS]; rfl
  refine ⟨?_, h⟩
  unfold coilV; rw [h]; rfl
set_option maxHeartbeats 4000000 in
theorem sane20_any (w : World) :
    Calls Try.prog 7 #[] w fun e w' => e = .returned (.bool true) ∧ Below w.heap.size w w' := by
  go_enter Try.func7, Try.ntmps7
  go_wp2_with fail
  refine (b18_val 0 4 _ (by omega) (by omega)).mono ?_
  rintro e w1 ⟨g, cap, rfl, hg0, hg1, hown, hr, hb⟩
  have hc := hr 0 (c18 4 (fl18 0) 0) rfl
  have hst := stateS
  have hc1 := coilS1
  have hc4 := coilS4
  have hfl : (b18 0 4).cars.length = 1 := rfl
  have HB := Lib.hid hb; have HR := Lib.hid hr; have HS := Lib.hid hst; have H1 := Lib.hid hc1; have H4 := Lib.hid hc4
  clear hb hr hst hc1 hc4 hown hc hfl
  have HL : Hid ((b18 0 4).cars.length ≤ 1000) := Lib.hid (by show (1 : Nat) ≤ 1000; omega)
  have hp : w1.cell? ⟨g, 1, none⟩ = some (.int .i64 2) := by
    obtain ⟨A, hq, _, hcell⟩ := HR.out 0 (c18 4 (fl18 0) 0) rfl
    obtain rfl : A = ⟨g, 0, none⟩ := by simpa using hq.symm
    have := hcell 1 _ rfl
    rwa [Addr.add_lit] at this
  have hlen : (0 : Int) < ((b18 0 4).cars.length : Int) := by show (0 : Int) < ((1 : Nat) : Int); omega
  generalize b18 0 4 = b at *
  have X0 : Blk (w1.alloc (.cells #[.int .i64 b.fl, .int .i64 b.deb, .int .i64 b.room, .int .i64 b.park, .float .f64 b.em, .float .f64 b.fu, .float .f64 b.ov, .slice (some ⟨g, 0, none⟩) b.cars.length cap] 31)) w1.heap.size [.int .i64 b.fl, .int .i64 b.deb, .int .i64 b.room, .int .i64 b.park, .float .f64 b.em, .float .f64 b.fu, .float .f64 b.ov, .slice (some ⟨g, 0, none⟩) b.cars.length cap] := by
    have hx := Blk.new w1 [.int .i64 b.fl, .int .i64 b.deb, .int .i64 b.room, .int .i64 b.park, .float .f64 b.em, .float .f64 b.fu, .float .f64 b.ov, .slice (some ⟨g, 0, none⟩) b.cars.length cap] 31
    exact hx
  replace X0 : Blk ((w1.alloc (.cells #[.int .i64 b.fl, .int .i64 b.deb, .int .i64 b.room, .int .i64 b.park, .float .f64 b.em, .float .f64 b.fu, .float .f64 b.ov, .slice (some ⟨g, 0, none⟩) b.cars.length cap] 31)).alloc (.cells #[.int .i64 0, .int .i64 1, .int .i64 1, .int .i64 1, .int .i64 2, .int .i64 2] 59)) w1.heap.size [.int .i64 b.fl, .int .i64 b.deb, .int .i64 b.room, .int .i64 b.park, .float .f64 b.em, .float .f64 b.fu, .float .f64 b.ov, .slice (some ⟨g, 0, none⟩) b.cars.length cap] := X0.next (below1' _ _)
  replace X0 : Blk (((w1.alloc (.cells #[.int .i64 b.fl, .int .i64 b.deb, .int .i64 b.room, .int .i64 b.park, .float .f64 b.em, .float .f64 b.fu, .float .f64 b.ov, .slice (some ⟨g, 0, none⟩) b.cars.length cap] 31)).alloc (.cells #[.int .i64 0, .int .i64 1, .int .i64 1, .int .i64 1, .int .i64 2, .int .i64 2] 59)).alloc (.cells #[.int .i64 0, .int .i64 0, .int .i64 0, .slice (some ⟨w1.heap.size + 1, 0, none⟩) 2 2, .int .i64 0, .bool false] 26)) w1.heap.size [.int .i64 b.fl, .int .i64 b.deb, .int .i64 b.room, .int .i64 b.park, .float .f64 b.em, .float .f64 b.fu, .float .f64 b.ov, .slice (some ⟨g, 0, none⟩) b.cars.length cap] := X0.next (below1' _ _)
  have X1 : Blk ((w1.alloc (.cells #[.int .i64 b.fl, .int .i64 b.deb, .int .i64 b.room, .int .i64 b.park, .float .f64 b.em, .float .f64 b.fu, .float .f64 b.ov, .slice (some ⟨g, 0, none⟩) b.cars.length cap] 31)).alloc (.cells #[.int .i64 0, .int .i64 1, .int .i64 1, .int .i64 1, .int .i64 2, .int .i64 2] 59)) (w1.heap.size + 1) [.int .i64 0, .int .i64 1, .int .i64 1, .int .i64 1, .int .i64 2, .int .i64 2] := by
    have hx := Blk.new (w1.alloc (.cells #[.int .i64 b.fl, .int .i64 b.deb, .int .i64 b.room, .int .i64 b.park, .float .f64 b.em, .float .f64 b.fu, .float .f64 b.ov, .slice (some ⟨g, 0, none⟩) b.cars.length cap] 31)) [.int .i64 0, .int .i64 1, .int .i64 1, .int .i64 1, .int .i64 2, .int .i64 2] 59
    rw [World.size_alloc] at hx
    exact hx
  replace X1 : Blk (((w1.alloc (.cells #[.int .i64 b.fl, .int .i64 b.deb, .int .i64 b.room, .int .i64 b.park, .float .f64 b.em, .float .f64 b.fu, .float .f64 b.ov, .slice (some ⟨g, 0, none⟩) b.cars.length cap] 31)).alloc (.cells #[.int .i64 0, .int .i64 1, .int .i64 1, .int .i64 1, .int .i64 2, .int .i64 2] 59)).alloc (.cells #[.int .i64 0, .int .i64 0, .int .i64 0, .slice (some ⟨w1.heap.size + 1, 0, none⟩) 2 2, .int .i64 0, .bool false] 26)) (w1.heap.size + 1) [.int .i64 0, .int .i64 1, .int .i64 1, .int .i64 1, .int .i64 2, .int .i64 2] := X1.next (below1' _ _)
  have X2 : Blk (((w1.alloc (.cells #[.int .i64 b.fl, .int .i64 b.deb, .int .i64 b.room, .int .i64 b.park, .float .f64 b.em, .float .f64 b.fu, .float .f64 b.ov, .slice (some ⟨g, 0, none⟩) b.cars.length cap] 31)).alloc (.cells #[.int .i64 0, .int .i64 1, .int .i64 1, .int .i64 1, .int .i64 2, .int .i64 2] 59)).alloc (.cells #[.int .i64 0, .int .i64 0, .int .i64 0, .slice (some ⟨w1.heap.size + 1, 0, none⟩) 2 2, .int .i64 0, .bool false] 26)) (w1.heap.size + 1 + 1) [.int .i64 0, .int .i64 0, .int .i64 0, .slice (some ⟨w1.heap.size + 1, 0, none⟩) 2 2, .int .i64 0, .bool false] := by
    have hx := Blk.new ((w1.alloc (.cells #[.int .i64 b.fl, .int .i64 b.deb, .int .i64 b.room, .int .i64 b.park, .float .f64 b.em, .float .f64 b.fu, .float .f64 b.ov, .slice (some ⟨g, 0, none⟩) b.cars.length cap] 31)).alloc (.cells #[.int .i64 0, .int .i64 1, .int .i64 1, .int .i64 1, .int .i64 2, .int .i64 2] 59)) [.int .i64 0, .int .i64 0, .int .i64 0, .slice (some ⟨w1.heap.size + 1, 0, none⟩) 2 2, .int .i64 0, .bool false] 26
    rw [World.size_alloc, World.size_alloc] at hx
    exact hx
  have XW : Below w1.heap.size w1 (w1.alloc (.cells #[.int .i64 b.fl, .int .i64 b.deb, .int .i64 b.room, .int .i64 b.park, .float .f64 b.em, .float .f64 b.fu, .float .f64 b.ov, .slice (some ⟨g, 0, none⟩) b.cars.length cap] 31)) := below1' w1 _
  replace XW : Below w1.heap.size w1 ((w1.alloc (.cells #[.int .i64 b.fl, .int .i64 b.deb, .int .i64 b.room, .int .i64 b.park, .float .f64 b.em, .float .f64 b.fu, .float .f64 b.ov, .slice (some ⟨g, 0, none⟩) b.cars.length cap] 31)).alloc (.cells #[.int .i64 0, .int .i64 1, .int .i64 1, .int .i64 1, .int .i64 2, .int .i64 2] 59)) := XW.trans ((below1' _ _).mono XW.size)
  replace XW : Below w1.heap.size w1 (((w1.alloc (.cells #[.int .i64 b.fl, .int .i64 b.deb, .int .i64 b.room, .int .i64 b.park, .float .f64 b.em, .float .f64 b.fu, .float .f64 b.ov, .slice (some ⟨g, 0, none⟩) b.cars.length cap] 31)).alloc (.cells #[.int .i64 0, .int .i64 1, .int .i64 1, .int .i64 1, .int .i64 2, .int .i64 2] 59)).alloc (.cells #[.int .i64 0, .int .i64 0, .int .i64 0, .slice (some ⟨w1.heap.size + 1, 0, none⟩) 2 2, .int .i64 0, .bool false] 26)) := XW.trans ((below1' _ _).mono XW.size)
  have HWW := Lib.hid XW; have HX0 := Lib.hid X0; have HX1 := Lib.hid X1; have HX2 := Lib.hid X2
  clear XW X0 X1 X2
  have hcx := HWW.out.cell (p := ⟨g, 1, none⟩) hg1
  rw [hp] at hcx
  have HR3 := Lib.hid (HR.out.next HWW.out)
  have HB3 := Lib.hid (HB.out.trans (HWW.out.mono HB.out.size))
  clear HR HB hp
  go_upto_region 3 with fail
  generalize (((w1.alloc (.cells #[.int .i64 b.fl, .int .i64 b.deb, .int .i64 b.room, .int .i64 b.park, .float .f64 b.em, .float .f64 b.fu, .float .f64 b.ov, .slice (some ⟨g, 0, none⟩) b.cars.length cap] 31)).alloc (.cells #[.int .i64 0, .int .i64 1, .int .i64 1, .int .i64 1, .int .i64 2, .int .i64 2] 59)).alloc (.cells #[.int .i64 0, .int .i64 0, .int .i64 0, .slice (some ⟨w1.heap.size + 1, 0, none⟩) 2 2, .int .i64 0, .bool false] 26)) = w3 at *
  generalize hg2 : w1.heap.size + 1 + 1 = g2 at *
  generalize hg1 : w1.heap.size + 1 = g1 at *
  have HG1 := Lib.hid hg1; have hq1 : w1.heap.size + 1 ≤ g1 := by omega
  have HG2 := Lib.hid hg2; have hq2 : w1.heap.size + 2 ≤ g2 := by omega
  clear hg1 hg2
  have HW := Lib.hid (Below.refl w3.heap.size w3)
  have hz0 := HX0.out.lt; have hz1 := HX1.out.lt; have hz2 := HX2.out.lt
  have HD : Hid (RdD w3 (some ⟨g1, 0, none⟩) belS.du) := by
    refine Lib.hid ?_
    intro i d hi
    refine ⟨⟨g1, 0, none⟩, rfl, hz1, fun j u hu => ?_⟩
    rw [Addr.add_lit, Nat.zero_add]
    have hj : j < 3 := (List.getElem?_eq_some_iff.1 hu).1
    have h2 : i < 2 := (List.getElem?_eq_some_iff.1 hi).1
    refine HX1.out.cell _ _ ?_
    match i, j, h2, hj with
    | 0, 0, _, _ => cases hi; exact hu
    | 0, 1, _, _ => cases hi; exact hu
    | 0, 2, _, _ => cases hi; exact hu
    | 1, 0, _, _ => cases hi; exact hu
    | 1, 1, _, _ => cases hi; exact hu
    | 1, 2, _, _ => cases hi; exact hu
  have k0 := (HX0.out).cell 0 _ rfl
  have k1 := (HX0.out).cell 1 _ rfl
  have k2 := (HX0.out).cell 2 _ rfl
  have k3 := (HX0.out).cell 3 _ rfl
  have k4 := (HX0.out).cell 4 _ rfl
  have k5 := (HX0.out).cell 5 _ rfl
  have k6 := (HX0.out).cell 6 _ rfl
  have k7 := (HX0.out).cell 7 _ rfl
  have j0 := (HX2.out).cell 0 _ rfl
  have j1 := (HX2.out).cell 1 _ rfl
  have j2 := (HX2.out).cell 2 _ rfl
  have j3 := (HX2.out).cell 3 _ rfl
  have j4 := (HX2.out).cell 4 _ rfl
  have j5 := (HX2.out).cell 5 _ rfl
  go_wp2_with fail
  refine (calls_val (y := .agg #[.int .u32 1, .int .u32 0, .bool false]) (coils_any b (some ⟨g, 0, none⟩) cap 0 1 belS (some ⟨g1, 0, none⟩) 2 _ HL.out (by decide) (HR3.out.next HW.out) (HD.out.next HW.out)) (by rw [H1.out.1, H1.out.2]; rfl)).mono ?_
  rintro e w4 ⟨rfl, hbn⟩
  have HWn := Lib.hid (HW.out.trans (hbn.mono HW.out.size))
  try clear c0
  clear HW hbn
  have HW := HWn
  clear HWn
  have c0 := base_cell HW.out
  go_wp2_with fail
  refine (calls_val (y := .agg #[.int .u32 0, .int .u32 0, .bool true]) (coils_any b (some ⟨g, 0, none⟩) cap 0 4 belS (some ⟨g1, 0, none⟩) 2 _ HL.out (by decide) (HR3.out.next HW.out) (HD.out.next HW.out)) (by rw [H4.out.1, H4.out.2]; rfl)).mono ?_
  rintro e w5 ⟨rfl, hbn⟩
  have HWn := Lib.hid (HW.out.trans (hbn.mono HW.out.size))
  try clear c0
  clear HW hbn
  have HW := HWn
  clear HWn
  have c0 := base_cell HW.out
  go_wp2_with fail
  refine (calls_bool (y := false) (safe_any 2 (1#32, 0#32) false _) (by decide +kernel)).mono ?_
  rintro e w6 ⟨rfl, hbn⟩
  have HWn := Lib.hid (HW.out.trans (hbn.mono HW.out.size))
  try clear c0
  clear HW hbn
  have HW := HWn
  clear HWn
  have c0 := base_cell HW.out
  go_wp2_with fail
  refine (calls_bool (y := true) (allowed_any 4 1 _) (by decide +kernel)).mono ?_
  rintro e w7 ⟨rfl, hbn⟩
  have HWn := Lib.hid (HW.out.trans (hbn.mono HW.out.size))
  try clear c0
  clear HW hbn
  have HW := HWn
  clear HWn
  have c0 := base_cell HW.out
  go_wp2_with fail
  refine (calls_bool (y := false) (allowed_any 0 1 _) (by decide +kernel)).mono ?_
  rintro e w8 ⟨rfl, hbn⟩
  have HWn := Lib.hid (HW.out.trans (hbn.mono HW.out.size))
  try clear c0
  clear HW hbn
  have HW := HWn
  clear HWn
  have c0 := base_cell HW.out
  go_wp2_with fail
  go_ret
  exact ⟨rfl, HB3.out.trans (HW.out.mono HB3.out.size)⟩
end Go.Proofs.Ytbhhjlemdpefkaa
