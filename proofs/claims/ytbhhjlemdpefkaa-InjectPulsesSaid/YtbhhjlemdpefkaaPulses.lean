/- InjectPulses: for how long the coil of a duty that is not shown is energised. The law's function answers true at every argument. Conditions: none. -/
import Derived.Test.YtbhhjlemdpefkaaInjNew
import Derived.Test.YtbhhjlemdpefkaaCoilLaw
import Derived.Deep.RegionWith
namespace Go.Proofs.Ytbhhjlemdpefkaa
open Go.ChangeShapes Go.WideShapes Go.ChangeAt Go.RowKit
attribute [local go_sem ↓] run_eql_cs run_neq_cs run_eql_k run_neq_k
attribute [local go_sem] run_store_float
def cP (n t : Nat) (p : Int) : CarV := { c18 t (fl18 n) 0 with pu := p }
def bP (n t : Nat) (p : Int) : BldV := { b18 n t with cars := (b18 n t).cars.set 0 (cP n t p) }
theorem bP_cells (n t : Nat) (p : Int) : carCells (bP n t p).cars = (carCells (b18 n t).cars).set 1 (.int .i64 p) :=
  carCells_set (b18 n t).cars 0 1 _ _ _ (by omega) (cars18_0 n t) rfl
theorem bP_len (n t : Nat) (p : Int) : (bP n t p).cars.length = (b18 n t).cars.length := by simp [bP]
theorem bP_car (n t : Nat) (p : Int) : (bP n t p).cars[0]? = some (cP n t p) := by
  have : 0 < (b18 n t).cars.length := (List.getElem?_eq_some_iff.1 (cars18_0 n t)).1
  simp [bP, this]
theorem timesP (n t : Nat) (p : Int) (h1 : 1 ≤ p) (h2 : p ≤ 10000) : timesB (cP n t p) (fl18 n) = true := by
  have h := times18 t (fl18 n) 0 (fl18_range n).1
  unfold timesB inAll at h ⊢
  simp only [List.all_cons, List.all_nil, Bool.and_eq_true, Bool.and_true] at h ⊢
  obtain ⟨⟨⟨⟨a0, a1, a2, a3⟩, b1⟩, b2⟩, b3⟩ := h
  exact ⟨⟨⟨⟨a0, (inR_iff _ _ _).2 ⟨h1, h2⟩, a2, a3⟩, b1⟩, b2⟩, b3⟩
theorem validP (n t : Nat) (p : Int) (h1 : 1 ≤ p) (h2 : p ≤ 10000) : validN (bP n t p) = 0 := by
  have hv := valid18 n t
  have hg : goodB (bP n t p) (bP n t p).cars.length = true := by
    unfold goodB
    rw [List.take_length]
    have a1 : inAll 1 16 [(bP n t p).deb] = true := by rw [inAll_one]; show (1 : Int) ≤ 1 ∧ (1 : Int) ≤ 16; omega
    have a2 : inAll 1 10000 [(bP n t p).park] = true := by rw [inAll_one]; show 1 ≤ 1 + (t : Int) % 7 ∧ 1 + (t : Int) % 7 ≤ 10000; omega
    rw [a1, a2]
    show (true && true && ((b18 n t).cars.set 0 (cP n t p)).all (timesB · (fl18 n))) = true
    rw [Bool.true_and, Bool.true_and, List.all_eq_true]
    intro c hc
    rcases List.mem_or_eq_of_mem_set hc with h | rfl
    · obtain ⟨i, _, rfl⟩ := List.mem_map.1 h
      exact times18 t _ i (fl18_range n).1
    · exact timesP n t p h1 h2
  have hg0 : goodB (b18 n t) (b18 n t).cars.length = true := by
    unfold goodB
    rw [List.take_length]
    have a1 : inAll 1 16 [(b18 n t).deb] = true := by rw [inAll_one]; show (1 : Int) ≤ 1 ∧ (1 : Int) ≤ 16; omega
    have a2 : inAll 1 10000 [(b18 n t).park] = true := by rw [inAll_one]; show 1 ≤ 1 + (t : Int) % 7 ∧ 1 + (t : Int) % 7 ≤ 10000; omega
    rw [a1, a2]
    show (true && true && (cars18 n t).all (timesB · (fl18 n))) = true
    rw [Bool.true_and, Bool.true_and, List.all_eq_true]
    intro c hc
    obtain ⟨i, _, rfl⟩ := List.mem_map.1 hc
    exact times18 t _ i (fl18_range n).1
  unfold validN at hv ⊢
  rw [hg0] at hv
  rw [hg, bP_len]
  exact hv
def dlP (t : Nat) : Nat := 1 + t % 16
def sB (t i : Nat) : BelV := if i ≤ dlP t then ⟨-1, 0, 0, [(0, 1, (i : Int))], 0, false⟩ else ⟨-1, 0, 0, [], 0, true⟩
theorem sB_dl (n t : Nat) (p : Int) : dlOf (bP n t p) 0 = (dlP t : Int) := by
  unfold dlOf
  show (((bP n t p).cars[0]?).map CarV.dl).getD 0 = _
  rw [bP_car]
  show (1 : Int) + (t : Int) % 16 = ((1 + t % 16 : Nat) : Int)
  omega
theorem sB_state (n t : Nat) (p : Int) (h1 : 1 ≤ p) (h2 : p ≤ 10000) (i : Nat) : stateB (bP n t p) 0 (sB t i) = true := by
  have hv := validP n t p h1 h2
  have hfl : 2 ≤ (bP n t p).fl := (fl18_range n).1
  have hl : 1 ≤ (bP n t p).cars.length := by rw [bP_len]; exact (List.getElem?_eq_some_iff.1 (cars18_0 n t)).1
  have hc : callB (bP n t p) 0 1 = true := by
    unfold callB isCallB; rw [hv]
    have : inR 0 ((bP n t p).fl - 2) 0 = true := (inR_iff _ _ _).2 ⟨by omega, by omega⟩
    rw [this]; rfl
  have hhd : ∀ du late, (late && decide (0 < (du : List Duty).length)) = false → headB (bP n t p) 0 ⟨-1, 0, 0, du, 0, late⟩ = true := by
    intro du late h
    unfold headB
    have a1 : inR 0 (((bP n t p).cars.length : Int) - 1) 0 = true := (inR_iff _ _ _).2 ⟨by omega, by omega⟩
    have a2 : inR (-1) ((bP n t p).fl - 1) (-1) = true := (inR_iff _ _ _).2 ⟨by omega, by omega⟩
    simp only [hv, a1, a2, h]
    decide
  unfold stateB sB
  split
  · rename_i hi
    rw [hhd _ _ rfl]
    unfold dutiesB
    show (true && ([0] : List Nat).all (stepB (bP n t p) (dlOf (bP n t p) 0) [(0, 1, (i : Int))])) = true
    have : stepB (bP n t p) (dlOf (bP n t p) 0) [(0, 1, (i : Int))] 0 = true := by
      show (callB (bP n t p) 0 1 && inR 0 (dlOf (bP n t p) 0) (i : Int) && true) = true
      rw [hc, sB_dl, (inR_iff _ _ _).2 ⟨by omega, by omega⟩]
      rfl
    simp [this]
  · rw [hhd _ _ rfl]; rfl
theorem newB_stP (n t : Nat) (p : Int) (h1 : 1 ≤ p) (h2 : p ≤ 10000) : stateB (bP n t p) 0 newB = true := by
  have h := sB_state n t p h1 h2 (dlP t + 1)
  unfold sB at h
  rw [if_neg (by omega)] at h
  unfold stateB headB at h ⊢
  simp only [Bool.and_eq_true] at h ⊢
  obtain ⟨⟨⟨⟨⟨⟨⟨a1, a2⟩, a3⟩, a4⟩, a5⟩, a6⟩, a7⟩, a8⟩ := h
  exact ⟨⟨⟨⟨⟨⟨⟨a1, a2⟩, a3⟩, a4⟩, a5⟩, a6⟩, rfl⟩, rfl⟩
theorem sB_obs (n t : Nat) (p : Int) (h1 : 1 ≤ p) (h2 : p ≤ 10000) (i : Nat) (hi : i ≤ dlP t) : observeV (bP n t p) 0 (sB t i) (-1, 0, 0) = sB t (i + 1) ∧ obsOk (bP n t p) 0 (sB t i) (-1, 0, 0) = true := by
  have hs := sB_state n t p h1 h2 i
  have hfl := fl18_range n
  have ho : obsB (bP n t p).fl (-1, 0, 0) = true := by
    unfold obsB okB
    show (decide (2 ≤ fl18 n) && decide (fl18 n ≤ 32) && inR (-1) (fl18 n - 1) (-1) && inR 0 3 0 && inR 0 3 0) = true
    rw [decide_eq_true (show 2 ≤ fl18 n by omega), decide_eq_true (show fl18 n ≤ 32 by omega), (inR_iff _ _ _).2 (show (-1 : Int) ≤ -1 ∧ -1 ≤ fl18 n - 1 by omega)]
    decide
  have hok : obsOk (bP n t p) 0 (sB t i) (-1, 0, 0) = true := by unfold obsOk; rw [hs, ho]; rfl
  refine ⟨?_, hok⟩
  have hsh : showsV (bP n t p).fl (-1, 0, 0) = (0#32, 0#32) := by unfold showsV; rw [if_neg (by rintro ⟨_, h, _⟩; cases h)]
  have hha : has (0#32, 0#32) 0 1 = false := by decide +kernel
  unfold observeV
  rw [if_pos hok, hsh]
  unfold sB agedV
  rw [if_pos hi, sB_dl]
  by_cases h : i + 1 ≤ dlP t
  · have hl : agedLate (dlP t : Int) [(0, 1, (i : Int))] = false := by
      show (decide ((dlP t : Int) < (i : Int) + 1) || false) = false
      rw [decide_eq_false (by omega)]; rfl
    have ha : agedL (0#32, 0#32) [(0, 1, (i : Int))] = [(0, 1, (i : Int) + 1)] := by simp [agedL, hha, agedD]
    rw [if_pos h]
    simp only [hl, ha]
    simp [stillV]
  · have hl : agedLate (dlP t : Int) [(0, 1, (i : Int))] = true := by
      show (decide ((dlP t : Int) < (i : Int) + 1) || false) = true
      rw [decide_eq_true (by omega)]; rfl
    rw [if_neg h]
    simp only [hl]
    simp [stillV]
theorem sB_coil (n t : Nat) (p : Int) (h1 : 1 ≤ p) (h2 : p ≤ 10000) (i : Nat) (ph : Int) (hph : wiredB ph = true) : coilV (bP n t p) 0 ph (sB t i) = (if i ≤ dlP t ∧ (i : Int) < p then (1#32, 0#32) else (0#32, 0#32)) ∧ wiredOn (bP n t p) 0 ph (sB t i) = true := by
  have hw : wiredOn (bP n t p) 0 ph (sB t i) = true := by unfold wiredOn; rw [hph, sB_state n t p h1 h2 i]; rfl
  refine ⟨?_, hw⟩
  have hpu : puOf (bP n t p) 0 = p := by
    unfold puOf
    show (((bP n t p).cars[0]?).map CarV.pu).getD 0 = _
    rw [bP_car]; rfl
  have hone : union (0#32, 0#32) (one 0 1) = (1#32, 0#32) := by decide +kernel
  unfold coilV
  rw [if_pos hw, hpu]
  unfold sB
  by_cases h : i ≤ dlP t
  · rw [if_pos h]
    show (if (i : Int) < p then union (0#32, 0#32) (one 0 1) else (0#32, 0#32)) = _
    rw [hone]
    by_cases h3 : (i : Int) < p
    · rw [if_pos h3, if_pos ⟨h, h3⟩]
    · rw [if_neg h3, if_neg fun h => h3 h.2]
  · rw [if_neg h, if_neg fun h' => h h'.1]; rfl
theorem drewB (w : World) : Below w.heap.size w w.drew := ⟨rfl, rfl, rfl, Nat.le_refl _, fun _ _ => rfl⟩
theorem below_al {B : Nat} {w W : World} (h : Below B w W) (hB : B ≤ w.heap.size) (o : Obj) : Below B w (W.alloc o) := h.trans ((below1' W o).mono (Nat.le_trans hB h.size))
theorem base_frozen {W w1 : World} (hb : Below W.heap.size W w1) : ∀ b o, b < W.heap.size → w1.frozen? ⟨b, o, none⟩ = W.frozen? ⟨b, o, none⟩ := fun b o h => by
  simp only [World.frozen?, hb.block b h]
theorem endA {w3 w6 : World} {q7 : Option Addr} {cap7 : Nat} (hT : Below w3.heap.size w3 w6) (hrd : RdD w6 q7 oneB.du) :
    w3.heap.size ≤ w6.heap.size ∧ Blk (w6.alloc (.cells #[.int .i64 oneB.fl, .int .i64 oneB.dir, .int .i64 oneB.door, .slice q7 oneB.du.length cap7, .int .i64 oneB.still, .bool oneB.late] 26)) w6.heap.size (oneB.cells q7 cap7) ∧ RdD (w6.alloc (.cells #[.int .i64 oneB.fl, .int .i64 oneB.dir, .int .i64 oneB.door, .slice q7 oneB.du.length cap7, .int .i64 oneB.still, .bool oneB.late] 26)) q7 oneB.du ∧ (∀ A, q7 = some A → A.block ≠ w6.heap.size) ∧ Below w3.heap.size w3 (w6.alloc (.cells #[.int .i64 oneB.fl, .int .i64 oneB.dir, .int .i64 oneB.door, .slice q7 oneB.du.length cap7, .int .i64 oneB.still, .bool oneB.late] 26)) := by
  refine ⟨hT.size, Blk.new w6 (oneB.cells q7 cap7) 26, hrd.next (below1' _ _), fun A hA => ?_, below_al hT (Nat.le_refl _) _⟩
  obtain ⟨A', h1, h2, _⟩ := hrd 0 (0, 1, 0) rfl
  obtain rfl : A = A' := by rw [hA] at h1; simpa using h1
  omega
theorem endB {w3 w6 : World} {g7 : Nat} {q7 : Option Addr} {cap7 : Nat} (hT : Below w3.heap.size w3 w6) (hrd : RdD w6 q7 oneB.du) (hg : w3.heap.size ≤ g7) (hB : Blk w6 g7 [.int .i64 0, .int .i64 0, .int .i64 0, .slice none 0 0, .int .i64 0, .bool false]) (hne : ∀ A, q7 = some A → g7 < A.block) :
    w3.heap.size ≤ g7 ∧ Blk ((((((w6.setCell ⟨g7, 0, none⟩ (.int .i64 oneB.fl)).setCell ⟨g7, 1, none⟩ (.int .i64 oneB.dir)).setCell ⟨g7, 2, none⟩ (.int .i64 oneB.door)).setCell ⟨g7, 3, none⟩ (.slice q7 oneB.du.length cap7)).setCell ⟨g7, 4, none⟩ (.int .i64 oneB.still)).setCell ⟨g7, 5, none⟩ (.bool oneB.late)) g7 (oneB.cells q7 cap7) ∧
      RdD ((((((w6.setCell ⟨g7, 0, none⟩ (.int .i64 oneB.fl)).setCell ⟨g7, 1, none⟩ (.int .i64 oneB.dir)).setCell ⟨g7, 2, none⟩ (.int .i64 oneB.door)).setCell ⟨g7, 3, none⟩ (.slice q7 oneB.du.length cap7)).setCell ⟨g7, 4, none⟩ (.int .i64 oneB.still)).setCell ⟨g7, 5, none⟩ (.bool oneB.late)) q7 oneB.du ∧ (∀ A, q7 = some A → A.block ≠ g7) ∧
      Below w3.heap.size w3 ((((((w6.setCell ⟨g7, 0, none⟩ (.int .i64 oneB.fl)).setCell ⟨g7, 1, none⟩ (.int .i64 oneB.dir)).setCell ⟨g7, 2, none⟩ (.int .i64 oneB.door)).setCell ⟨g7, 3, none⟩ (.slice q7 oneB.du.length cap7)).setCell ⟨g7, 4, none⟩ (.int .i64 oneB.still)).setCell ⟨g7, 5, none⟩ (.bool oneB.late)) := by
  have hn : ∀ A, q7 = some A → A.block ≠ g7 := fun A hA => by have := hne A hA; omega
  exact ⟨hg, (((((hB.set 0 (.int .i64 oneB.fl)).set 1 (.int .i64 oneB.dir)).set 2 (.int .i64 oneB.door)).set 3 (.slice q7 oneB.du.length cap7)).set 4 (.int .i64 oneB.still)).set 5 (.bool oneB.late),
    (((((hrd.set hn).set hn).set hn).set hn).set hn).set hn, hn, (((((hT.setCell (p := ⟨g7, 0, none⟩) hg _).setCell (p := ⟨g7, 1, none⟩) hg _).setCell (p := ⟨g7, 2, none⟩) hg _).setCell (p := ⟨g7, 3, none⟩) hg _).setCell (p := ⟨g7, 4, none⟩) hg _).setCell (p := ⟨g7, 5, none⟩) hg _⟩
set_option maxHeartbeats 8000000 in
set_option maxRecDepth 100000 in
theorem pulses_walk (n t u : Nat) (w : World) (hn : n < 256) (ht : t < 256) (hu : u < 256) :
    Calls Try.prog 6 #[.agg #[.int .u8 n, .int .u8 t], .int .u8 u] w fun e w' => e = .returned (.bool true) ∧ Below w.heap.size w w' := by
  have X0 : Blk (w.alloc (.cells #[.int .u8 n, .int .u8 t] 22)) w.heap.size [.int .u8 n, .int .u8 t] := by
    have hx := Blk.new w [.int .u8 n, .int .u8 t] 22
    exact hx
  have XW : Below w.heap.size w (w.alloc (.cells #[.int .u8 n, .int .u8 t] 22)) := below1' w _
  have HWW := Lib.hid XW; have HX0 := Lib.hid X0
  clear XW X0
  go_enter Try.func6, Try.ntmps6
  go_upto_region 1 with fail
  generalize (w.alloc (.cells #[.int .u8 n, .int .u8 t] 22)) = w0 at *
  have HW := Lib.hid (Below.refl w0.heap.size w0)
  have hz0 := HX0.out.lt
  have k0 := (HX0.out).cell 0 _ rfl
  have k1 := (HX0.out).cell 1 _ rfl
  go_wp2_with fail
  refine (b18_val n t _ hn ht).mono ?_
  rintro e w1 ⟨g, cap, rfl, hg0, hg1', hown, hr, hb⟩
  have HB := Lib.hid (HW.out.trans (hb.mono HW.out.size))
  have HOW := Lib.hid hown
  have hsz01 : w0.heap.size < g := Nat.lt_of_le_of_lt HW.out.size hg0
  have hdl : w1.cell? ⟨g, 0, none⟩ = some (.int .i64 (1 + (t : Int) % 16)) := by
    obtain ⟨A, hq, _, hcell⟩ := hr 0 (c18 t (fl18 n) 0) (cars18_0 n t)
    obtain rfl : A = ⟨g, 0, none⟩ := by simpa using hq.symm
    have := hcell 0 _ rfl
    rwa [Addr.add_lit] at this
  have hp1 : w1.cell? ⟨g, 1, none⟩ = some (.int .i64 2) := by
    obtain ⟨A, hq, _, hcell⟩ := hr 0 (c18 t (fl18 n) 0) (cars18_0 n t)
    obtain rfl : A = ⟨g, 0, none⟩ := by simpa using hq.symm
    have := hcell 1 _ rfl
    rwa [Addr.add_lit] at this
  have HP1 := Lib.hid hp1
  clear hb hr hown HW k0 k1 hp1 hdl
  go_upto_region 2 with fail
  have B5 := Blk.new w1 [.int .i64 (b18 n t).fl, .int .i64 (b18 n t).deb, .int .i64 (b18 n t).room, .int .i64 (b18 n t).park, .float .f64 (b18 n t).em, .float .f64 (b18 n t).fu, .float .f64 (b18 n t).ov, .slice (some ⟨g, 0, none⟩) (b18 n t).cars.length cap] 31
  have hb5 := below1' w1 (.cells #[.int .i64 (b18 n t).fl, .int .i64 (b18 n t).deb, .int .i64 (b18 n t).room, .int .i64 (b18 n t).park, .float .f64 (b18 n t).em, .float .f64 (b18 n t).fu, .float .f64 (b18 n t).ov, .slice (some ⟨g, 0, none⟩) (b18 n t).cars.length cap] 31)
  change Blk (w1.alloc (.cells #[.int .i64 (b18 n t).fl, .int .i64 (b18 n t).deb, .int .i64 (b18 n t).room, .int .i64 (b18 n t).park, .float .f64 (b18 n t).em, .float .f64 (b18 n t).fu, .float .f64 (b18 n t).ov, .slice (some ⟨g, 0, none⟩) (b18 n t).cars.length cap] 31)) _ _ at B5
  have HB2 := Lib.hid (HB.out.trans (hb5.mono HB.out.size))
  have HO2 := Lib.hid (rowLater HOW.out hb5)
  have HP2 := Lib.hid (cell_later hb5 HP1.out)
  have HB5 := Lib.hid B5
  have hlt5 : g < w1.heap.size := hg1'
  clear B5 hb5 HB HOW HP1
  generalize w1.alloc (.cells #[.int .i64 (b18 n t).fl, .int .i64 (b18 n t).deb, .int .i64 (b18 n t).room, .int .i64 (b18 n t).park, .float .f64 (b18 n t).em, .float .f64 (b18 n t).fu, .float .f64 (b18 n t).ov, .slice (some ⟨g, 0, none⟩) (b18 n t).cars.length cap] 31) = w2 at *
  generalize w1.heap.size = g5 at *
  have hp2 := HP2.out
  have hfr := row_fr HO2.out 1
  have k7 := (HB5.out).cell 7 _ rfl
  have hnc : 1 ≤ (b18 n t).cars.length := by show 1 ≤ (cars18 n t).length; rw [cars18_len]; exact (k18_range n).1
  have hnc' : (0 : Int) < ((b18 n t).cars.length : Int) := by omega
  go_upto_region 4 with fail
  have hg51 : g5 ≠ g := by omega
  have HO3 := Lib.hid (row_upd HO2.out 1 (.int .i64 (1 + (u : Int) % 20)))
  have B3 := HB5.out.other (i := 1) hg51 (.int .i64 (1 + (u : Int) % 20))
  have HB3 := Lib.hid (HB2.out.setCell (p := ⟨g, 1, none⟩) (Nat.le_of_lt hsz01) (.int .i64 (1 + (u : Int) % 20)))
  clear hp2 hfr k7 HP2 HB5 HO2 HB2
  generalize w2.setCell ⟨g, 1, none⟩ (.int .i64 (1 + (u : Int) % 20)) = w3 at *
  obtain ⟨p, hpq⟩ : ∃ p : Int, p = 1 + (u : Int) % 20 := ⟨_, rfl⟩
  rw [← hpq] at HO3
  have hp1 : 1 ≤ p := by omega
  have hp2 : p ≤ 20 := by omega
  clear hpq
  have h3 := HO3.out
  rw [← bP_cells] at h3
  have HR3 := Lib.hid (rdC_of_owns h3 (bP_len n t p))
  rw [← bP_len n t p] at B3
  change Blk w3 g5 [.int .i64 (bP n t p).fl, .int .i64 (bP n t p).deb, .int .i64 (bP n t p).room, .int .i64 (bP n t p).park, .float .f64 (bP n t p).em, .float .f64 (bP n t p).fu, .float .f64 (bP n t p).ov, .slice (some ⟨g, 0, none⟩) (bP n t p).cars.length cap] at B3
  have HB5 := Lib.hid B3
  have hzz5 : g5 < w3.heap.size := HB5.out.lt
  have hcells : w3.cell? ⟨g, 0, none⟩ = some (.int .i64 (dlP t : Int)) ∧ w3.cell? ⟨g, 1, none⟩ = some (.int .i64 p) := by
    obtain ⟨A, hq, _, hcell⟩ := HR3.out 0 (cP n t p) (bP_car n t p)
    obtain rfl : A = ⟨g, 0, none⟩ := by simpa using hq.symm
    have h0 := hcell 0 _ rfl
    have h1 := hcell 1 _ rfl
    rw [Addr.add_lit] at h0 h1
    refine ⟨?_, h1⟩
    rw [h0]
    show some (Value.int .i64 (1 + (t : Int) % 16)) = some (Value.int .i64 ((1 + t % 16 : Nat) : Int))
    simp
  obtain ⟨hcd, hcp⟩ := hcells
  have HCD := Lib.hid hcd; have HCP := Lib.hid hcp
  have HL1 : Hid ((bP n t p).cars.length ≤ 1000) := Lib.hid (by rw [bP_len]; show (cars18 n t).length ≤ 1000; rw [cars18_len]; have := (k18_range n).2; omega)
  have HST : Hid (∀ i, stateB (bP n t p) 0 (sB t i) = true) := Lib.hid (sB_state n t p hp1 (by omega))
  have HOB : Hid (∀ i, i ≤ dlP t → observeV (bP n t p) 0 (sB t i) (-1, 0, 0) = sB t (i + 1) ∧ obsOk (bP n t p) 0 (sB t i) (-1, 0, 0) = true) := Lib.hid (sB_obs n t p hp1 (by omega))
  have HCO : Hid (∀ i ph, wiredB ph = true → coilV (bP n t p) 0 ph (sB t i) = (if i ≤ dlP t ∧ (i : Int) < p then (1#32, 0#32) else (0#32, 0#32)) ∧ wiredOn (bP n t p) 0 ph (sB t i) = true) := Lib.hid (sB_coil n t p hp1 (by omega))
  have HS0 : Hid (stateB (bP n t p) 0 newB = true) := Lib.hid (newB_stP n t p hp1 (by omega))
  clear h3 B3 HO3 hnc hnc' hcd hcp
  generalize bP n t p = b at *
  have hD : dlP t ≤ 16 := by show 1 + t % 16 ≤ 16; omega
  have hkk : ∀ W, Below w3.heap.size w3 W → (∀ v i, [.int .i64 b.fl, .int .i64 b.deb, .int .i64 b.room, .int .i64 b.park, .float .f64 b.em, .float .f64 b.fu, .float .f64 b.ov, .slice (some ⟨g, 0, none⟩) b.cars.length cap][i]? = some v → W.cell? ⟨g5, i, none⟩ = some v) ∧ RdC W (some ⟨g, 0, none⟩) b.cars := fun W hW => ⟨fun v i hv => (HB5.out.next hW).cell i v hv, HR3.out.next hW⟩
  have HKK := Lib.hid hkk
  clear hkk
  have HW := Lib.hid (Below.refl w3.heap.size w3)
  have c0 := base_cell HW.out
  have k0 := (HB5.out).cell 0 _ rfl
  have k1 := (HB5.out).cell 1 _ rfl
  have k2 := (HB5.out).cell 2 _ rfl
  have k3 := (HB5.out).cell 3 _ rfl
  have k4 := (HB5.out).cell 4 _ rfl
  have k5 := (HB5.out).cell 5 _ rfl
  have k6 := (HB5.out).cell 6 _ rfl
  have k7 := (HB5.out).cell 7 _ rfl
  go_cut [7, 8] from 29 to 34 (fun v7 v8 wx => ∃ g7 q7 cap7, v7 = .pointer (some ⟨g7, 0, none⟩) ∧ v8 = .int .i64 0 ∧ w3.heap.size ≤ g7 ∧ Blk wx g7 (oneB.cells q7 cap7) ∧ RdD wx q7 oneB.du ∧ (∀ A, q7 = some A → A.block ≠ g7) ∧ Below w3.heap.size w3 wx)
  case first =>
    go_region_with (first
      | (refine (new_any _).mono ?_
         rintro e w4 ⟨rfl, hb4⟩
         have T4 : Hid (Below w3.heap.size w3 w4) := Lib.hid (by first | exact (drewB w3).trans (hb4.mono (drewB w3).size) | exact (below_al (drewB w3) (Nat.le_refl _) _).trans (hb4.mono (below_al (drewB w3) (Nat.le_refl _) _).size))
         have c4 := base_cell hb4
         have z4 := base_frozen hb4
         have kk := (HKK.out _ T4.out).1
         have l0 := kk _ 0 rfl
         have l1 := kk _ 1 rfl
         have l2 := kk _ 2 rfl
         have l3 := kk _ 3 rfl
         have l4 := kk _ 4 rfl
         have l5 := kk _ 5 rfl
         have l6 := kk _ 6 rfl
         have l7 := kk _ 7 rfl
         clear kk
         have t5 : g5 < w4.heap.size := Nat.lt_of_lt_of_le hzz5 T4.out.size
         try (have t4 : w3.heap.size < w4.heap.size := (by have h : (w3.alloc _).heap.size ≤ w4.heap.size := hb4.size; rw [World.size_alloc] at h; exact h)))
      | (refine (injectNew_any b (some ⟨g, 0, none⟩) cap 0 _ HL1.out HS0.out ?_).mono ?_
         · first | exact (HKK.out _ T4.out).2 | exact (HKK.out _ (below_al T4.out (Nat.le_refl _) _)).2
         rintro e w6 ⟨_, rfl, hb6, q7, cap7, rfl, hrd, hlo⟩
         have T6 : Hid (Below w3.heap.size w3 w6) := Lib.hid (by first | exact T4.out.trans (hb6.mono T4.out.size) | exact (below_al T4.out (Nat.le_refl _) _).trans (hb6.mono (below_al T4.out (Nat.le_refl _) _).size))
         have c6 := base_cell hb6
         have z6 := base_frozen hb6))
    all_goals
      go_wp2_with fail
      go_meet
      refine ⟨_, q7, cap7, rfl, rfl, ?_⟩
      first
        | (show w3.heap.size ≤ w6.heap.size ∧ _; exact endA T6.out hrd)
        | (show w3.heap.size ≤ w4.heap.size ∧ _; exact endB (g7 := w4.heap.size) T6.out hrd T4.out.size ((Blk.new w4 [.int .i64 0, .int .i64 0, .int .i64 0, .slice none 0 0, .int .i64 0, .bool false] 26).next hb6) (fun A hA => by have h := hlo A hA; rw [World.size_alloc] at h; exact h))
        | (show w3.heap.size ≤ w3.heap.size ∧ _
           have hB3 : Blk (w3.alloc (.cells #[.int .i64 0, .int .i64 0, .int .i64 0, .slice none 0 0, .int .i64 0, .bool false] 26)).drew w3.heap.size [.int .i64 0, .int .i64 0, .int .i64 0, .slice none 0 0, .int .i64 0, .bool false] := Blk.new w3 [.int .i64 0, .int .i64 0, .int .i64 0, .slice none 0 0, .int .i64 0, .bool false] 26
           exact endB (g7 := w3.heap.size) T6.out hrd (Nat.le_refl _) ((hB3.next hb4).next hb6) (fun A hA => Nat.lt_of_lt_of_le t4 (hlo A hA)))
  case rest =>
    obtain ⟨g7, q7, cap7, rfl, rfl, hg7, hB7, hrd, hne7, hb⟩ := hcut
    generalize hwx : wc = w5 at *
    clear hwx HW c0 k0 k1 k2 k3 k4 k5 k6 k7
    have HS := Lib.hid hB7; have HD := Lib.hid hrd; have HW5 := Lib.hid hb
    have hz7 : g7 < w5.heap.size := HS.out.lt
    clear hB7 hrd hb
    go_wp2_with fail
    have hcar : cP n t p = cP n t p := rfl
    obtain ⟨u7, hu7⟩ : ∃ u7 : Nat, u7 = u := ⟨_, rfl⟩
    go_loopw [9] (fun v9 wr => ∃ (i : Nat) (q9 : Option Addr) (cap9 : Nat), i ≤ dlP t + 1 ∧ v9 = .int .i64 i ∧ Blk wr g7 ((sB t i).cells q9 cap9) ∧ RdD wr q9 (sB t i).du ∧ (∀ A, q9 = some A → A.block ≠ g7) ∧ Exc g7 w5 wr) (fun v _ => dlP t + 1 - (intOf v).toNat)
    case atStart => exact ⟨0, q7, cap7, by omega, rfl, HS.out, HD.out, hne7, Exc.refl _ _⟩
    case round =>
      obtain ⟨i, q9, cap9, hi, rfl, hblk, hrd, hne9, hexc⟩ := hrel
      have HWr := Lib.hid (HW5.out.trans (hexc.below hg7 HW5.out.size))
      have HE := Lib.hid hexc; have HSr := Lib.hid hblk; have HDr := Lib.hid hrd
      clear hexc hblk hrd HS HD
      have hcd := cell_later HWr.out HCD.out; have hcp := cell_later HWr.out HCP.out
      by_cases hlt : i ≤ dlP t
      · have hlt' : (i : Int) ≤ (dlP t : Int) := by omega
        obtain ⟨hob1, hob2⟩ := HOB.out i hlt
        have hph : wiredB ((u : Int) / 20 % 2) = true := by
          have h : (u : Int) / 20 % 2 = 0 ∨ (u : Int) / 20 % 2 = 1 := by omega
          rcases h with h | h <;> rw [h] <;> rfl
        obtain ⟨hco1, hco2⟩ := HCO.out i _ hph
        have hdu : (sB t i).du.length ≤ 1000 := by unfold sB; split <;> simp
        have HCALL := Lib.hid (coils_any b (some ⟨g, 0, none⟩) cap 0 ((u : Int) / 20 % 2) (sB t i) q9 cap9 wr HL1.out hdu (HKK.out _ HWr.out).2 HDr.out)
        have HOBS : Hid (∀ W, Below wr.heap.size wr W → Calls Try.prog 18 #[cvB b (some ⟨g, 0, none⟩) cap, .int .i64 0, cvS (sB t i) q9 cap9, .agg #[.int .i64 (-1), .int .i64 0, .int .i64 0]] W fun e w' => ∃ v, e = .returned v ∧ Below W.heap.size W w' ∧ belE W.heap.size (sB t (i + 1)) 0 v w') := by
          refine Lib.hid fun W hW => ?_
          have h := observe_any b (some ⟨g, 0, none⟩) cap 0 (sB t i) q9 cap9 (-1, 0, 0) W HL1.out hdu ((HKK.out _ HWr.out).2.next hW) (HDr.out.next hW)
          rw [hob1, hob2] at h
          exact h
        rw [hco1, hco2] at HCALL
        have HLATE : Hid ((sB t (i + 1)).late = decide ((i : Int) = (dlP t : Int))) := Lib.hid (by
          unfold sB
          by_cases h : i + 1 ≤ dlP t
          · rw [if_pos h, decide_eq_false (by omega)]
          · rw [if_neg h, decide_eq_true (by omega)])
        clear hob1 hob2 hco1 hco2
        generalize hsi : sB t i = S at *
        generalize hsj : sB t (i + 1) = S2 at *
        have HSI := Lib.hid hsi; have HSJ := Lib.hid hsj
        clear hsi hsj
        have kk := (HKK.out _ HWr.out).1
        have k0 := kk _ 0 rfl; have k1 := kk _ 1 rfl; have k2 := kk _ 2 rfl; have k3 := kk _ 3 rfl; have k4 := kk _ 4 rfl; have k5 := kk _ 5 rfl; have k6 := kk _ 6 rfl; have k7 := kk _ 7 rfl
        clear kk
        have j0 := (HSr.out).cell 0 _ rfl
        have j1 := (HSr.out).cell 1 _ rfl
        have j2 := (HSr.out).cell 2 _ rfl
        have j3 := (HSr.out).cell 3 _ rfl
        have j4 := (HSr.out).cell 4 _ rfl
        have j5 := (HSr.out).cell 5 _ rfl
        have HW := Lib.hid (Below.refl wr.heap.size wr)
        have hz5 : g5 < wr.heap.size := Nat.lt_of_lt_of_le hzz5 HWr.out.size
        have hz7' : g7 < wr.heap.size := HSr.out.lt
        have hzg : g < wr.heap.size := by omega
        by_cases hip : (i : Int) < p
        · rw [if_pos ⟨hlt, hip⟩] at HCALL
          go_wp2_with fail
          refine (calls_val (y := .agg #[.int .u32 1, .int .u32 0, .bool false]) HCALL.out rfl).mono ?_
          rintro e w6 ⟨rfl, hb6⟩
          have c0 := base_cell hb6
          have hfl : ∀ (x y : Int) (o : Bool) (W : World), (Instr.field 41 (.agg #[.int .u32 x, .int .u32 y, .bool o]) 0).run Try.prog W = .ok (.agg #[.int .u32 x, .int .u32 y]) W := fun x y o W => by kernel_rfl
          go_wp2_with fail
          refine (HOBS.out _ hb6).mono ?_
          rintro e w8 ⟨_, rfl, hb8, q1, cap1, rfl, hrd1, hlo1⟩
          have hlo7 : ∀ A, q1 = some A → A.block ≠ g7 := fun A hA => by have := hlo1 A hA; have := hb6.size; omega
          have HW8 := Lib.hid (hb6.trans (hb8.mono hb6.size))
          have B9 := Blk.new w8 (S2.cells q1 cap1) 26
          have hb9 := below1' w8 (.cells #[.int .i64 S2.fl, .int .i64 S2.dir, .int .i64 S2.door, .slice q1 S2.du.length cap1, .int .i64 S2.still, .bool S2.late] 26)
          change Blk (w8.alloc (.cells #[.int .i64 S2.fl, .int .i64 S2.dir, .int .i64 S2.door, .slice q1 S2.du.length cap1, .int .i64 S2.still, .bool S2.late] 26)) _ _ at B9
          have HW9 := Lib.hid (HW8.out.trans (hb9.mono HW8.out.size))
          have HB9 := Lib.hid B9
          have HD9 := Lib.hid (hrd1.next hb9)
          have HL7 := Lib.hid hlo7
          clear hb6 hb8 hb9 B9 hrd1 hlo1 hlo7 HW8 HCALL HOBS c0 k0 k1 k2 k3 k4 k5 k6 k7 j0 j1 j2 j3 j4 j5 hcd hcp
          go_upto_region 14 with fail
          generalize w8.alloc (.cells #[.int .i64 S2.fl, .int .i64 S2.dir, .int .i64 S2.door, .slice q1 S2.du.length cap1, .int .i64 S2.still, .bool S2.late] 26) = w9 at *
          generalize w8.heap.size = g9 at *
          have r5 := HB9.out.reg 5 _ rfl
          have HD1 : Hid (w9.cell? ⟨g, 0, none⟩ = some (.int .i64 (dlP t : Int))) := Lib.hid (cell_later (HWr.out.trans (HW9.out.mono HWr.out.size)) HCD.out)
          have r0 : ∀ W, Grow.Cl w9.drew W → W.cell? ⟨g, 0, none⟩ = some (.int .i64 (dlP t : Int)) := fun W hW => cell_later (Grow.Cl.base hW) HD1.out
          (refine Grow.wp_region Grow.noPlan Grow.noPlan_stable (by kernel_rfl) (by kernel_rfl) ?_; intro opsq Hopsq)
          repeat (first | (refine Grow.lex_move rfl ?_ rfl ?_; (· first | exact Grow.wanted_none | (rw [Hopsq.out]; rfl)); intro K hK; simp only [Grow.put_lit, Grow.setAt, Grow.eval_lit, Grow.ev]; refine hK _ _ ?_; clear hK K) | (refine Grow.lex_assign rfl ?_ rfl ?_; (· first | exact Grow.wanted_none | (rw [Hopsq.out]; rfl)); intro K hK; simp only [Grow.put_lit, Grow.setAt, Grow.eval_lit, Grow.ev]; refine hK _ _ ?_; clear hK K) | (refine Grow.lex_plain rfl rfl ?_ rfl ?_; (· first | exact Grow.wanted_none | (rw [Hopsq.out]; rfl)); apply Exists.intro; refine ⟨fun wq hCq _ => ?_, ?_⟩; (· (go_wp2_with fail; refine ⟨rfl, Below.refl _ _, ?_⟩; simp only [Grow.getD_lit, Grow.nth]; rfl)); intro K hK; simp only [Grow.put_lit, Grow.setAt]; refine hK _ _ ?_; clear hK K) | (refine Grow.lex_nilCheck rfl rfl ?_ rfl ?_; (· first | exact Grow.wanted_none | (rw [Hopsq.out]; rfl)); intro K hK; simp only [Grow.put_lit, Grow.setAt]; refine hK _ _ ?_; clear hK K) | (refine Grow.lex_skip ?_ ?_; (· (rw [Hopsq.out]; rfl)); intro K hK; simp only [Grow.put_lit, Grow.setAt]; refine hK _ _ ?_; clear hK K))
          (refine Grow.lex_nil ?_; intro wz hbz _; replace hbz := Grow.Cl.base hbz; clear Hopsq opsq)
          have HWz := Lib.hid (HW9.out.trans (hbz.mono HW9.out.size))
          have HBz := Lib.hid (HB9.out.next hbz)
          have HDz := Lib.hid (HD9.out.next hbz)
          have HEz := Lib.hid (HE.out.step HWz.out)
          have HSz := Lib.hid (HSr.out.next HWz.out)
          clear hbz r5 r0 HD1 HW9 HB9 HD9
          have hne : (S2.late == ((i : Int) == (dlP t : Int))) = true := by
            rw [HLATE.out]
            by_cases h : (i : Int) = (dlP t : Int) <;> simp [h]
          have x0 := (HBz.out).cell 0 _ rfl
          have x1 := (HBz.out).cell 1 _ rfl
          have x2 := (HBz.out).cell 2 _ rfl
          have x3 := (HBz.out).cell 3 _ rfl
          have x4 := (HBz.out).cell 4 _ rfl
          have x5 := (HBz.out).cell 5 _ rfl
          have y0 := (HSz.out).cell 0 _ rfl
          have y1 := (HSz.out).cell 1 _ rfl
          have y2 := (HSz.out).cell 2 _ rfl
          have y3 := (HSz.out).cell 3 _ rfl
          have y4 := (HSz.out).cell 4 _ rfl
          have y5 := (HSz.out).cell 5 _ rfl
          have f0 := HSz.out.fr 0; have f1 := HSz.out.fr 1; have f2 := HSz.out.fr 2; have f3 := HSz.out.fr 3; have f4 := HSz.out.fr 4; have f5 := HSz.out.fr 5
          go_wp2_with fail
          · rename_i hx
            rw [hne] at hx
            cases hx
          refine ⟨⟨i + 1, q1, cap1, by omega, by go_num, ?_, ?_, HL7.out, (((((HEz.out.set 0 _).set 1 _).set 2 _).set 3 _).set 4 _).set 5 _⟩, by simp [intOf]; omega⟩
          · rw [HSJ.out]
            exact (((((HSz.out.set 0 (.int .i64 S2.fl)).set 1 (.int .i64 S2.dir)).set 2 (.int .i64 S2.door)).set 3 (.slice q1 S2.du.length cap1)).set 4 (.int .i64 S2.still)).set 5 (.bool S2.late)
          · rw [HSJ.out]
            exact (((((HDz.out.set HL7.out).set HL7.out).set HL7.out).set HL7.out).set HL7.out).set HL7.out
        · rw [if_neg fun h => hip h.2] at HCALL
          go_wp2_with fail
          refine (calls_val (y := .agg #[.int .u32 0, .int .u32 0, .bool false]) HCALL.out rfl).mono ?_
          rintro e w6 ⟨rfl, hb6⟩
          have c0 := base_cell hb6
          have hfl : ∀ (x y : Int) (o : Bool) (W : World), (Instr.field 41 (.agg #[.int .u32 x, .int .u32 y, .bool o]) 0).run Try.prog W = .ok (.agg #[.int .u32 x, .int .u32 y]) W := fun x y o W => by kernel_rfl
          go_wp2_with fail
          refine (HOBS.out _ hb6).mono ?_
          rintro e w8 ⟨_, rfl, hb8, q1, cap1, rfl, hrd1, hlo1⟩
          have hlo7 : ∀ A, q1 = some A → A.block ≠ g7 := fun A hA => by have := hlo1 A hA; have := hb6.size; omega
          have HW8 := Lib.hid (hb6.trans (hb8.mono hb6.size))
          have B9 := Blk.new w8 (S2.cells q1 cap1) 26
          have hb9 := below1' w8 (.cells #[.int .i64 S2.fl, .int .i64 S2.dir, .int .i64 S2.door, .slice q1 S2.du.length cap1, .int .i64 S2.still, .bool S2.late] 26)
          change Blk (w8.alloc (.cells #[.int .i64 S2.fl, .int .i64 S2.dir, .int .i64 S2.door, .slice q1 S2.du.length cap1, .int .i64 S2.still, .bool S2.late] 26)) _ _ at B9
          have HW9 := Lib.hid (HW8.out.trans (hb9.mono HW8.out.size))
          have HB9 := Lib.hid B9
          have HD9 := Lib.hid (hrd1.next hb9)
          have HL7 := Lib.hid hlo7
          clear hb6 hb8 hb9 B9 hrd1 hlo1 hlo7 HW8 HCALL HOBS c0 k0 k1 k2 k3 k4 k5 k6 k7 j0 j1 j2 j3 j4 j5 hcd hcp
          go_upto_region 14 with fail
          generalize w8.alloc (.cells #[.int .i64 S2.fl, .int .i64 S2.dir, .int .i64 S2.door, .slice q1 S2.du.length cap1, .int .i64 S2.still, .bool S2.late] 26) = w9 at *
          generalize w8.heap.size = g9 at *
          have r5 := HB9.out.reg 5 _ rfl
          have HD1 : Hid (w9.cell? ⟨g, 0, none⟩ = some (.int .i64 (dlP t : Int))) := Lib.hid (cell_later (HWr.out.trans (HW9.out.mono HWr.out.size)) HCD.out)
          have r0 : ∀ W, Grow.Cl w9.drew W → W.cell? ⟨g, 0, none⟩ = some (.int .i64 (dlP t : Int)) := fun W hW => cell_later (Grow.Cl.base hW) HD1.out
          (refine Grow.wp_region Grow.noPlan Grow.noPlan_stable (by kernel_rfl) (by kernel_rfl) ?_; intro opsq Hopsq)
          repeat (first | (refine Grow.lex_move rfl ?_ rfl ?_; (· first | exact Grow.wanted_none | (rw [Hopsq.out]; rfl)); intro K hK; simp only [Grow.put_lit, Grow.setAt, Grow.eval_lit, Grow.ev]; refine hK _ _ ?_; clear hK K) | (refine Grow.lex_assign rfl ?_ rfl ?_; (· first | exact Grow.wanted_none | (rw [Hopsq.out]; rfl)); intro K hK; simp only [Grow.put_lit, Grow.setAt, Grow.eval_lit, Grow.ev]; refine hK _ _ ?_; clear hK K) | (refine Grow.lex_plain rfl rfl ?_ rfl ?_; (· first | exact Grow.wanted_none | (rw [Hopsq.out]; rfl)); apply Exists.intro; refine ⟨fun wq hCq _ => ?_, ?_⟩; (· (go_wp2_with fail; refine ⟨rfl, Below.refl _ _, ?_⟩; simp only [Grow.getD_lit, Grow.nth]; rfl)); intro K hK; simp only [Grow.put_lit, Grow.setAt]; refine hK _ _ ?_; clear hK K) | (refine Grow.lex_nilCheck rfl rfl ?_ rfl ?_; (· first | exact Grow.wanted_none | (rw [Hopsq.out]; rfl)); intro K hK; simp only [Grow.put_lit, Grow.setAt]; refine hK _ _ ?_; clear hK K) | (refine Grow.lex_skip ?_ ?_; (· (rw [Hopsq.out]; rfl)); intro K hK; simp only [Grow.put_lit, Grow.setAt]; refine hK _ _ ?_; clear hK K))
          (refine Grow.lex_nil ?_; intro wz hbz _; replace hbz := Grow.Cl.base hbz; clear Hopsq opsq)
          have HWz := Lib.hid (HW9.out.trans (hbz.mono HW9.out.size))
          have HBz := Lib.hid (HB9.out.next hbz)
          have HDz := Lib.hid (HD9.out.next hbz)
          have HEz := Lib.hid (HE.out.step HWz.out)
          have HSz := Lib.hid (HSr.out.next HWz.out)
          clear hbz r5 r0 HD1 HW9 HB9 HD9
          have hne : (S2.late == ((i : Int) == (dlP t : Int))) = true := by
            rw [HLATE.out]
            by_cases h : (i : Int) = (dlP t : Int) <;> simp [h]
          have x0 := (HBz.out).cell 0 _ rfl
          have x1 := (HBz.out).cell 1 _ rfl
          have x2 := (HBz.out).cell 2 _ rfl
          have x3 := (HBz.out).cell 3 _ rfl
          have x4 := (HBz.out).cell 4 _ rfl
          have x5 := (HBz.out).cell 5 _ rfl
          have y0 := (HSz.out).cell 0 _ rfl
          have y1 := (HSz.out).cell 1 _ rfl
          have y2 := (HSz.out).cell 2 _ rfl
          have y3 := (HSz.out).cell 3 _ rfl
          have y4 := (HSz.out).cell 4 _ rfl
          have y5 := (HSz.out).cell 5 _ rfl
          have f0 := HSz.out.fr 0; have f1 := HSz.out.fr 1; have f2 := HSz.out.fr 2; have f3 := HSz.out.fr 3; have f4 := HSz.out.fr 4; have f5 := HSz.out.fr 5
          go_wp2_with fail
          · rename_i hx
            rw [hne] at hx
            cases hx
          refine ⟨⟨i + 1, q1, cap1, by omega, by go_num, ?_, ?_, HL7.out, (((((HEz.out.set 0 _).set 1 _).set 2 _).set 3 _).set 4 _).set 5 _⟩, by simp [intOf]; omega⟩
          · rw [HSJ.out]
            exact (((((HSz.out.set 0 (.int .i64 S2.fl)).set 1 (.int .i64 S2.dir)).set 2 (.int .i64 S2.door)).set 3 (.slice q1 S2.du.length cap1)).set 4 (.int .i64 S2.still)).set 5 (.bool S2.late)
          · rw [HSJ.out]
            exact (((((HDz.out.set HL7.out).set HL7.out).set HL7.out).set HL7.out).set HL7.out).set HL7.out
      · obtain rfl : i = dlP t + 1 := by omega
        obtain ⟨hco1, hco2⟩ := HCO.out (dlP t + 1) 0 rfl
        rw [if_neg (by omega)] at hco1
        have hdu : (sB t (dlP t + 1)).du.length ≤ 1000 := by unfold sB; split <;> simp
        have HCALL := Lib.hid (coils_any b (some ⟨g, 0, none⟩) cap 0 0 (sB t (dlP t + 1)) q9 cap9 wr HL1.out hdu (HKK.out _ HWr.out).2 HDr.out)
        rw [hco1, hco2] at HCALL
        clear hco1 hco2
        have hi2 : ¬ ((dlP t + 1 : Nat) : Int) ≤ (dlP t : Int) := by omega
        generalize sB t (dlP t + 1) = S at *
        have kk := (HKK.out _ HWr.out).1
        have k0 := kk _ 0 rfl; have k1 := kk _ 1 rfl; have k2 := kk _ 2 rfl; have k3 := kk _ 3 rfl; have k4 := kk _ 4 rfl; have k5 := kk _ 5 rfl; have k6 := kk _ 6 rfl; have k7 := kk _ 7 rfl
        clear kk
        have j0 := (HSr.out).cell 0 _ rfl
        have j1 := (HSr.out).cell 1 _ rfl
        have j2 := (HSr.out).cell 2 _ rfl
        have j3 := (HSr.out).cell 3 _ rfl
        have j4 := (HSr.out).cell 4 _ rfl
        have j5 := (HSr.out).cell 5 _ rfl
        go_wp2_with fail
        refine (calls_val (y := .agg #[.int .u32 0, .int .u32 0, .bool false]) HCALL.out rfl).mono ?_
        rintro e w6 ⟨rfl, hb6⟩
        have HW6 := Lib.hid (HWr.out.trans (hb6.mono HWr.out.size))
        clear hb6 HCALL k0 k1 k2 k3 k4 k5 k6 k7 j0 j1 j2 j3 j4 j5
        go_wp2_with fail
        refine (sane20_any _).mono ?_
        rintro e w9 ⟨rfl, hb9⟩
        go_wp2_with fail
        go_ret
        exact ⟨rfl, HWW.out.trans ((HB3.out.trans ((HW6.out.trans (hb9.mono HW6.out.size)).mono HB3.out.size)).mono HWW.out.size)⟩
set_option maxHeartbeats 1000000 in
set_option maxRecDepth 100000 in
theorem injectPulses_lifted (os : Os) (started : os.Started) (H : Type) (enc : TypeId × Value → H) :
    ReturnsInHanded {} Try.checked os 6 .any (Rows.injectPulsesSpec.pre6 enc Try.prog Try.f6 Rows.injectPulsesRow.domain false) (Rows.injectPulsesSpec.post enc Try.prog Try.f6 false true false false) := by
  refine law_lifted (C := Try.checked) own laidOut started (by kernel_rfl) Try.func6 4 rfl Try.underlying4 (by kernel_rfl) rfl H enc
    (fun ds h => by match ds, h with | [d0, d1], _ => rfl)
    (ChangeSpec.witness6 (enc := enc) (C := Try.checked) false ⟨#[], #[.agg #[.int .u8 0, .int .u8 0], .int .u8 0], []⟩ 8 (by kernel_rfl) (by kernel_rfl) (by kernel_rfl) (by kernel_rfl)) ?_
  intro W base args ds ps hval hA hsz
  have hA' : DataW.TrodAll enc Try.prog W 0 (fun _ => true) true Try.f6.params.toList args.toList ds ps := hA
  have hval' : ∀ (j : Nat) t v, Try.f6.params[j]? = some t → args[j]? = some v → Value.okWide Try.prog W .any base t v := hval
  rw [Try.params6] at hA' hval'
  obtain ⟨v0, vs0, d0, ds0, p0, q0, hargs, rfl, rfl, h0, r0⟩ := trodAll_cons hA'
  obtain ⟨v1, vs1, d1, ds1, p1, q1, rfl, rfl, rfl, h1, r1⟩ := trodAll_cons r0
  obtain ⟨rfl, rfl, rfl⟩ := trodAll_nil r1
  obtain rfl : args = #[v0, v1] := by cases args; simp_all
  obtain ⟨n0, t0, rfl, hn0, ht0⟩ := open_u8x2 (hval' 0 22 v0 rfl rfl) h0
  obtain ⟨x1, rfl, rfl, rfl, wx1⟩ := open_int Try.underlying5 (hval' 1 5 v1 rfl rfl) h1
  (obtain ⟨x, rfl, hx⟩ := u8_wf wx1; exact pulses_walk n0 t0 x W hn0 ht0 hx)

theorem injectPulses_over : Rows.injectPulsesRow.holds Try.pinned (OpenSpec.ofChange Rows.injectPulsesSpec) :=
  OpenClaim.holds_of_wide 6 Try.f6 rfl rfl rfl rfl rfl rfl rfl ⟨rfl, rfl, rfl, rfl, rfl⟩ rfl rfl rfl rfl rfl (by kernel_rfl) Try.func6 (by kernel_rfl)
    (of_decide_eq_true (by kernel_rfl)) (by unfold Func.isWrapper; first | (rw [if_pos (by decide +kernel)]; kernel_rfl) | (rw [if_neg (by decide +kernel)]; exact ⟨rfl, rfl⟩))
    (fun os started H enc _ => injectPulses_lifted os started H enc)

/-- THE STATEMENT. -/
theorem injectPulses_holds : Rows.InjectPulsesSaid := injectPulses_over
#print axioms injectPulses_holds
end Go.Proofs.Ytbhhjlemdpefkaa
