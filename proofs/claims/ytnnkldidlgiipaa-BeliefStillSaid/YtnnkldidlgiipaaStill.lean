/- BeliefStill: when a car is quiet. The law's function answers true at every argument. Conditions: none. -/
import Derived.Test.YtnnkldidlgiipaaPlaces
import Derived.Test.YtnnkldidlgiipaaInjEq
namespace Go.Proofs.Ytnnkldidlgiipaa
open Go.ChangeShapes Go.WideShapes Go.ChangeAt Go.RowKit
attribute [local go_sem] run_store_float
theorem cars18_z (n t : Nat) : (b18 n t).cars[0]? = some (c18 t (fl18 n) 0) := by
  show ((List.range (k18 n)).map (c18 t (fl18 n)))[0]? = _
  rw [List.getElem?_map, List.getElem?_range (by have := (k18_range n).1; omega)]
  rfl
def cQ (n t : Nat) (p : Int) : CarV := { c18 t (fl18 n) 0 with qu := p }
def bQ (n t : Nat) (p : Int) : BldV := { b18 n t with cars := (b18 n t).cars.set 0 (cQ n t p) }
theorem bQ_cells (n t : Nat) (p : Int) : carCells (bQ n t p).cars = (carCells (b18 n t).cars).set 2 (.int .i64 p) :=
  carCells_set (b18 n t).cars 0 2 _ _ _ (by omega) (cars18_z n t) rfl
theorem bQ_len (n t : Nat) (p : Int) : (bQ n t p).cars.length = (b18 n t).cars.length := by simp [bQ]
theorem bQ_car (n t : Nat) (p : Int) : (bQ n t p).cars[0]? = some (cQ n t p) := by
  have : 0 < (b18 n t).cars.length := (List.getElem?_eq_some_iff.1 (cars18_z n t)).1
  simp [bQ, this]
theorem timesQ (n t : Nat) (p : Int) (h1 : 1 ≤ p) (h2 : p ≤ 10000) : timesB (cQ n t p) (fl18 n) = true := by
  have h := times18 t (fl18 n) 0 (fl18_range n).1
  unfold timesB inAll at h ⊢
  simp only [List.all_cons, List.all_nil, Bool.and_eq_true, Bool.and_true] at h ⊢
  obtain ⟨⟨⟨⟨a0, a1, a2, a3⟩, b1⟩, b2⟩, b3⟩ := h
  exact ⟨⟨⟨⟨a0, a1, (inR_iff _ _ _).2 ⟨h1, h2⟩, a3⟩, b1⟩, b2⟩, b3⟩
theorem validQ (n t : Nat) (p : Int) (h1 : 1 ≤ p) (h2 : p ≤ 10000) : validN (bQ n t p) = 0 := by
  have hv := valid18 n t
  have hg : goodB (bQ n t p) (bQ n t p).cars.length = true := by
    unfold goodB
    rw [List.take_length]
    have a1 : inAll 1 16 [(bQ n t p).deb] = true := by rw [inAll_one]; show (1 : Int) ≤ 1 ∧ (1 : Int) ≤ 16; omega
    have a2 : inAll 1 10000 [(bQ n t p).park] = true := by rw [inAll_one]; show 1 ≤ 1 + (t : Int) % 7 ∧ 1 + (t : Int) % 7 ≤ 10000; omega
    rw [a1, a2]
    show (true && true && ((b18 n t).cars.set 0 (cQ n t p)).all (timesB · (fl18 n))) = true
    rw [Bool.true_and, Bool.true_and, List.all_eq_true]
    intro c hc
    rcases List.mem_or_eq_of_mem_set hc with h | rfl
    · obtain ⟨i, _, rfl⟩ := List.mem_map.1 h
      exact times18 t _ i (fl18_range n).1
    · exact timesQ n t p h1 h2
  have hg0 : goodB (b18 n t) (b18 n t).cars.length = true := by
    unfold goodB
    rw [List.take_length]
    have a1 : inAll 1 16 [(b18 n t).deb] = true := by rw [inAll_one]; show (1 : Int) ≤ 1 ∧ (1 : Int) ≤ 16; omega
    have a2 : inAll 1 10000 [(b18 n t).park] = true := by rw [inAll_one]; show 1 ≤ 1 + (t : Int) % 7 ∧ 1 + (t : Int) % 7 ≤ 10000; omega
    rw [a1, a2]
    show (true && true && (cars18 n t).all (timesB · (fl18 n))) = true
    rw [Bool.true_and, Bool.true_and, List.all_eq_true]
    intro c hc
    obtain ⟨i, _, rfl⟩ := List.mem_map.1 hc
    exact times18 t _ i (fl18_range n).1
  unfold validN at hv ⊢
  rw [hg0] at hv
  rw [hg, bQ_len]
  exact hv
theorem slackQ (n t : Nat) (p : Int) : ∀ c ∈ (bQ n t p).cars, -9223372036854775808 ≤ c.sl ∧ c.sl < 9223372036854775807 := by
  intro c hc
  rcases List.mem_or_eq_of_mem_set hc with h | rfl
  · exact slack18 n t c h
  · show (-9223372036854775808 : Int) ≤ 5 ∧ (5 : Int) < 9223372036854775807
    omega
theorem quQ (n t : Nat) (p : Int) : quOf (bQ n t p) 0 = p := by
  unfold quOf
  show (((bQ n t p).cars[0]?).map CarV.qu).getD 0 = _
  rw [bQ_car]; rfl
/-- The observation that the law takes. -/
def obsS (k : Nat) (o : ObsV) : ObsV := if (k : Int) % 20 < 12 then (max 0 o.1, 0, 2) else o
theorem obsS_ok (fl : Int) (k : Nat) (o : ObsV) (h : obsB fl o = true) : obsB fl (obsS k o) = true := by
  obtain ⟨⟨h1, h2⟩, h3, h4, h5⟩ := (obsB_iff fl o).1 h
  unfold obsS
  split
  · exact (obsB_iff _ _).2 ⟨⟨h1, h2⟩, ⟨by show -1 ≤ max 0 o.1; omega, by show max 0 o.1 ≤ fl - 1; omega⟩, by show (0 : Int) ≤ 0 ∧ (0 : Int) ≤ 3; omega, by show (0 : Int) ≤ 2 ∧ (2 : Int) ≤ 3; omega⟩
  · exact h
theorem still_quiet (b : BldV) (V : BelV) (o : ObsV) (hq : 1 ≤ quOf b 0) (hok : obsOk b 0 V o = true) : quietB b 0 (observeV b 0 V o) = (decide (quOf b 0 ≤ stillV V o) && decide ((observeV b 0 V o).du.length = 0)) := by
  have hs := observe_state b 0 V o hok
  have hd : (observeV b 0 V o).door = o.2.2 := by unfold observeV; rw [if_pos hok]
  have ht : (observeV b 0 V o).still = stillV V o := by unfold observeV; rw [if_pos hok]
  unfold quietB
  rw [hs, hd, ht]
  by_cases h : quOf b 0 ≤ stillV V o
  · have h2 : o.2.2 = 2 := by
      unfold stillV at h
      split at h
      · rename_i h'; exact h'.2.1
      · omega
    rw [decide_eq_true h, decide_eq_true h2]
    cases decide ((observeV b 0 V o).du.length = 0) <;> rfl
  · rw [decide_eq_false h]; simp
theorem observe_parts (b : BldV) (V : BelV) (o : ObsV) (hok : obsOk b 0 V o = true) : (observeV b 0 V o).still = stillV V o := by unfold observeV; rw [if_pos hok]
set_option maxHeartbeats 8000000 in
set_option maxRecDepth 100000 in
theorem still_walk (n t : Nat) (l : List Nat) (ql : Option Addr) (capl : Nat) (w : World) (hn : n < 256) (ht : t < 256) (hl : l.length ≤ maxLen) (hu : RdU w ql l) :
    Calls Try.prog 3 #[.agg #[.int .u8 n, .int .u8 t], .slice ql l.length capl] w fun e w' => e = .returned (.bool true) ∧ Below w.heap.size w w' := by
  have X0 : Blk (w.alloc (.cells #[.int .u8 n, .int .u8 t] 22)) w.heap.size [.int .u8 n, .int .u8 t] := by
    have hx := Blk.new w [.int .u8 n, .int .u8 t] 22
    exact hx
  have XW : Below w.heap.size w (w.alloc (.cells #[.int .u8 n, .int .u8 t] 22)) := below1' w _
  have HWW := Lib.hid XW; have HX0 := Lib.hid X0
  clear XW X0
  have HU := Lib.hid (hu.next HWW.out)
  have HL2 := Lib.hid hl
  clear hu
  obtain ⟨nl, hnl⟩ : ∃ n, n = l.length := ⟨_, rfl⟩
  have HNL := Lib.hid hnl
  rw [← hnl] at hl ⊢
  clear hnl
  go_enter Try.func3, Try.ntmps3
  go_upto_region 1 with fail
  generalize (w.alloc (.cells #[.int .u8 n, .int .u8 t] 22)) = w0 at *
  have HW := Lib.hid (Below.refl w0.heap.size w0)
  have hz0 := HX0.out.lt
  have k0 := (HX0.out).cell 0 _ rfl
  have k1 := (HX0.out).cell 1 _ rfl
  go_wp2_with fail
  refine (b18_val2 n t _ hn ht).mono ?_
  rintro e w1 ⟨g, cap, rfl, hg0, hg1, hown, hr, hb⟩
  have HB := Lib.hid (HW.out.trans (hb.mono HW.out.size))
  have HOW := Lib.hid hown
  have hsz01 : w0.heap.size < g := Nat.lt_of_le_of_lt HW.out.size hg0
  have hp1 : w1.cell? ⟨g, 2, none⟩ = some (.int .i64 6) := by
    obtain ⟨A, hq, _, hcell⟩ := hr 0 (c18 t (fl18 n) 0) (cars18_z n t)
    obtain rfl : A = ⟨g, 0, none⟩ := by simpa using hq.symm
    have := hcell 2 _ rfl
    rwa [Addr.add_lit] at this
  have HP1 := Lib.hid hp1
  clear hb hr hown HW k0 k1 hp1
  go_upto_region 2 with fail
  have B5 := Blk.new w1 [.int .i64 (b18 n t).fl, .int .i64 (b18 n t).deb, .int .i64 (b18 n t).room, .int .i64 (b18 n t).park, .float .f64 (b18 n t).em, .float .f64 (b18 n t).fu, .float .f64 (b18 n t).ov, .slice (some ⟨g, 0, none⟩) (b18 n t).cars.length cap] 27
  have hb5 := below1' w1 (.cells #[.int .i64 (b18 n t).fl, .int .i64 (b18 n t).deb, .int .i64 (b18 n t).room, .int .i64 (b18 n t).park, .float .f64 (b18 n t).em, .float .f64 (b18 n t).fu, .float .f64 (b18 n t).ov, .slice (some ⟨g, 0, none⟩) (b18 n t).cars.length cap] 27)
  change Blk (w1.alloc (.cells #[.int .i64 (b18 n t).fl, .int .i64 (b18 n t).deb, .int .i64 (b18 n t).room, .int .i64 (b18 n t).park, .float .f64 (b18 n t).em, .float .f64 (b18 n t).fu, .float .f64 (b18 n t).ov, .slice (some ⟨g, 0, none⟩) (b18 n t).cars.length cap] 27)) _ _ at B5
  have HB2 := Lib.hid (HB.out.trans (hb5.mono HB.out.size))
  have HO2 := Lib.hid (rowLater HOW.out hb5)
  have HP2 := Lib.hid (cell_later hb5 HP1.out)
  have HB5 := Lib.hid B5
  have hlt5 : g < w1.heap.size := hg1
  clear B5 hb5 HB HOW HP1
  generalize w1.alloc (.cells #[.int .i64 (b18 n t).fl, .int .i64 (b18 n t).deb, .int .i64 (b18 n t).room, .int .i64 (b18 n t).park, .float .f64 (b18 n t).em, .float .f64 (b18 n t).fu, .float .f64 (b18 n t).ov, .slice (some ⟨g, 0, none⟩) (b18 n t).cars.length cap] 27) = wq at *
  generalize w1.heap.size = g5 at *
  have hp2 := HP2.out
  have hfr := row_fr HO2.out 2
  have k7 := (HB5.out).cell 7 _ rfl
  have hnc : 1 ≤ (b18 n t).cars.length := by show 1 ≤ (cars18 n t).length; rw [cars18_len]; exact (k18_range n).1
  have hnc' : (0 : Int) < ((b18 n t).cars.length : Int) := by omega
  have hx1 := cell_later HB2.out (HX0.out.cell 1 _ rfl)
  go_upto_region 3 with fail
  have hg51 : g5 ≠ g := by omega
  have HO3 := Lib.hid (row_upd HO2.out 2 (.int .i64 (1 + (t : Int) % 5)))
  have B3 := HB5.out.other (i := 2) hg51 (.int .i64 (1 + (t : Int) % 5))
  have HB3 := Lib.hid (HB2.out.setCell (p := ⟨g, 2, none⟩) (Nat.le_of_lt hsz01) (.int .i64 (1 + (t : Int) % 5)))
  clear hp2 hfr k7 HP2 HB5 HO2 HB2 hx1
  generalize wq.setCell ⟨g, 2, none⟩ (.int .i64 (1 + (t : Int) % 5)) = w2 at *
  obtain ⟨p, hpq⟩ : ∃ p : Int, p = 1 + (t : Int) % 5 := ⟨_, rfl⟩
  rw [← hpq] at HO3
  have hp1 : 1 ≤ p := by omega
  have hp2 : p ≤ 5 := by omega
  clear hpq
  have h3 := HO3.out
  rw [← bQ_cells] at h3
  have HR3 := Lib.hid (rdC_of_owns h3 (bQ_len n t p))
  rw [← bQ_len n t p] at B3
  change Blk w2 g5 [.int .i64 (bQ n t p).fl, .int .i64 (bQ n t p).deb, .int .i64 (bQ n t p).room, .int .i64 (bQ n t p).park, .float .f64 (bQ n t p).em, .float .f64 (bQ n t p).fu, .float .f64 (bQ n t p).ov, .slice (some ⟨g, 0, none⟩) (bQ n t p).cars.length cap] at B3
  have HB5 := Lib.hid B3
  have hzz5 : g5 < w2.heap.size := HB5.out.lt
  have hcq : w2.cell? ⟨g, 2, none⟩ = some (.int .i64 p) := by
    obtain ⟨A, hq, _, hcell⟩ := HR3.out 0 (cQ n t p) (bQ_car n t p)
    obtain rfl : A = ⟨g, 0, none⟩ := by simpa using hq.symm
    have := hcell 2 _ rfl
    rwa [Addr.add_lit] at this
  have HCQ2 := Lib.hid hcq
  have HL1 : Hid ((bQ n t p).cars.length ≤ 1000) := Lib.hid (by rw [bQ_len]; show (cars18 n t).length ≤ 1000; rw [cars18_len]; have := (k18_range n).2; omega)
  have HV := Lib.hid (validQ n t p hp1 (by omega))
  have HSL : Hid (∀ c ∈ (bQ n t p).cars, -9223372036854775808 ≤ c.sl ∧ c.sl < 9223372036854775807) := Lib.hid (slackQ n t p)
  have HQU := Lib.hid (quQ n t p)
  have hfl : 2 ≤ (bQ n t p).fl ∧ (bQ n t p).fl ≤ 6 := fl18_range n
  have hcl : 1 ≤ (bQ n t p).cars.length := by rw [bQ_len]; exact hnc
  obtain ⟨hf2, hf6⟩ := hfl
  have hcl' : (0 : Int) < ((bQ n t p).cars.length : Int) := by omega
  clear h3 B3 HO3 hnc hnc' hcq
  generalize bQ n t p = b at *
  have ht := trace_any b (some ⟨g, 0, none⟩) cap l ql capl w2 HL2.out hf2 (by omega) (HU.out.next HB3.out)
  rw [← HNL.out] at ht
  have HTR := Lib.hid ht
  clear ht
  have k0 := (HB5.out).cell 0 _ rfl
  have k1 := (HB5.out).cell 1 _ rfl
  have k2 := (HB5.out).cell 2 _ rfl
  have k3 := (HB5.out).cell 3 _ rfl
  have k4 := (HB5.out).cell 4 _ rfl
  have k5 := (HB5.out).cell 5 _ rfl
  have k6 := (HB5.out).cell 6 _ rfl
  have k7 := (HB5.out).cell 7 _ rfl
  go_wp2_with fail
  refine HTR.out.mono ?_
  rintro e w3 ⟨v, L, rfl, hL150, hobs, hown, hb3⟩
  obtain ⟨qm, capm, rfl⟩ := row_form hown
  have HM := Lib.hid (rdM_of_owns hown rfl)
  have HB4 := Lib.hid (HB3.out.trans (hb3.mono HB3.out.size))
  have HB53 := Lib.hid (HB5.out.next hb3)
  have HR4 := Lib.hid (HR3.out.next hb3)
  have HNB := Lib.hid (newB_ok b HV.out hf2 hcl)
  have HCQ3 := Lib.hid (cell_later hb3 HCQ2.out)
  have HOBS := Lib.hid hobs
  have hz53 : g5 < w3.heap.size := HB53.out.lt
  clear hobs hown hb3 HTR HB5 HR3 HB3 k0 k1 k2 k3 k4 k5 k6 k7 HU
  obtain ⟨N, hN⟩ : ∃ N, N = L.length := ⟨_, rfl⟩
  have HN := Lib.hid hN
  rw [← hN] at hL150 ⊢
  clear hN
  go_wp2_with fail
  refine (new_any _).mono ?_
  rintro e w4 ⟨rfl, hb4⟩
  have HB5b := Lib.hid (HB4.out.trans (hb4.mono HB4.out.size))
  have HB54 := Lib.hid (HB53.out.next hb4)
  have HR5 := Lib.hid (HR4.out.next hb4)
  have HM4 := Lib.hid (HM.out.next hb4)
  have HCQ4 := Lib.hid (cell_later hb4 HCQ3.out)
  clear hb4 HM HB4 HB53 HR4
  go_upto_region 5 with fail
  have B7 := Blk.new w4 (newB.cells none 0) 35
  have hb7 := below1' w4 (.cells #[.int .i64 newB.fl, .int .i64 newB.dir, .int .i64 newB.door, .slice none newB.du.length 0, .int .i64 newB.still, .bool newB.late] 35)
  change Blk (w4.alloc (.cells #[.int .i64 newB.fl, .int .i64 newB.dir, .int .i64 newB.door, .slice none newB.du.length 0, .int .i64 newB.still, .bool newB.late] 35)) _ _ at B7
  have HS := Lib.hid B7
  have HW5 := Lib.hid hb7
  have hg7 : w4.heap.size ≤ w4.heap.size := Nat.le_refl _
  have hz54 : g5 < w4.heap.size := HB54.out.lt
  clear B7 hb7
  generalize hw5 : w4.alloc (.cells #[.int .i64 newB.fl, .int .i64 newB.dir, .int .i64 newB.door, .slice none newB.du.length 0, .int .i64 newB.still, .bool newB.late] 35) = w5 at *
  clear hw5
  clear hg7
  generalize hgg : w4.heap.size = g7 at HS ⊢
  have hg7' : w4.heap.size ≤ g7 := by omega
  have HGG := Lib.hid hgg
  clear hgg
  go_wp2_with fail
  go_loopw [8, 9] (fun v8 v9 wr => ∃ (k : Nat) (V : BelV) (q9 : Option Addr) (cap9 : Nat), k ≤ N ∧ v9 = .int .i64 k ∧ v8 = .int .i64 V.still ∧ stateB b 0 V = true ∧ V.still ≤ (k : Int) ∧ V.du.length ≤ 64 ∧ Blk wr g7 (V.cells q9 cap9) ∧ RdD wr q9 V.du ∧ Exc g7 w5 wr) (fun _ v _ => N - (intOf v).toNat)
  case atStart => exact ⟨0, newB, none, 0, by omega, rfl, rfl, HNB.out, Int.le_refl _, by decide, HS.out, (fun i d h => by simp [newB] at h), Exc.refl _ _⟩
  case round =>
    obtain ⟨k, V, q9, cap9, hk, rfl, rfl, hst, hsk, h64, hblk, hrd, hexc⟩ := hrel
    have HWr := Lib.hid (HW5.out.trans (hexc.below hg7' HW5.out.size))
    have HE := Lib.hid hexc; have HSr := Lib.hid hblk; have HDr := Lib.hid hrd; have HST := Lib.hid hst
    clear hexc hblk hrd HS hst
    have BB := HB54.out.next HWr.out
    by_cases hlt : k < N
    · have hd : decide ((k : Int) < (N : Int)) = true := by simp; omega
      obtain ⟨m, hm⟩ : ∃ m, L[k]? = some m := ⟨_, List.getElem?_eq_getElem (by rw [← HN.out]; exact hlt)⟩
      have hom := HOBS.out m (List.mem_of_getElem? hm)
      have HOO := Lib.hid (obsS_ok b.fl k m.2 hom)
      obtain ⟨A, hqA, hA, d2, d3, d4⟩ := (HM4.out.next HWr.out).at hm
      have HMM := Lib.hid hm
      subst hqA
      have hiw : (0 : Int) ≤ (k : Int) := by omega
      have hiw' : (k : Int) < (N : Int) := by omega
      have BO := Blk.new wr [.int .i64 m.2.1, .int .i64 m.2.2.1, .int .i64 m.2.2.2] 41
      have hbo := below1' wr (.cells #[.int .i64 m.2.1, .int .i64 m.2.2.1, .int .i64 m.2.2.2] 41)
      change Blk (wr.alloc (.cells #[.int .i64 m.2.1, .int .i64 m.2.2.1, .int .i64 m.2.2.2] 41)) _ _ at BO
      have HO6 := Lib.hid BO; have HW6 := Lib.hid hbo
      clear BO hbo hom hm
      go_upto_region 10 with fail
      clear d2 d3 d4 hA BB
      generalize wr.alloc (.cells #[.int .i64 m.2.1, .int .i64 m.2.2.1, .int .i64 m.2.2.2] 41) = w6 at *
      have hgO : wr.heap.size ≤ wr.heap.size := Nat.le_refl _
      generalize hgo : wr.heap.size = gO at HO6 hgO ⊢
      have hgo1 : wr.heap.size ≤ gO := by omega
      have HGO := Lib.hid hgo
      clear hgo hgO
      go_upto_if 46 with fail
      go_cut [] from 44 to 50 (fun wx => Blk wx gO [.int .i64 (obsS k m.2).1, .int .i64 (obsS k m.2).2.1, .int .i64 (obsS k m.2).2.2] ∧ Exc gO w6 wx)
      case first =>
        have o0 := (HO6.out).cell 0 _ rfl
        have o1 := (HO6.out).cell 1 _ rfl
        have o2 := (HO6.out).cell 2 _ rfl
        by_cases hm : (k : Int) % 20 < 12
        · have HOS : Hid (obsS k m.2 = (max 0 m.2.1, 0, 2)) := Lib.hid (by unfold obsS; rw [if_pos hm])
          have f0 := HO6.out.fr 0; have f1 := HO6.out.fr 1; have f2 := HO6.out.fr 2
          go_wp2_with fail
          all_goals
            go_meet
            rw [HOS.out]
            first
              | exact ⟨((HO6.out.set 0 _).set 1 _).set 2 _, (((Exc.refl _ _).set 0 _).set 1 _).set 2 _⟩
              | (rw [show max 0 m.2.1 = m.2.1 by omega]; exact ⟨((HO6.out.set 0 _).set 1 _).set 2 _, (((Exc.refl _ _).set 0 _).set 1 _).set 2 _⟩)
              | (rw [show max 0 m.2.1 = 0 by omega]; exact ⟨((HO6.out.set 0 _).set 1 _).set 2 _, (((Exc.refl _ _).set 0 _).set 1 _).set 2 _⟩)
        · have HOS : Hid (obsS k m.2 = m.2) := Lib.hid (by unfold obsS; rw [if_neg hm])
          go_wp2_with fail
          go_meet
          rw [HOS.out]
          exact ⟨HO6.out, Exc.refl _ _⟩
      case rest =>
        obtain ⟨hbo7, hex7⟩ := hcut
        generalize hwx : wc = w7 at *
        clear hwx
        have HW7 := Lib.hid (HW6.out.trans (hex7.below hgo1 HW6.out.size))
        have HO7 := Lib.hid hbo7
        clear hbo7 hex7 HO6 HW6
        generalize obsS k m.2 = o at *
        have hok : obsOk b 0 V o = true := by unfold obsOk; rw [HST.out, HOO.out]; rfl
        have hst2 := observe_state b 0 V o hok
        have hsti := observe_parts b V o hok
        have hle := Nat.le_trans (obs_len b 0 V o) h64
        have hqq := still_quiet b V o (by rw [HQU.out]; exact hp1) hok
        have HOC := Lib.hid (observe_any b (some ⟨g, 0, none⟩) cap 0 V q9 cap9 o w7 HL1.out (by omega) (HR5.out.next (HWr.out.trans (HW7.out.mono HWr.out.size))) (HDr.out.next HW7.out))
        rw [hok] at HOC
        rw [HQU.out] at hqq
        generalize observeV b 0 V o = V2 at *
        obtain ⟨F, dr, dor, D, st, lt⟩ := V2
        simp only at hsti hqq hle
        have HST2 := Lib.hid hst2; have HSI := Lib.hid hsti; have HQQ := Lib.hid hqq; have HLE := Lib.hid hle
        clear hok hst2 hsti hqq hle
        have HWs : Hid (Below w4.heap.size w4 w7) := Lib.hid (HWr.out.trans (HW7.out.mono HWr.out.size))
        have BB7 := HB54.out.next HWs.out
        have k0 := (BB7).cell 0 _ rfl
        have k1 := (BB7).cell 1 _ rfl
        have k2 := (BB7).cell 2 _ rfl
        have k3 := (BB7).cell 3 _ rfl
        have k4 := (BB7).cell 4 _ rfl
        have k5 := (BB7).cell 5 _ rfl
        have k6 := (BB7).cell 6 _ rfl
        have k7 := (BB7).cell 7 _ rfl
        have SR7 := HSr.out.next HW7.out
        have j0 := (SR7).cell 0 _ rfl
        have j1 := (SR7).cell 1 _ rfl
        have j2 := (SR7).cell 2 _ rfl
        have j3 := (SR7).cell 3 _ rfl
        have j4 := (SR7).cell 4 _ rfl
        have j5 := (SR7).cell 5 _ rfl
        have o0 := (HO7.out).cell 0 _ rfl
        have o1 := (HO7.out).cell 1 _ rfl
        have o2 := (HO7.out).cell 2 _ rfl
        go_wp2_with fail
        refine HOC.out.mono ?_
        rintro e w8 ⟨_, rfl, hb8, q1, cap1, rfl, hrd1, hlo1⟩
        have B9 := Blk.new w8 [.int .i64 F, .int .i64 dr, .int .i64 dor, .slice q1 D.length cap1, .int .i64 st, .bool lt] 35
        have hb9 := below1' w8 (.cells #[.int .i64 F, .int .i64 dr, .int .i64 dor, .slice q1 D.length cap1, .int .i64 st, .bool lt] 35)
        change Blk (w8.alloc (.cells #[.int .i64 F, .int .i64 dr, .int .i64 dor, .slice q1 D.length cap1, .int .i64 st, .bool lt] 35)) _ _ at B9
        have hlo7 : ∀ A, q1 = some A → A.block ≠ g7 := fun A hA => by have := hlo1 A hA; have h1 := HW7.out.size; have h2 := HSr.out.lt; omega
        have HL7 := Lib.hid hlo7
        have HW9 := Lib.hid (HW7.out.trans ((hb8.trans (hb9.mono hb8.size)).mono HW7.out.size))
        have HO9 := Lib.hid ((HO7.out.next hb8).next hb9)
        have H11 := Lib.hid B9
        have HD11 : Hid (RdD (w8.alloc (.cells #[.int .i64 F, .int .i64 dr, .int .i64 dor, .slice q1 D.length cap1, .int .i64 st, .bool lt] 35)) q1 D) := Lib.hid (hrd1.next hb9)
        clear hb8 hb9 B9 hrd1 hlo1 hlo7 HOC k0 k1 k2 k3 k4 k5 k6 k7 j0 j1 j2 j3 j4 j5 o0 o1 o2 BB7 SR7 HO7 HW7 HWs
        go_upto_region 13 with fail
        generalize w8.alloc (.cells #[.int .i64 F, .int .i64 dr, .int .i64 dor, .slice q1 D.length cap1, .int .i64 st, .bool lt] 35) = w9 at *
        generalize w8.heap.size = g11 at *
        have hsk0 : 0 ≤ V.still := ((headB_iff b 0 V).1 ((stateB_iff b 0 V).1 HST.out).1).2.2.2.2.2.1.1
        have hk150 : (k : Int) ≤ 150 := by omega
        have o0 := (HO9.out).cell 0 _ rfl
        have o1 := (HO9.out).cell 1 _ rfl
        have o2 := (HO9.out).cell 2 _ rfl
        have HSV : Hid (st = if 0 ≤ o.1 ∧ o.2.2 = 2 ∧ o.2.1 = 0 then min (V.still + 1) 1000000 else 0) := Lib.hid HSI.out
        go_upto_region 14 with fail
        go_cut [72] from 60 to 72 (fun v wx => v = .bool (!decide (0 ≤ o.1 ∧ o.2.2 = 2 ∧ o.2.1 = 0)) ∧ wx = w9)
        case first =>
          by_cases h1 : 0 ≤ o.1
          · have h1' : (o.1 < 0) = False := eq_false (by omega)
            by_cases h2 : o.2.2 = 2
            · have q2 : (o.2.2 != 2) = false := by simpa using h2
              by_cases h3 : o.2.1 = 0
              · have q3 : (o.2.1 != 0) = false := by simpa using h3
                have HE : Hid (decide (0 ≤ o.1 ∧ o.2.2 = 2 ∧ o.2.1 = 0) = true) := Lib.hid (decide_eq_true ⟨h1, h2, h3⟩)
                clear h2 h3 h1
                go_wp2_with fail
                go_meet
                exact ⟨by rw [HE.out]; rfl, rfl⟩
              · have q3 : (o.2.1 != 0) = true := by simpa using h3
                have HE : Hid (decide (0 ≤ o.1 ∧ o.2.2 = 2 ∧ o.2.1 = 0) = false) := Lib.hid (decide_eq_false fun h => h3 h.2.2)
                clear h2 h3 h1
                go_wp2_with fail
                go_meet
                exact ⟨by rw [HE.out]; rfl, rfl⟩
            · have q2 : (o.2.2 != 2) = true := by simpa using h2
              have HE : Hid (decide (0 ≤ o.1 ∧ o.2.2 = 2 ∧ o.2.1 = 0) = false) := Lib.hid (decide_eq_false fun h => h2 h.2.1)
              clear h2 h1
              go_wp2_with fail
              go_meet
              exact ⟨by rw [HE.out]; rfl, rfl⟩
          · have HE : Hid (decide (0 ≤ o.1 ∧ o.2.2 = 2 ∧ o.2.1 = 0) = false) := Lib.hid (decide_eq_false fun h => h1 h.1)
            have h1' : (o.1 < 0) = True := eq_true (by omega)
            clear h1
            go_wp2_with fail
            go_meet
            exact ⟨by rw [HE.out]; rfl, rfl⟩
        case rest =>
        obtain ⟨rfl, hwq⟩ := hcut
        subst hwq
        generalize htb : decide (0 ≤ o.1 ∧ o.2.2 = 2 ∧ o.2.1 = 0) = tb at *
        have HTB := Lib.hid htb
        clear htb
        go_upto_if 72 with fail
        go_cut [8] from 73 to 73 (fun v8 wx => v8 = .int .i64 st ∧ wx = wc)
        case first =>
          cases tb
          · have HE : Hid (st = 0) := Lib.hid (by rw [HSV.out, if_neg (of_decide_eq_false HTB.out)])
            go_wp2_with fail
            go_meet
            exact ⟨by rw [HE.out], rfl⟩
          · have HE : Hid (st = V.still + 1) := Lib.hid (by rw [HSV.out, if_pos (of_decide_eq_true HTB.out)]; omega)
            go_wp2_with fail
            go_meet
            exact ⟨by rw [HE.out], rfl⟩
        case rest =>
        obtain ⟨rfl, hwq⟩ := hcut
        subst hwq
        have HWc : Hid (Below w4.heap.size w4 wc) := Lib.hid (HWr.out.trans (HW9.out.mono HWr.out.size))
        have HCc := Lib.hid (cell_later HWc.out HCQ4.out)
        have HDL : Hid (D.length ≤ 1000) := Lib.hid (by have := HLE.out; omega)
        have hqv : quietB b 0 ⟨F, dr, dor, D, st, lt⟩ = (decide (p ≤ st) && decide (D.length = 0)) := by rw [HQQ.out, ← HSI.out]
        have HQV := Lib.hid hqv
        clear hqv
        go_upto_region 16 with fail
        go_cut [99] from 73 to 99 (fun v wx => v = .bool false ∧ Below wc.heap.size wc wx)
        case first =>
          have r0 := (H11.out).reg 0 _ rfl
          have r1 := (H11.out).reg 1 _ rfl
          have r2 := (H11.out).reg 2 _ rfl
          have r3 := (H11.out).reg 3 _ rfl
          have r4 := (H11.out).reg 4 _ rfl
          have r5 := (H11.out).reg 5 _ rfl
          have t0 := ((HB54.out.next HWc.out)).reg 0 _ rfl
          have t1 := ((HB54.out.next HWc.out)).reg 1 _ rfl
          have t2 := ((HB54.out.next HWc.out)).reg 2 _ rfl
          have t3 := ((HB54.out.next HWc.out)).reg 3 _ rfl
          have t4 := ((HB54.out.next HWc.out)).reg 4 _ rfl
          have t5 := ((HB54.out.next HWc.out)).reg 5 _ rfl
          have t6 := ((HB54.out.next HWc.out)).reg 6 _ rfl
          have t7 := ((HB54.out.next HWc.out)).reg 7 _ rfl
          have c2 : ∀ W, Grow.Cl wc.drew W → W.cell? ⟨g, 2, none⟩ = some (.int .i64 p) := fun W hW => cell_later (Grow.Cl.base hW) HCc.out
          clear o0 o1 o2
          by_cases hA : p ≤ st
          · have hA' : (p ≤ st) = True := eq_true hA
            by_cases hB : D.length = 0
            · have hB' : ((D.length : Int) == 0) = true := by simp [hB]
              have HQL : Hid (quietB b 0 ⟨F, dr, dor, D, st, lt⟩ = true) := Lib.hid (by rw [HQV.out, decide_eq_true hA, decide_eq_true hB]; rfl)
              clear hA hB
              (refine Grow.wp_region Grow.noPlan Grow.noPlan_stable (by kernel_rfl) (by kernel_rfl) ?_; intro opsq Hopsq)
              repeat (first | (refine Grow.lex_move rfl ?_ rfl ?_; (· first | exact Grow.wanted_none | (rw [Hopsq.out]; rfl)); intro K hK; simp only [Grow.put_lit, Grow.setAt, Grow.eval_lit, Grow.ev]; refine hK _ _ ?_; clear hK K) | (refine Grow.lex_assign rfl ?_ rfl ?_; (· first | exact Grow.wanted_none | (rw [Hopsq.out]; rfl)); intro K hK; simp only [Grow.put_lit, Grow.setAt, Grow.eval_lit, Grow.ev]; refine hK _ _ ?_; clear hK K) | (refine Grow.lex_plain rfl rfl ?_ rfl ?_; (· first | exact Grow.wanted_none | (rw [Hopsq.out]; rfl)); apply Exists.intro; refine ⟨fun wq hCq _ => ?_, ?_⟩; (· (go_wp2_with fail; refine ⟨rfl, Below.refl _ _, ?_⟩; simp only [Grow.getD_lit, Grow.nth]; rfl)); intro K hK; simp only [Grow.put_lit, Grow.setAt]; refine hK _ _ ?_; clear hK K) | (refine Grow.lex_nilCheck rfl rfl ?_ rfl ?_; (· first | exact Grow.wanted_none | (rw [Hopsq.out]; rfl)); intro K hK; simp only [Grow.put_lit, Grow.setAt]; refine hK _ _ ?_; clear hK K) | (refine Grow.lex_skip ?_ ?_; (· (rw [Hopsq.out]; rfl)); intro K hK; simp only [Grow.put_lit, Grow.setAt]; refine hK _ _ ?_; clear hK K))
              (refine Grow.lex_call ?_ rfl ?_; (· first | exact Grow.wanted_none | (rw [Hopsq.out]; rfl)); apply Exists.intro; apply Exists.intro; refine ⟨fun wq => ?_, ?_⟩; (· (go_simp; exact ⟨rfl, rfl⟩)); apply Exists.intro; refine ⟨fun wq hCq hKq => ?_, ?_⟩; (· exact calls_bool (quiet_any b (some ⟨g, 0, none⟩) cap 0 ⟨F, dr, dor, D, st, lt⟩ q1 cap1 _ HL1.out HDL.out ((HR5.out.next HWc.out).next (Grow.Cl.base hCq)) (HD11.out.next (Grow.Cl.base hCq))) HQL.out); intro K hK; simp only [Grow.put_lit, Grow.setAt]; refine hK _ _ ?_; clear hK K)
              repeat (first | (refine Grow.lex_move rfl ?_ rfl ?_; (· first | exact Grow.wanted_none | (rw [Hopsq.out]; rfl)); intro K hK; simp only [Grow.put_lit, Grow.setAt, Grow.eval_lit, Grow.ev]; refine hK _ _ ?_; clear hK K) | (refine Grow.lex_assign rfl ?_ rfl ?_; (· first | exact Grow.wanted_none | (rw [Hopsq.out]; rfl)); intro K hK; simp only [Grow.put_lit, Grow.setAt, Grow.eval_lit, Grow.ev]; refine hK _ _ ?_; clear hK K) | (refine Grow.lex_plain rfl rfl ?_ rfl ?_; (· first | exact Grow.wanted_none | (rw [Hopsq.out]; rfl)); apply Exists.intro; refine ⟨fun wq hCq _ => ?_, ?_⟩; (· (go_wp2_with fail; refine ⟨rfl, Below.refl _ _, ?_⟩; simp only [Grow.getD_lit, Grow.nth]; rfl)); intro K hK; simp only [Grow.put_lit, Grow.setAt]; refine hK _ _ ?_; clear hK K) | (refine Grow.lex_nilCheck rfl rfl ?_ rfl ?_; (· first | exact Grow.wanted_none | (rw [Hopsq.out]; rfl)); intro K hK; simp only [Grow.put_lit, Grow.setAt]; refine hK _ _ ?_; clear hK K) | (refine Grow.lex_skip ?_ ?_; (· (rw [Hopsq.out]; rfl)); intro K hK; simp only [Grow.put_lit, Grow.setAt]; refine hK _ _ ?_; clear hK K))
              (refine Grow.lex_nil ?_; intro wz hbz _; replace hbz := Grow.Cl.base hbz; clear Hopsq opsq)
              go_wp2_with fail
              go_meet
              exact ⟨rfl, hbz⟩
            · have hB' : ((D.length : Int) == 0) = false := by simpa using hB
              have HQL : Hid (quietB b 0 ⟨F, dr, dor, D, st, lt⟩ = false) := Lib.hid (by rw [HQV.out, decide_eq_false hB, Bool.and_false])
              clear hA hB
              (refine Grow.wp_region Grow.noPlan Grow.noPlan_stable (by kernel_rfl) (by kernel_rfl) ?_; intro opsq Hopsq)
              repeat (first | (refine Grow.lex_move rfl ?_ rfl ?_; (· first | exact Grow.wanted_none | (rw [Hopsq.out]; rfl)); intro K hK; simp only [Grow.put_lit, Grow.setAt, Grow.eval_lit, Grow.ev]; refine hK _ _ ?_; clear hK K) | (refine Grow.lex_assign rfl ?_ rfl ?_; (· first | exact Grow.wanted_none | (rw [Hopsq.out]; rfl)); intro K hK; simp only [Grow.put_lit, Grow.setAt, Grow.eval_lit, Grow.ev]; refine hK _ _ ?_; clear hK K) | (refine Grow.lex_plain rfl rfl ?_ rfl ?_; (· first | exact Grow.wanted_none | (rw [Hopsq.out]; rfl)); apply Exists.intro; refine ⟨fun wq hCq _ => ?_, ?_⟩; (· (go_wp2_with fail; refine ⟨rfl, Below.refl _ _, ?_⟩; simp only [Grow.getD_lit, Grow.nth]; rfl)); intro K hK; simp only [Grow.put_lit, Grow.setAt]; refine hK _ _ ?_; clear hK K) | (refine Grow.lex_nilCheck rfl rfl ?_ rfl ?_; (· first | exact Grow.wanted_none | (rw [Hopsq.out]; rfl)); intro K hK; simp only [Grow.put_lit, Grow.setAt]; refine hK _ _ ?_; clear hK K) | (refine Grow.lex_skip ?_ ?_; (· (rw [Hopsq.out]; rfl)); intro K hK; simp only [Grow.put_lit, Grow.setAt]; refine hK _ _ ?_; clear hK K))
              (refine Grow.lex_call ?_ rfl ?_; (· first | exact Grow.wanted_none | (rw [Hopsq.out]; rfl)); apply Exists.intro; apply Exists.intro; refine ⟨fun wq => ?_, ?_⟩; (· (go_simp; exact ⟨rfl, rfl⟩)); apply Exists.intro; refine ⟨fun wq hCq hKq => ?_, ?_⟩; (· exact calls_bool (quiet_any b (some ⟨g, 0, none⟩) cap 0 ⟨F, dr, dor, D, st, lt⟩ q1 cap1 _ HL1.out HDL.out ((HR5.out.next HWc.out).next (Grow.Cl.base hCq)) (HD11.out.next (Grow.Cl.base hCq))) HQL.out); intro K hK; simp only [Grow.put_lit, Grow.setAt]; refine hK _ _ ?_; clear hK K)
              repeat (first | (refine Grow.lex_move rfl ?_ rfl ?_; (· first | exact Grow.wanted_none | (rw [Hopsq.out]; rfl)); intro K hK; simp only [Grow.put_lit, Grow.setAt, Grow.eval_lit, Grow.ev]; refine hK _ _ ?_; clear hK K) | (refine Grow.lex_assign rfl ?_ rfl ?_; (· first | exact Grow.wanted_none | (rw [Hopsq.out]; rfl)); intro K hK; simp only [Grow.put_lit, Grow.setAt, Grow.eval_lit, Grow.ev]; refine hK _ _ ?_; clear hK K) | (refine Grow.lex_plain rfl rfl ?_ rfl ?_; (· first | exact Grow.wanted_none | (rw [Hopsq.out]; rfl)); apply Exists.intro; refine ⟨fun wq hCq _ => ?_, ?_⟩; (· (go_wp2_with fail; refine ⟨rfl, Below.refl _ _, ?_⟩; simp only [Grow.getD_lit, Grow.nth]; rfl)); intro K hK; simp only [Grow.put_lit, Grow.setAt]; refine hK _ _ ?_; clear hK K) | (refine Grow.lex_nilCheck rfl rfl ?_ rfl ?_; (· first | exact Grow.wanted_none | (rw [Hopsq.out]; rfl)); intro K hK; simp only [Grow.put_lit, Grow.setAt]; refine hK _ _ ?_; clear hK K) | (refine Grow.lex_skip ?_ ?_; (· (rw [Hopsq.out]; rfl)); intro K hK; simp only [Grow.put_lit, Grow.setAt]; refine hK _ _ ?_; clear hK K))
              (refine Grow.lex_nil ?_; intro wz hbz _; replace hbz := Grow.Cl.base hbz; clear Hopsq opsq)
              go_wp2_with fail
              go_meet
              exact ⟨rfl, hbz⟩
          · have hA' : (p ≤ st) = False := eq_false hA
            have HQL : Hid (quietB b 0 ⟨F, dr, dor, D, st, lt⟩ = false) := Lib.hid (by rw [HQV.out, decide_eq_false hA, Bool.false_and])
            clear hA
            (refine Grow.wp_region Grow.noPlan Grow.noPlan_stable (by kernel_rfl) (by kernel_rfl) ?_; intro opsq Hopsq)
            repeat (first | (refine Grow.lex_move rfl ?_ rfl ?_; (· first | exact Grow.wanted_none | (rw [Hopsq.out]; rfl)); intro K hK; simp only [Grow.put_lit, Grow.setAt, Grow.eval_lit, Grow.ev]; refine hK _ _ ?_; clear hK K) | (refine Grow.lex_assign rfl ?_ rfl ?_; (· first | exact Grow.wanted_none | (rw [Hopsq.out]; rfl)); intro K hK; simp only [Grow.put_lit, Grow.setAt, Grow.eval_lit, Grow.ev]; refine hK _ _ ?_; clear hK K) | (refine Grow.lex_plain rfl rfl ?_ rfl ?_; (· first | exact Grow.wanted_none | (rw [Hopsq.out]; rfl)); apply Exists.intro; refine ⟨fun wq hCq _ => ?_, ?_⟩; (· (go_wp2_with fail; refine ⟨rfl, Below.refl _ _, ?_⟩; simp only [Grow.getD_lit, Grow.nth]; rfl)); intro K hK; simp only [Grow.put_lit, Grow.setAt]; refine hK _ _ ?_; clear hK K) | (refine Grow.lex_nilCheck rfl rfl ?_ rfl ?_; (· first | exact Grow.wanted_none | (rw [Hopsq.out]; rfl)); intro K hK; simp only [Grow.put_lit, Grow.setAt]; refine hK _ _ ?_; clear hK K) | (refine Grow.lex_skip ?_ ?_; (· (rw [Hopsq.out]; rfl)); intro K hK; simp only [Grow.put_lit, Grow.setAt]; refine hK _ _ ?_; clear hK K))
            (refine Grow.lex_call ?_ rfl ?_; (· first | exact Grow.wanted_none | (rw [Hopsq.out]; rfl)); apply Exists.intro; apply Exists.intro; refine ⟨fun wq => ?_, ?_⟩; (· (go_simp; exact ⟨rfl, rfl⟩)); apply Exists.intro; refine ⟨fun wq hCq hKq => ?_, ?_⟩; (· exact calls_bool (quiet_any b (some ⟨g, 0, none⟩) cap 0 ⟨F, dr, dor, D, st, lt⟩ q1 cap1 _ HL1.out HDL.out ((HR5.out.next HWc.out).next (Grow.Cl.base hCq)) (HD11.out.next (Grow.Cl.base hCq))) HQL.out); intro K hK; simp only [Grow.put_lit, Grow.setAt]; refine hK _ _ ?_; clear hK K)
            repeat (first | (refine Grow.lex_move rfl ?_ rfl ?_; (· first | exact Grow.wanted_none | (rw [Hopsq.out]; rfl)); intro K hK; simp only [Grow.put_lit, Grow.setAt, Grow.eval_lit, Grow.ev]; refine hK _ _ ?_; clear hK K) | (refine Grow.lex_assign rfl ?_ rfl ?_; (· first | exact Grow.wanted_none | (rw [Hopsq.out]; rfl)); intro K hK; simp only [Grow.put_lit, Grow.setAt, Grow.eval_lit, Grow.ev]; refine hK _ _ ?_; clear hK K) | (refine Grow.lex_plain rfl rfl ?_ rfl ?_; (· first | exact Grow.wanted_none | (rw [Hopsq.out]; rfl)); apply Exists.intro; refine ⟨fun wq hCq _ => ?_, ?_⟩; (· (go_wp2_with fail; refine ⟨rfl, Below.refl _ _, ?_⟩; simp only [Grow.getD_lit, Grow.nth]; rfl)); intro K hK; simp only [Grow.put_lit, Grow.setAt]; refine hK _ _ ?_; clear hK K) | (refine Grow.lex_nilCheck rfl rfl ?_ rfl ?_; (· first | exact Grow.wanted_none | (rw [Hopsq.out]; rfl)); intro K hK; simp only [Grow.put_lit, Grow.setAt]; refine hK _ _ ?_; clear hK K) | (refine Grow.lex_skip ?_ ?_; (· (rw [Hopsq.out]; rfl)); intro K hK; simp only [Grow.put_lit, Grow.setAt]; refine hK _ _ ?_; clear hK K))
            (refine Grow.lex_nil ?_; intro wz hbz _; replace hbz := Grow.Cl.base hbz; clear Hopsq opsq)
            go_wp2_with fail
            go_meet
            exact ⟨rfl, hbz⟩
        case rest =>
        obtain ⟨rfl, hbz⟩ := hcut
        generalize hwx : wc = wz at *
        clear hwx
        have HWz := Lib.hid (HW9.out.trans (hbz.mono HW9.out.size))
        have HBz := Lib.hid (H11.out.next hbz); have HDz := Lib.hid (HD11.out.next hbz)
        have HEz := Lib.hid (HE.out.step HWz.out); have HSz := Lib.hid (HSr.out.next HWz.out)
        clear hbz H11 HD11 HW9 o0 o1 o2
        have x0 := (HBz.out).cell 0 _ rfl
        have x1 := (HBz.out).cell 1 _ rfl
        have x2 := (HBz.out).cell 2 _ rfl
        have x3 := (HBz.out).cell 3 _ rfl
        have x4 := (HBz.out).cell 4 _ rfl
        have x5 := (HBz.out).cell 5 _ rfl
        have y0 := (HSz.out).cell 0 _ rfl
        have y1 := (HSz.out).cell 1 _ rfl
        have y2 := (HSz.out).cell 2 _ rfl
        have y3 := (HSz.out).cell 3 _ rfl
        have y4 := (HSz.out).cell 4 _ rfl
        have y5 := (HSz.out).cell 5 _ rfl
        have f0 := HSz.out.fr 0; have f1 := HSz.out.fr 1; have f2 := HSz.out.fr 2; have f3 := HSz.out.fr 3; have f4 := HSz.out.fr 4; have f5 := HSz.out.fr 5
        have hst1 : st ≤ ((k + 1 : Nat) : Int) := by rw [HSV.out]; split <;> omega
        go_upto_region 19 with fail
        have HSA : Hid (Blk ((((((wz.setCell ⟨g7, 0, none⟩ (.int .i64 F)).setCell ⟨g7, 1, none⟩ (.int .i64 dr)).setCell ⟨g7, 2, none⟩ (.int .i64 dor)).setCell ⟨g7, 3, none⟩ (.slice q1 D.length cap1)).setCell ⟨g7, 4, none⟩ (.int .i64 st)).setCell ⟨g7, 5, none⟩ (.bool lt)) g7 [.int .i64 F, .int .i64 dr, .int .i64 dor, .slice q1 D.length cap1, .int .i64 st, .bool lt]) := Lib.hid ((((((HSz.out.set 0 (.int .i64 F)).set 1 (.int .i64 dr)).set 2 (.int .i64 dor)).set 3 (.slice q1 D.length cap1)).set 4 (.int .i64 st)).set 5 (.bool lt))
        have HDA : Hid (RdD ((((((wz.setCell ⟨g7, 0, none⟩ (.int .i64 F)).setCell ⟨g7, 1, none⟩ (.int .i64 dr)).setCell ⟨g7, 2, none⟩ (.int .i64 dor)).setCell ⟨g7, 3, none⟩ (.slice q1 D.length cap1)).setCell ⟨g7, 4, none⟩ (.int .i64 st)).setCell ⟨g7, 5, none⟩ (.bool lt)) q1 D) := Lib.hid ((((((HDz.out.set HL7.out).set HL7.out).set HL7.out).set HL7.out).set HL7.out).set HL7.out)
        have HEA : Hid (Exc g7 w5 ((((((wz.setCell ⟨g7, 0, none⟩ (.int .i64 F)).setCell ⟨g7, 1, none⟩ (.int .i64 dr)).setCell ⟨g7, 2, none⟩ (.int .i64 dor)).setCell ⟨g7, 3, none⟩ (.slice q1 D.length cap1)).setCell ⟨g7, 4, none⟩ (.int .i64 st)).setCell ⟨g7, 5, none⟩ (.bool lt))) := Lib.hid ((((((HEz.out.set 0 (.int .i64 F)).set 1 (.int .i64 dr)).set 2 (.int .i64 dor)).set 3 (.slice q1 D.length cap1)).set 4 (.int .i64 st)).set 5 (.bool lt))
        clear x0 x1 x2 x3 x4 x5 y0 y1 y2 y3 y4 y5 f0 f1 f2 f3 f4 f5 HSz HDz HEz HBz
        generalize ((((((wz.setCell ⟨g7, 0, none⟩ (.int .i64 F)).setCell ⟨g7, 1, none⟩ (.int .i64 dr)).setCell ⟨g7, 2, none⟩ (.int .i64 dor)).setCell ⟨g7, 3, none⟩ (.slice q1 D.length cap1)).setCell ⟨g7, 4, none⟩ (.int .i64 st)).setCell ⟨g7, 5, none⟩ (.bool lt)) = wA at *
        have HST1 := Lib.hid hst1
        clear hst1
        cases hm30 : ((k : Int) % 30 == 29)
        · have HM30 := Lib.hid hm30
          go_wp2_with fail
          exact ⟨⟨k + 1, ⟨F, dr, dor, D, st, lt⟩, q1, cap1, by omega, by go_num, rfl, HST2.out, HST1.out, HLE.out, HSA.out, HDA.out, HEA.out⟩, by simp [intOf]; omega⟩
        · have HWA := Lib.hid (HW5.out.trans (HEA.out.below hg7' HW5.out.size))
          have BBA := HB54.out.next HWA.out
          have k0 := (BBA).cell 0 _ rfl
          have k1 := (BBA).cell 1 _ rfl
          have k2 := (BBA).cell 2 _ rfl
          have k3 := (BBA).cell 3 _ rfl
          have k4 := (BBA).cell 4 _ rfl
          have k5 := (BBA).cell 5 _ rfl
          have k6 := (BBA).cell 6 _ rfl
          have k7 := (BBA).cell 7 _ rfl
          have j0 := (HSA.out).cell 0 _ rfl
          have j1 := (HSA.out).cell 1 _ rfl
          have j2 := (HSA.out).cell 2 _ rfl
          have j3 := (HSA.out).cell 3 _ rfl
          have j4 := (HSA.out).cell 4 _ rfl
          have j5 := (HSA.out).cell 5 _ rfl
          obtain ⟨A', hqA, hA, hcc⟩ := (HM4.out.next HWA.out) k m HMM.out
          obtain rfl : A = A' := by simpa using hqA
          have e0 : wA.cell? (A.add (k * 5)) = some (.int .u32 (m.1.1.toNat : Int)) := hcc 0 _ rfl
          have e1 : wA.cell? ⟨(A.add (k * 5)).block, (A.add (k * 5)).off + 1, none⟩ = some (.int .u32 (m.1.2.toNat : Int)) := by rw [← addr_one]; exact hcc 1 _ rfl
          have hz7' : g7 < wA.heap.size := HSA.out.lt
          have hz5' : g5 < wA.heap.size := Nat.lt_of_lt_of_le hz54 HWA.out.size
          have HSS : Hid (∀ W, Below wA.heap.size wA W → W.cell? ⟨g5, 0, none⟩ = some (.int .i64 b.fl) ∧ W.cell? ⟨g5, 1, none⟩ = some (.int .i64 b.deb) ∧ W.cell? ⟨g5, 2, none⟩ = some (.int .i64 b.room) ∧ W.cell? ⟨g5, 3, none⟩ = some (.int .i64 b.park) ∧ W.cell? ⟨g5, 4, none⟩ = some (.float .f64 b.em) ∧ W.cell? ⟨g5, 5, none⟩ = some (.float .f64 b.fu) ∧ W.cell? ⟨g5, 6, none⟩ = some (.float .f64 b.ov) ∧ W.cell? ⟨g5, 7, none⟩ = some (.slice (some ⟨g, 0, none⟩) b.cars.length cap) ∧ W.cell? ⟨g7, 0, none⟩ = some (.int .i64 F) ∧ W.cell? ⟨g7, 1, none⟩ = some (.int .i64 dr) ∧ W.cell? ⟨g7, 2, none⟩ = some (.int .i64 dor) ∧ W.cell? ⟨g7, 3, none⟩ = some (.slice q1 D.length cap1) ∧ W.cell? ⟨g7, 4, none⟩ = some (.int .i64 st) ∧ W.cell? ⟨g7, 5, none⟩ = some (.bool lt) ∧ W.cell? (A.add (k * 5)) = some (.int .u32 (m.1.1.toNat : Int)) ∧ W.cell? ⟨(A.add (k * 5)).block, (A.add (k * 5)).off + 1, none⟩ = some (.int .u32 (m.1.2.toNat : Int))) := Lib.hid fun W hW => ⟨cell_later hW k0, cell_later hW k1, cell_later hW k2, cell_later hW k3, cell_later hW k4, cell_later hW k5, cell_later hW k6, cell_later hW k7, cell_later hW j0, cell_later hW j1, cell_later hW j2, cell_later hW j3, cell_later hW j4, cell_later hW j5, cell_later hW e0, cell_later hW e1⟩
          have HIC : Hid (∀ W, Below wA.heap.size wA W → Calls Try.prog 12 #[cvB b (some ⟨g, 0, none⟩) cap, .int .i64 0, cvS ⟨F, dr, dor, D, st, lt⟩ q1 cap1, cv m.1] W fun e w' => ∃ v, e = .returned v ∧ Below W.heap.size W w' ∧ belE W.heap.size (injectV b 0 ⟨F, dr, dor, D, st, lt⟩ m.1) 0 v w') := by
            refine Lib.hid fun W hW => ?_
            have h := inject_any b (some ⟨g, 0, none⟩) cap 0 ⟨F, dr, dor, D, st, lt⟩ q1 cap1 m.1 W HL1.out (by have := HLE.out; show D.length ≤ 900; omega) ((HR5.out.next HWA.out).next hW) (HDA.out.next hW)
            rw [injectW_eq, HST2.out] at h
            exact h
          have hi1 := inject_state b 0 ⟨F, dr, dor, D, st, lt⟩ m.1 HST2.out
          have hi2 := inj_len b 0 ⟨F, dr, dor, D, st, lt⟩ m.1
          have hi3 : (injectV b 0 ⟨F, dr, dor, D, st, lt⟩ m.1).still = st := by unfold injectV; rw [if_pos HST2.out]
          generalize injectV b 0 ⟨F, dr, dor, D, st, lt⟩ m.1 = V3 at *
          obtain ⟨F3, dr3, dor3, D3, st3, lt3⟩ := V3
          have HI1 := Lib.hid hi1; have HI2 := Lib.hid hi2; have HI3 := Lib.hid hi3
          clear hi1 hi2 hi3 hcc hA BBA
          go_upto_region 20 with fail
          go_cut [13, 14] from 104 to 114 (fun v10 v11 wx => ∃ g10 q3 cap3, v10 = .pointer (some ⟨g10, 0, none⟩) ∧ v11 = .int .i64 0 ∧ wA.heap.size ≤ g10 ∧ (∀ A, q3 = some A → wA.heap.size ≤ A.block) ∧ Blk wx g10 [.int .i64 F3, .int .i64 dr3, .int .i64 dor3, .slice q3 D3.length cap3, .int .i64 st3, .bool lt3] ∧ RdD wx q3 D3 ∧ Below wA.heap.size wA wx)
          case first =>
            go_region_held3 (fun W : World => W.cell? ⟨g5, 0, none⟩ = some (.int .i64 b.fl) ∧ W.cell? ⟨g5, 1, none⟩ = some (.int .i64 b.deb) ∧ W.cell? ⟨g5, 2, none⟩ = some (.int .i64 b.room) ∧ W.cell? ⟨g5, 3, none⟩ = some (.int .i64 b.park) ∧ W.cell? ⟨g5, 4, none⟩ = some (.float .f64 b.em) ∧ W.cell? ⟨g5, 5, none⟩ = some (.float .f64 b.fu) ∧ W.cell? ⟨g5, 6, none⟩ = some (.float .f64 b.ov) ∧ W.cell? ⟨g5, 7, none⟩ = some (.slice (some ⟨g, 0, none⟩) b.cars.length cap) ∧ W.cell? ⟨g7, 0, none⟩ = some (.int .i64 F) ∧ W.cell? ⟨g7, 1, none⟩ = some (.int .i64 dr) ∧ W.cell? ⟨g7, 2, none⟩ = some (.int .i64 dor) ∧ W.cell? ⟨g7, 3, none⟩ = some (.slice q1 D.length cap1) ∧ W.cell? ⟨g7, 4, none⟩ = some (.int .i64 st) ∧ W.cell? ⟨g7, 5, none⟩ = some (.bool lt) ∧ W.cell? (A.add (k * 5)) = some (.int .u32 (m.1.1.toNat : Int)) ∧ W.cell? ⟨(A.add (k * 5)).block, (A.add (k * 5)).off + 1, none⟩ = some (.int .u32 (m.1.2.toNat : Int)))
              ((refine HSS.out _ ?_
                repeat (with_reducible refine setB2 ?_ ?_; rotate_left; (first | exact Nat.le_refl _ | exact T6.out.size))
                first
                  | with_reducible exact T6.out
                  | with_reducible exact drewB2 wA
                  | with_reducible exact drewA2 wA _
                  | (with_reducible refine below_al2 ?_ (Nat.le_refl _) _
                     first
                       | with_reducible exact T6.out
                       | with_reducible exact drewB2 wA)))
              (first
                | (go_at_call 12
                   refine (HIC.out _ ?_).mono ?_
                   · first
                       | with_reducible exact drewB2 wA
                       | with_reducible exact drewA2 wA _
                       | with_reducible exact below_al2 (drewB2 wA) (Nat.le_refl _) _
                   rintro e w6 ⟨_, rfl, hb6, q3, cap3, rfl, hrd, hlo⟩
                   have T6 : Hid (Below wA.heap.size wA w6) := Lib.hid (by first | with_reducible exact (drewB2 wA).trans (hb6.mono (drewB2 wA).size) | with_reducible exact (drewA2 wA _).trans (hb6.mono (drewA2 wA _).size) | with_reducible exact (below_al2 (drewB2 wA) (Nat.le_refl _) _).trans (hb6.mono (below_al2 (drewB2 wA) (Nat.le_refl _) _).size))
                   have c6 := base_cell hb6
                   have z6 := base_frozen2 hb6))
            all_goals
              go_wp2_with fail
              go_meet
              refine ⟨_, q3, cap3, rfl, rfl, ?_⟩
              first
                | (show wA.heap.size ≤ w6.heap.size ∧ _
                   obtain ⟨e1, e2, e3, e4⟩ := endA2 (V := ⟨F3, dr3, dor3, D3, st3, lt3⟩) (cap7 := cap3) T6.out hrd
                   exact ⟨e1, fun A hA => hlo A hA, e2, e3, e4⟩)
                | (show wA.heap.size ≤ wA.heap.size ∧ _
                   have hB3 : Blk (wA.alloc (.cells #[.int .i64 0, .int .i64 0, .int .i64 0, .slice none 0 0, .int .i64 0, .bool false] 35)).drew wA.heap.size [.int .i64 0, .int .i64 0, .int .i64 0, .slice none 0 0, .int .i64 0, .bool false] := Blk.new wA [.int .i64 0, .int .i64 0, .int .i64 0, .slice none 0 0, .int .i64 0, .bool false] 35
                   have hlo2 : ∀ A, q3 = some A → wA.heap.size < A.block := fun A hA => by
                     have h : (wA.alloc (.cells #[.int .i64 0, .int .i64 0, .int .i64 0, .slice none 0 0, .int .i64 0, .bool false] 35)).heap.size ≤ A.block := hlo A hA
                     rw [World.size_alloc] at h
                     exact h
                   obtain ⟨e1, e2, e3, e4⟩ := endB2 (V := ⟨F3, dr3, dor3, D3, st3, lt3⟩) (g7 := wA.heap.size) (cap7 := cap3) T6.out hrd (Nat.le_refl _) (hB3.next hb6) hlo2
                   exact ⟨e1, fun A hA => Nat.le_of_lt (hlo2 A hA), e2, e3, e4⟩)
          case rest =>
            obtain ⟨g10, q3, cap3, rfl, rfl, hg10, hlo1, hB10, hrd1, hb6⟩ := hcut
            generalize hwx : wc = wu at *
            clear hwx HIC HSS k0 k1 k2 k3 k4 k5 k6 k7 j0 j1 j2 j3 j4 j5 e0 e1
            have hlo8 : ∀ A, q3 = some A → A.block ≠ g7 := fun A hA => by have := hlo1 A hA; omega
            have HL8 := Lib.hid hlo8
            have HU10 := Lib.hid hB10; have HDU := Lib.hid hrd1
            have HEU := Lib.hid (HEA.out.step hb6); have HSU := Lib.hid (HSA.out.next hb6)
            clear hlo1 hlo8 hB10 hrd1 hb6
            have x0 := (HU10.out).cell 0 _ rfl
            have x1 := (HU10.out).cell 1 _ rfl
            have x2 := (HU10.out).cell 2 _ rfl
            have x3 := (HU10.out).cell 3 _ rfl
            have x4 := (HU10.out).cell 4 _ rfl
            have x5 := (HU10.out).cell 5 _ rfl
            have y0 := (HSU.out).cell 0 _ rfl
            have y1 := (HSU.out).cell 1 _ rfl
            have y2 := (HSU.out).cell 2 _ rfl
            have y3 := (HSU.out).cell 3 _ rfl
            have y4 := (HSU.out).cell 4 _ rfl
            have y5 := (HSU.out).cell 5 _ rfl
            have f0 := HSU.out.fr 0; have f1 := HSU.out.fr 1; have f2 := HSU.out.fr 2; have f3 := HSU.out.fr 3; have f4 := HSU.out.fr 4; have f5 := HSU.out.fr 5
            go_wp2_with fail
            refine ⟨⟨k + 1, ⟨F3, dr3, dor3, D3, st3, lt3⟩, q3, cap3, by omega, by go_num, by have := HI3.out; simp only at this; rw [this], HI1.out, by have := HI3.out; simp only at this; rw [this]; exact HST1.out, HI2.out, ?_, ?_, (((((HEU.out.set 0 _).set 1 _).set 2 _).set 3 _).set 4 _).set 5 _⟩, by simp [intOf]; omega⟩
            · exact (((((HSU.out.set 0 (.int .i64 F3)).set 1 (.int .i64 dr3)).set 2 (.int .i64 dor3)).set 3 (.slice q3 D3.length cap3)).set 4 (.int .i64 st3)).set 5 (.bool lt3)
            · exact (((((HDU.out.set HL8.out).set HL8.out).set HL8.out).set HL8.out).set HL8.out).set HL8.out
    · have hd : decide ((k : Int) < (N : Int)) = false := by simp; omega
      go_wp2_with fail
      refine (sane19_any _).mono ?_
      rintro e w9 ⟨rfl, hb9⟩
      have HW9 := Lib.hid (HB5b.out.trans ((HWr.out.trans (hb9.mono HWr.out.size)).mono HB5b.out.size))
      clear hb9 BB
      go_wp2_with fail
      go_ret
      exact ⟨rfl, HWW.out.trans (HW9.out.mono HWW.out.size)⟩
set_option maxHeartbeats 1000000 in
set_option maxRecDepth 100000 in
theorem beliefStill_lifted (os : Os) (started : os.Started) (H : Type) (enc : TypeId × Value → H) :
    ReturnsInHanded {} Try.checked os 3 .any (Rows.beliefStillSpec.pre6 enc Try.prog Try.f3 Rows.beliefStillRow.domain false) (Rows.beliefStillSpec.post enc Try.prog Try.f3 false true false false) := by
  refine law_lifted (C := Try.checked) own laidOut started (by kernel_rfl) Try.func3 4 rfl Try.underlying4 (by kernel_rfl) rfl H enc
    (fun ds h => by match ds, h with | [d0, d1], _ => rfl)
    (ChangeSpec.witness6 (enc := enc) (C := Try.checked) false ⟨#[], #[.agg #[.int .u8 0, .int .u8 0], .slice none 0 0], []⟩ 8 (by kernel_rfl) (by kernel_rfl) (by kernel_rfl) (by kernel_rfl)) ?_
  intro W base args ds ps hval hA hsz
  have hA' : DataW.TrodAll enc Try.prog W 0 (fun _ => true) true Try.f3.params.toList args.toList ds ps := hA
  have hval' : ∀ (j : Nat) t v, Try.f3.params[j]? = some t → args[j]? = some v → Value.okWide Try.prog W .any base t v := hval
  rw [Try.params3] at hA' hval'
  obtain ⟨v0, vs0, d0, ds0, p0, q0, hargs, rfl, rfl, h0, r0⟩ := trodAll_cons hA'
  obtain ⟨v1, vs1, d1, ds1, p1, q1, rfl, rfl, rfl, h1, r1⟩ := trodAll_cons r0
  obtain ⟨rfl, rfl, rfl⟩ := trodAll_nil r1
  obtain rfl : args = #[v0, v1] := by cases args; simp_all
  obtain ⟨n0, t0, rfl, hn0, ht0⟩ := open_u8x2 (hval' 0 22 v0 rfl rfl) h0
  obtain ⟨l1, q1x, cap1, rfl, hl1, hu1⟩ := open_u8s (hval' 1 23 v1 rfl rfl) h1
  exact still_walk n0 t0 l1 q1x cap1 W hn0 ht0 hl1 hu1

theorem beliefStill_over : Rows.beliefStillRow.holds Try.pinned (OpenSpec.ofChange Rows.beliefStillSpec) :=
  OpenClaim.holds_of_wide 3 Try.f3 rfl rfl rfl rfl rfl rfl rfl ⟨rfl, rfl, rfl, rfl, rfl⟩ rfl rfl rfl rfl rfl (by kernel_rfl) Try.func3 (by kernel_rfl)
    (of_decide_eq_true (by kernel_rfl)) (by unfold Func.isWrapper; first | (rw [if_pos (by decide +kernel)]; kernel_rfl) | (rw [if_neg (by decide +kernel)]; exact ⟨rfl, rfl⟩))
    (fun os started H enc _ => beliefStill_lifted os started H enc)

/-- THE STATEMENT. -/
theorem beliefStill_holds : Rows.BeliefStillSaid := beliefStill_over
#print axioms beliefStill_holds
end Go.Proofs.Ytnnkldidlgiipaa
