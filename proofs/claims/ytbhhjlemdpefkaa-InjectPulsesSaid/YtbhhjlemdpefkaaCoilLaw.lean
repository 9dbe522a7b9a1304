/- InjectCoils: the outputs to a car in every phase, for made and arbitrary beliefs, are the reference's, and are safe. The law's function answers true at every argument. Conditions: none. -/
import Derived.Test.YtbhhjlemdpefkaaArgsBel
import Derived.Test.YtbhhjlemdpefkaaOut
namespace Go.Proofs.Ytbhhjlemdpefkaa
open Go.ChangeShapes Go.WideShapes Go.ChangeAt Go.RowKit
attribute [local go_sem ↓] run_eql_cs run_neq_cs run_eql_k run_neq_k
attribute [local go_sem] run_store_float
theorem coil_safe (b : BldV) (car p : Int) (s : BelV) : safeB p (coilV b car p s) (!wiredOn b car p s) = true := by
  unfold safeB coilV
  cases h : wiredOn b car p s
  · simp
  · have : wiredB p = true := by unfold wiredOn at h; rw [Bool.and_eq_true] at h; exact h.1
    rw [this]; simp
/-- A made belief, told. -/
def stR (v : Value) (w : World) : Prop := ∃ (V : BelV) (q : Option Addr) (cap : Nat), v = cvS V q cap ∧ V.du.length ≤ 64 ∧ RdD w q V.du
theorem stR_stable (v : Value) : Grow.Stable (stR v) := by
  rintro w w' ⟨V, q, cap, hv, hl, hr⟩ hb
  exact ⟨V, q, cap, hv, hl, hr.next hb⟩
theorem stR_form {v : Value} {w : World} (h : stR v w) : ∃ V q cap, v = cvS V q cap := by
  obtain ⟨V, q, cap, hv, _⟩ := h
  exact ⟨V, q, cap, hv⟩
theorem stR_out {V : BelV} {q : Option Addr} {cap : Nat} {w : World} (h : stR (cvS V q cap) w) : ∃ du : List Duty, V.du.length = du.length ∧ du.length ≤ 64 ∧ RdD w q du := by
  obtain ⟨V', q', cap', hv, hl, hr⟩ := h
  simp only [cvS, Value.agg.injEq, Array.mk.injEq, List.cons.injEq, Value.slice.injEq] at hv
  obtain ⟨_, _, _, ⟨rfl, hlen, _⟩, _⟩ := hv
  exact ⟨V'.du, hlen, hl, hr⟩
/-- The slice of two beliefs, made of the operands' values. -/
def twoCells (xs : Array Value) : List Value := xs.toList.flatMap fun v => match v with | .agg cs => cs.toList | _ => []
def mkV (mk : Nat → Value) (lo : Nat) : Array Value → Value → World → Prop := fun xs v w => ∃ b, v = mk b ∧ lo ≤ b ∧ Blk w b (twoCells xs)
def coilPlan (mk : Nat → Value) (lo : Nat) : Grow.Plan := fun i => if i = 2 then some (fun _ v w => stR v w) else if i = 4 then some (mkV mk lo) else none
theorem coilPlan_stable (mk : Nat → Value) (lo : Nat) : (coilPlan mk lo).stable := by
  intro i r h xs v w w' hr hb
  unfold coilPlan at h
  split at h
  · cases h; exact stR_stable v w w' hr hb
  · split at h
    · cases h
      obtain ⟨b, hv, hlo, hT⟩ := hr
      exact ⟨b, hv, hlo, hT.next hb⟩
    · cases h
theorem lex_mkV {P : Program} {ops : Array Oper} {md : Region.Mode} {w0 : World} {pl : Grow.Plan} {Q : Act → Grow.Facts → Prop} {rest : List Oper} {a : Act} {T : Grow.Facts} {o : Oper} {j : Nat} (mk : Nat → Value) (lo : Nat) (ty : TypeId) (hpl : pl j = some (mkV mk lo)) (hw : Region.wanted o (yielded ops a.tmps) = true)
    (hz : ∀ w, (execOp a.eval o).run P w = .ok (.value (mk w.heap.size)) (w.alloc (.cells (twoCells (Grow.vals o a)).toArray ty))) (hlo : lo ≤ w0.heap.size)
    (h : ∀ b, lo ≤ b → Grow.lexR P ops md w0 pl Q (j + 1) rest (a.put o.dst (mk b)) (Grow.upd T j (mkV mk lo (Grow.vals o a) (mk b)))) :
    Grow.lexR P ops md w0 pl Q j (o :: rest) a T := by
  refine Grow.lex_rel hw hpl (fun w hC _ => ?_) fun v hW => ?_
  · unfold Grow.yields
    rw [hz w]
    exact ⟨below1' _ _, w.heap.size, rfl, Nat.le_trans hlo hC.size, Blk.new _ _ _⟩
  · obtain ⟨w, _, hT⟩ := hW
    obtain ⟨_, ⟨b, rfl, hb, _⟩⟩ := Grow.Holds.of_upd hT
    exact h b hb
def slS (g : Nat) : Value := .slice (some ⟨g, 0, none⟩) 2 2
theorem slS_inj (x y : Nat) (h : slS x = slS y) : x = y := by unfold slS at h; simpa using h
def b20 (n t : Nat) : BldV := { b18 n t with cars := (b18 n t).cars.set 0 { c18 t (fl18 n) 0 with pu := 1 + (t : Int) % 7 } }
theorem cars18_0 (n t : Nat) : (b18 n t).cars[0]? = some (c18 t (fl18 n) 0) := by
  show ((List.range (k18 n)).map (c18 t (fl18 n)))[0]? = _
  rw [List.getElem?_map, List.getElem?_range (by have := (k18_range n).1; omega)]
  rfl
theorem b20_cells (n t : Nat) : carCells (b20 n t).cars = (carCells (b18 n t).cars).set 1 (.int .i64 (1 + (t : Int) % 7)) :=
  carCells_set (b18 n t).cars 0 1 _ _ _ (by omega) (cars18_0 n t) rfl
theorem b20_len (n t : Nat) : (b20 n t).cars.length = (b18 n t).cars.length := by simp [b20]
theorem slack20 (n t : Nat) : ∀ c ∈ (b20 n t).cars, -9223372036854775808 ≤ c.sl ∧ c.sl < 9223372036854775807 := by
  intro c hc
  rcases List.mem_or_eq_of_mem_set hc with h | rfl
  · exact slack18 n t c h
  · show (-9223372036854775808 : Int) ≤ 5 ∧ (5 : Int) < 9223372036854775807
    omega
def l12 (V : BelV) (q : Option Addr) (c : Nat) (R : BelV) (qr : Option Addr) (cr : Nat) : List Value := [.int .i64 V.fl, .int .i64 V.dir, .int .i64 V.door, .slice q V.du.length c, .int .i64 V.still, .bool V.late, .int .i64 R.fl, .int .i64 R.dir, .int .i64 R.door, .slice qr R.du.length cr, .int .i64 R.still, .bool R.late]
theorem l12_at (V : BelV) (q : Option Addr) (c : Nat) (R : BelV) (qr : Option Addr) (cr : Nat) (i : Nat) (h : i < 2) : ∃ (S : BelV) (qs : Option Addr) (cs : Nat), ((S = V ∧ qs = q) ∨ (S = R ∧ qs = qr)) ∧ (l12 V q c R qr cr)[i * 6]? = some (.int .i64 S.fl) ∧ (l12 V q c R qr cr)[i * 6 + 1]? = some (.int .i64 S.dir) ∧
    (l12 V q c R qr cr)[i * 6 + 2]? = some (.int .i64 S.door) ∧ (l12 V q c R qr cr)[i * 6 + 3]? = some (.slice qs S.du.length cs) ∧ (l12 V q c R qr cr)[i * 6 + 4]? = some (.int .i64 S.still) ∧ (l12 V q c R qr cr)[i * 6 + 5]? = some (.bool S.late) := by
  match i, h with
  | 0, _ => exact ⟨V, q, c, .inl ⟨rfl, rfl⟩, rfl, rfl, rfl, rfl, rfl, rfl⟩
  | 1, _ => exact ⟨R, qr, cr, .inr ⟨rfl, rfl⟩, rfl, rfl, rfl, rfl, rfl, rfl⟩
set_option maxHeartbeats 8000000 in
set_option maxRecDepth 100000 in
theorem coil_walk (n t : Nat) (l : List Nat) (ql : Option Addr) (capl : Nat) (R : BelV) (qr : Option Addr) (capr : Nat) (w : World) (hn : n < 256) (ht : t < 256) (hl : l.length ≤ maxLen) (hu : RdU w ql l) (hrd : RdD w qr R.du) :
    Calls Try.prog 3 #[.agg #[.int .u8 n, .int .u8 t], .slice ql l.length capl, cvS R qr capr] w fun e w' => e = .returned (.bool true) ∧ Below w.heap.size w w' := by
  have X0 : Blk (w.alloc (.cells #[.int .u8 n, .int .u8 t] 22)) w.heap.size [.int .u8 n, .int .u8 t] := by
    have hx := Blk.new w [.int .u8 n, .int .u8 t] 22
    exact hx
  replace X0 : Blk ((w.alloc (.cells #[.int .u8 n, .int .u8 t] 22)).alloc (.cells #[.int .i64 R.fl, .int .i64 R.dir, .int .i64 R.door, .slice qr R.du.length capr, .int .i64 R.still, .bool R.late] 26)) w.heap.size [.int .u8 n, .int .u8 t] := X0.next (below1' _ _)
  have X1 : Blk ((w.alloc (.cells #[.int .u8 n, .int .u8 t] 22)).alloc (.cells #[.int .i64 R.fl, .int .i64 R.dir, .int .i64 R.door, .slice qr R.du.length capr, .int .i64 R.still, .bool R.late] 26)) (w.heap.size + 1) [.int .i64 R.fl, .int .i64 R.dir, .int .i64 R.door, .slice qr R.du.length capr, .int .i64 R.still, .bool R.late] := by
    have hx := Blk.new (w.alloc (.cells #[.int .u8 n, .int .u8 t] 22)) [.int .i64 R.fl, .int .i64 R.dir, .int .i64 R.door, .slice qr R.du.length capr, .int .i64 R.still, .bool R.late] 26
    rw [World.size_alloc] at hx
    exact hx
  have XW : Below w.heap.size w (w.alloc (.cells #[.int .u8 n, .int .u8 t] 22)) := below1' w _
  replace XW : Below w.heap.size w ((w.alloc (.cells #[.int .u8 n, .int .u8 t] 22)).alloc (.cells #[.int .i64 R.fl, .int .i64 R.dir, .int .i64 R.door, .slice qr R.du.length capr, .int .i64 R.still, .bool R.late] 26)) := XW.trans ((below1' _ _).mono XW.size)
  have HWW := Lib.hid XW; have HX0 := Lib.hid X0; have HX1 := Lib.hid X1
  clear XW X0 X1
  have HU := Lib.hid (hu.next HWW.out)
  have HDR := Lib.hid (hrd.next HWW.out)
  have HL2 := Lib.hid hl
  clear hu hrd
  obtain ⟨nl, hnl⟩ : ∃ n, n = l.length := ⟨_, rfl⟩
  have HNL := Lib.hid hnl
  rw [← hnl] at hl ⊢
  clear hnl
  go_enter Try.func3, Try.ntmps3
  go_upto_region 1 with fail
  generalize ((w.alloc (.cells #[.int .u8 n, .int .u8 t] 22)).alloc (.cells #[.int .i64 R.fl, .int .i64 R.dir, .int .i64 R.door, .slice qr R.du.length capr, .int .i64 R.still, .bool R.late] 26)) = w0 at *
  generalize hg1 : w.heap.size + 1 = g1 at *
  have HG1 := Lib.hid hg1; have hq1 : w.heap.size + 1 ≤ g1 := by omega
  clear hg1
  have HW := Lib.hid (Below.refl w0.heap.size w0)
  have hz0 := HX0.out.lt; have hz1 := HX1.out.lt
  have j3 := (HX1.out).cell 3 _ rfl
  have hg1 : w.heap.size ≤ g1 := by omega
  by_cases h80 : 80 < R.du.length
  · have hd : decide ((80 : Int) < (R.du.length : Int)) = true := decide_eq_true (by omega)
    go_wp2_with fail
    refine (sane20_any _).mono ?_
    rintro e w9 ⟨rfl, hb9⟩
    go_wp2_with fail
    go_ret
    exact ⟨rfl, HWW.out.trans ((HW.out.trans (hb9.mono HW.out.size)).mono HWW.out.size)⟩
  · have hd : decide ((80 : Int) < (R.du.length : Int)) = false := decide_eq_false (by omega)
    have H80 : Hid (R.du.length ≤ 80) := Lib.hid (by omega)
    clear h80
    go_upto_region 3 with fail
    have k0 := (HX0.out).cell 0 _ rfl
    have k1 := (HX0.out).cell 1 _ rfl
    clear j3 hd
    go_wp2_with fail
    refine (b18_val n t _ hn ht).mono ?_
    rintro e w1 ⟨g, cap, rfl, hg0, hg1', hown, hr, hb⟩
    have HB := Lib.hid (HW.out.trans (hb.mono HW.out.size))
    have HOW := Lib.hid hown
    obtain ⟨A0, hqA, hA0, hcc⟩ := hr 0 (c18 t (fl18 n) 0) (cars18_0 n t)
    have hp1 : w1.cell? ⟨g, 1, none⟩ = some (.int .i64 2) := by
      obtain rfl : A0 = ⟨g, 0, none⟩ := by simpa using hqA.symm
      have := hcc 1 _ rfl
      rwa [Addr.add_lit] at this
    have HP1 := Lib.hid hp1
    have hfr := row_fr hown 1
    have HFR := Lib.hid hfr
    have hsz01 : w0.heap.size < g := Nat.lt_of_le_of_lt HW.out.size hg0
    clear hqA hA0 hcc hp1 hfr hb hr hown HW k0 k1
    go_upto_region 4 with fail
    have B5 := Blk.new w1 [.int .i64 (b18 n t).fl, .int .i64 (b18 n t).deb, .int .i64 (b18 n t).room, .int .i64 (b18 n t).park, .float .f64 (b18 n t).em, .float .f64 (b18 n t).fu, .float .f64 (b18 n t).ov, .slice (some ⟨g, 0, none⟩) (b18 n t).cars.length cap] 31
    have hb5 := below1' w1 (.cells #[.int .i64 (b18 n t).fl, .int .i64 (b18 n t).deb, .int .i64 (b18 n t).room, .int .i64 (b18 n t).park, .float .f64 (b18 n t).em, .float .f64 (b18 n t).fu, .float .f64 (b18 n t).ov, .slice (some ⟨g, 0, none⟩) (b18 n t).cars.length cap] 31)
    change Blk (w1.alloc (.cells #[.int .i64 (b18 n t).fl, .int .i64 (b18 n t).deb, .int .i64 (b18 n t).room, .int .i64 (b18 n t).park, .float .f64 (b18 n t).em, .float .f64 (b18 n t).fu, .float .f64 (b18 n t).ov, .slice (some ⟨g, 0, none⟩) (b18 n t).cars.length cap] 31)) _ _ at B5
    have HB2 := Lib.hid (HB.out.trans (hb5.mono HB.out.size))
    have HO2 := Lib.hid (rowLater HOW.out hb5)
    have HP2 := Lib.hid (cell_later hb5 HP1.out)
    have HB5 := Lib.hid B5
    have hlt5 : g < w1.heap.size := hg1'
    clear B5 hb5 HB HOW HP1 HFR
    generalize w1.alloc (.cells #[.int .i64 (b18 n t).fl, .int .i64 (b18 n t).deb, .int .i64 (b18 n t).room, .int .i64 (b18 n t).park, .float .f64 (b18 n t).em, .float .f64 (b18 n t).fu, .float .f64 (b18 n t).ov, .slice (some ⟨g, 0, none⟩) (b18 n t).cars.length cap] 31) = w2 at *
    generalize w1.heap.size = g5 at *
    have hp2 := HP2.out
    have hfr := row_fr HO2.out 1
    have k7 := (HB5.out).cell 7 _ rfl
    have c0 := base_cell HB2.out
    have u0 := (HX0.out).cell 0 _ rfl
    have u1 := (HX0.out).cell 1 _ rfl
    have hnc : 1 ≤ (b18 n t).cars.length := by show 1 ≤ (cars18 n t).length; rw [cars18_len]; exact (k18_range n).1
    have hnc' : (0 : Int) < ((b18 n t).cars.length : Int) := by omega
    go_upto_region 5 with fail
    have hg51 : g5 ≠ g := by omega
    have HO3 := Lib.hid (row_upd HO2.out 1 (.int .i64 (1 + (t : Int) % 7)))
    have B3 := HB5.out.other (i := 1) hg51 (.int .i64 (1 + (t : Int) % 7))
    have HB3 := Lib.hid (HB2.out.setCell (p := ⟨g, 1, none⟩) (Nat.le_of_lt hsz01) (.int .i64 (1 + (t : Int) % 7)))
    clear hp2 hfr k7 c0 u0 u1 HP2 HB5 HO2 HB2
    generalize w2.setCell ⟨g, 1, none⟩ (.int .i64 (1 + (t : Int) % 7)) = w3 at *
    have h3 := HO3.out
    rw [← b20_cells] at h3
    have HR3 := Lib.hid (rdC_of_owns h3 (b20_len n t))
    rw [← b20_len n t] at B3
    change Blk w3 g5 [.int .i64 (b20 n t).fl, .int .i64 (b20 n t).deb, .int .i64 (b20 n t).room, .int .i64 (b20 n t).park, .float .f64 (b20 n t).em, .float .f64 (b20 n t).fu, .float .f64 (b20 n t).ov, .slice (some ⟨g, 0, none⟩) (b20 n t).cars.length cap] at B3
    have HB5 := Lib.hid B3
    have HSL : Hid (∀ c ∈ (b20 n t).cars, -9223372036854775808 ≤ c.sl ∧ c.sl < 9223372036854775807) := Lib.hid (slack20 n t)
    have hfl : 2 ≤ (b20 n t).fl ∧ (b20 n t).fl ≤ 6 := fl18_range n
    have hcl : 1 ≤ (b20 n t).cars.length ∧ (b20 n t).cars.length ≤ 3 := by rw [b20_len]; show 1 ≤ (cars18 n t).length ∧ (cars18 n t).length ≤ 3; rw [cars18_len]; exact k18_range n
    clear h3 B3 HO3 hnc hnc'
    generalize b18 n t = b0 at *
    generalize b20 n t = b at *
    have HDR3 := Lib.hid (HDR.out.next HB3.out)
    have HU3 := Lib.hid (HU.out.next HB3.out)
    have HX13 := Lib.hid (HX1.out.later HB3.out hz1)
    clear HDR HU
    have t0 := (HB5.out).reg 0 _ rfl
    have t1 := (HB5.out).reg 1 _ rfl
    have t2 := (HB5.out).reg 2 _ rfl
    have t3 := (HB5.out).reg 3 _ rfl
    have t4 := (HB5.out).reg 4 _ rfl
    have t5 := (HB5.out).reg 5 _ rfl
    have t6 := (HB5.out).reg 6 _ rfl
    have t7 := (HB5.out).reg 7 _ rfl
    have u0 := (HX13.out).reg 0 _ rfl
    have u1 := (HX13.out).reg 1 _ rfl
    have u2 := (HX13.out).reg 2 _ rfl
    have u3 := (HX13.out).reg 3 _ rfl
    have u4 := (HX13.out).reg 4 _ rfl
    have u5 := (HX13.out).reg 5 _ rfl
    have hlo3 : w3.heap.size ≤ w3.drew.heap.size := Nat.le_refl _
    refine Grow.wp_region (coilPlan slS w3.heap.size) (coilPlan_stable slS w3.heap.size) (by kernel_rfl) (by kernel_rfl) ?_
    intro opsq Hopsq
    repeat (first | (refine Grow.lex_move rfl ?_ rfl ?_; (· first | exact Grow.wanted_none | (rw [Hopsq.out]; rfl)); intro K hK; simp only [Grow.put_lit, Grow.setAt, Grow.eval_lit, Grow.ev]; refine hK _ _ ?_; clear hK K) | (refine Grow.lex_assign rfl ?_ rfl ?_; (· first | exact Grow.wanted_none | (rw [Hopsq.out]; rfl)); intro K hK; simp only [Grow.put_lit, Grow.setAt, Grow.eval_lit, Grow.ev]; refine hK _ _ ?_; clear hK K) | (refine Grow.lex_plain rfl rfl ?_ rfl ?_; (· first | exact Grow.wanted_none | (rw [Hopsq.out]; rfl)); apply Exists.intro; refine ⟨fun wq hCq _ => ?_, ?_⟩; (· (go_wp2_with fail; refine ⟨rfl, Below.refl _ _, ?_⟩; simp only [Grow.getD_lit, Grow.nth]; rfl)); intro K hK; simp only [Grow.put_lit, Grow.setAt]; refine hK _ _ ?_; clear hK K) | (refine Grow.lex_skip ?_ ?_; (· (rw [Hopsq.out]; rfl)); intro K hK; simp only [Grow.put_lit, Grow.setAt]; refine hK _ _ ?_; clear hK K))
    (refine Grow.lex_callR (r := (fun _ v w => stR v w)) ?_ rfl ?_; (· first | exact Grow.wanted_none | (rw [Hopsq.out]; rfl)); apply Exists.intro; apply Exists.intro; refine ⟨fun wq => ?_, ?_, ?_⟩; (· (go_simp; exact ⟨rfl, rfl⟩)); (· (intro wq hCq hKq; exact (by have h := mkState_any b (some ⟨g, 0, none⟩) cap l ql capl wq HL2.out (by omega) (by omega) (by omega) HSL.out (HR3.out.next (Grow.Cl.base hCq)) (HU3.out.next (Grow.Cl.base hCq)); rw [← HNL.out] at h; exact h.mono (fun e w' ⟨L, q', cap', he, _, _, h64, hrd, _, hb⟩ => ⟨_, he, hb, ⟨foldV b L, q', cap', rfl, h64, hrd⟩⟩)))); intro vq hWq; obtain ⟨_, _, hTT⟩ := hWq; obtain ⟨V, q1, cap1, hvq⟩ := stR_form (Grow.Holds.of_upd hTT).2; subst hvq; clear hTT; intro K hK; simp only [Grow.put_lit, Grow.setAt]; refine hK _ _ ?_; clear hK K)
    repeat (first | (refine Grow.lex_move rfl ?_ rfl ?_; (· first | exact Grow.wanted_none | (rw [Hopsq.out]; rfl)); intro K hK; simp only [Grow.put_lit, Grow.setAt, Grow.eval_lit, Grow.ev]; refine hK _ _ ?_; clear hK K) | (refine Grow.lex_assign rfl ?_ rfl ?_; (· first | exact Grow.wanted_none | (rw [Hopsq.out]; rfl)); intro K hK; simp only [Grow.put_lit, Grow.setAt, Grow.eval_lit, Grow.ev]; refine hK _ _ ?_; clear hK K) | (refine Grow.lex_plain rfl rfl ?_ rfl ?_; (· first | exact Grow.wanted_none | (rw [Hopsq.out]; rfl)); apply Exists.intro; refine ⟨fun wq hCq _ => ?_, ?_⟩; (· (go_wp2_with fail; refine ⟨rfl, Below.refl _ _, ?_⟩; simp only [Grow.getD_lit, Grow.nth]; rfl)); intro K hK; simp only [Grow.put_lit, Grow.setAt]; refine hK _ _ ?_; clear hK K) | (refine Grow.lex_skip ?_ ?_; (· (rw [Hopsq.out]; rfl)); intro K hK; simp only [Grow.put_lit, Grow.setAt]; refine hK _ _ ?_; clear hK K))
    refine lex_mkV slS w3.heap.size 26 rfl ?_ (fun wq => ?_) hlo3 ?_
    · first | exact Grow.wanted_none | (rw [Hopsq.out]; rfl)
    · go_simp
      refine ⟨rfl, ?_⟩
      simp [twoCells, Grow.vals, Op.operands, Act.eval]
    intro gs hgs
    simp only [Grow.put_lit, Grow.setAt, slS]
    repeat (first | (refine Grow.lex_move rfl ?_ rfl ?_; (· first | exact Grow.wanted_none | (rw [Hopsq.out]; rfl)); intro K hK; simp only [Grow.put_lit, Grow.setAt, Grow.eval_lit, Grow.ev]; refine hK _ _ ?_; clear hK K) | (refine Grow.lex_assign rfl ?_ rfl ?_; (· first | exact Grow.wanted_none | (rw [Hopsq.out]; rfl)); intro K hK; simp only [Grow.put_lit, Grow.setAt, Grow.eval_lit, Grow.ev]; refine hK _ _ ?_; clear hK K) | (refine Grow.lex_plain rfl rfl ?_ rfl ?_; (· first | exact Grow.wanted_none | (rw [Hopsq.out]; rfl)); apply Exists.intro; refine ⟨fun wq hCq _ => ?_, ?_⟩; (· (go_wp2_with fail; refine ⟨rfl, Below.refl _ _, ?_⟩; simp only [Grow.getD_lit, Grow.nth]; rfl)); intro K hK; simp only [Grow.put_lit, Grow.setAt]; refine hK _ _ ?_; clear hK K) | (refine Grow.lex_skip ?_ ?_; (· (rw [Hopsq.out]; rfl)); intro K hK; simp only [Grow.put_lit, Grow.setAt]; refine hK _ _ ?_; clear hK K))
    refine Grow.lex_nil ?_
    intro w7 hb7 hTq
    obtain ⟨du, hlen, h64, hrdu⟩ := stR_out (Grow.Holds.of_upd (Grow.Holds.of_upd hTq).1).2
    obtain ⟨gs', hgq, _, hBs⟩ := (Grow.Holds.of_upd hTq).2
    obtain rfl : gs = gs' := slS_inj _ _ hgq
    simp [twoCells, Grow.vals, Op.operands, Act.eval] at hBs
    change Blk w7 gs [.int .i64 V.fl, .int .i64 V.dir, .int .i64 V.door, .slice q1 V.du.length cap1, .int .i64 V.still, .bool V.late, .int .i64 R.fl, .int .i64 R.dir, .int .i64 R.door, .slice qr R.du.length capr, .int .i64 R.still, .bool R.late] at hBs
    replace hb7 := Grow.Cl.base hb7
    clear hTq Hopsq opsq hgq t0 t1 t2 t3 t4 t5 t6 t7 u0 u1 u2 u3 u4 u5 hlo3
    rw [hlen] at hBs
    change Blk w7 gs (l12 ⟨V.fl, V.dir, V.door, du, V.still, V.late⟩ q1 cap1 R qr capr) at hBs
    have HGS := Lib.hid hBs
    have HDU := Lib.hid hrdu
    have HB7 := Lib.hid (HB3.out.trans (hb7.mono HB3.out.size))
    have HR7 := Lib.hid (HR3.out.next hb7)
    have HDR7 := Lib.hid (HDR3.out.next hb7)
    have HB57 := Lib.hid (HB5.out.next hb7)
    obtain ⟨V0, hV0⟩ : ∃ V0 : BelV, V0 = ⟨V.fl, V.dir, V.door, du, V.still, V.late⟩ := ⟨_, rfl⟩
    rw [← hV0] at HGS
    have hdu : du = V0.du := by rw [hV0]
    rw [hdu] at h64 HDU
    have H64 := Lib.hid h64
    clear hV0 hdu hBs hrdu hb7 HB3 HR3 HDR3 HB5 HX13 HU3 h64 hlen
    have hz5 := HB57.out.lt
    have k0 := (HB57.out).cell 0 _ rfl
    have k1 := (HB57.out).cell 1 _ rfl
    have k2 := (HB57.out).cell 2 _ rfl
    have k3 := (HB57.out).cell 3 _ rfl
    have k4 := (HB57.out).cell 4 _ rfl
    have k5 := (HB57.out).cell 5 _ rfl
    have k6 := (HB57.out).cell 6 _ rfl
    have k7 := (HB57.out).cell 7 _ rfl
    go_wp2_with fail
    go_loopw [38] (fun v wr => ∃ i : Nat, i ≤ 2 ∧ v = .int .i64 i ∧ Below w7.heap.size w7 wr) (fun v _ => 2 - (intOf v).toNat)
    case atStart => exact ⟨0, by omega, rfl, Below.refl _ _⟩
    case round =>
      obtain ⟨i, hi, rfl, hb⟩ := hrel
      have HW := Lib.hid hb
      have c0 := base_cell HW.out
      clear hb
      by_cases hlt : i < 2
      · have hd : decide ((i : Int) < 2) = true := by simp; omega
        have hi0 : (0 : Int) ≤ (i : Int) := by omega
        have hi2 : (i : Int) < 2 := by omega
        obtain ⟨S, qs, cs, hS, s0, s1, s2, s3, s4, s5⟩ := l12_at V0 q1 cap1 R qr capr i hlt
        have HS : Hid (S.du.length ≤ 80 ∧ RdD w7 qs S.du) := Lib.hid (by
          rcases hS with ⟨rfl, rfl⟩ | ⟨rfl, rfl⟩
          · exact ⟨Nat.le_trans H64.out (by omega), HDU.out⟩
          · exact ⟨H80.out, HDR7.out⟩)
        have G := HGS.out.next HW.out
        have d0 := G.cell _ _ s0; have d1 := G.cell _ _ s1; have d2 := G.cell _ _ s2; have d3 := G.cell _ _ s3; have d4 := G.cell _ _ s4; have d5 := G.cell _ _ s5
        clear hS s0 s1 s2 s3 s4 s5 G
        have BD := Blk.new wr [.int .i64 S.fl, .int .i64 S.dir, .int .i64 S.door, .slice qs S.du.length cs, .int .i64 S.still, .bool S.late] 26
        change Blk (wr.alloc (.cells #[.int .i64 S.fl, .int .i64 S.dir, .int .i64 S.door, .slice qs S.du.length cs, .int .i64 S.still, .bool S.late] 26)) _ _ at BD
        have hbe := below1' wr (.cells #[.int .i64 S.fl, .int .i64 S.dir, .int .i64 S.door, .slice qs S.du.length cs, .int .i64 S.still, .bool S.late] 26)
        have HW2 := Lib.hid (HW.out.trans (hbe.mono HW.out.size))
        have HBD := Lib.hid BD
        clear BD hbe
        go_upto_region 8 with fail
        clear c0 HW d0 d1 d2 d3 d4 d5 hd
        generalize wr.alloc (.cells #[.int .i64 S.fl, .int .i64 S.dir, .int .i64 S.door, .slice qs S.du.length cs, .int .i64 S.still, .bool S.late] 26) = we at *
        generalize wr.heap.size = g9 at *
        have HB5e := Lib.hid (HB57.out.next HW2.out)
        have HR5 := Lib.hid (HR7.out.next HW2.out)
        have HDS : Hid (RdD we qs S.du) := Lib.hid (HS.out.2.next HW2.out)
        have hz5e := HB5e.out.lt
        have hz9 := HBD.out.lt
        have hk7 := HB5e.out.cell 7 _ rfl
        clear k0 k1 k2 k3 k4 k5 k6 k7
        go_wp2_with fail
        go_loopw [10] (fun v wx => ∃ car : Int, -1 ≤ car ∧ car ≤ (b.cars.length : Int) + 1 ∧ v = .int .i64 car ∧ Below we.heap.size we wx) (fun v _ => ((b.cars.length : Int) + 1 - intOf v).toNat)
        case atStart => exact ⟨-1, by omega, by omega, rfl, Below.refl _ _⟩
        case round =>
          obtain ⟨car, hc0, hc1, rfl, hb⟩ := hrel
          have HX := Lib.hid hb
          have c0 := base_cell HX.out
          clear hb
          by_cases hlc : car ≤ (b.cars.length : Int)
          · go_wp2_with fail
            go_loopw [11] (fun v wx => ∃ p : Int, -1 ≤ p ∧ p ≤ 7 ∧ v = .int .i64 p ∧ Below we.heap.size we wx) (fun v _ => (7 - intOf v).toNat)
            case atStart => exact ⟨-1, by omega, by omega, rfl, HX.out⟩
            case round =>
              clear HX c0
              obtain ⟨p, hp0, hp7, rfl, hb⟩ := hrel
              have HX := Lib.hid hb
              have c0 := base_cell HX.out
              clear hb
              by_cases hlp : p < 7
              · have HC := Lib.hid (coils_any b (some ⟨g, 0, none⟩) cap car p S qs cs wr (by omega) (Nat.le_trans HS.out.1 (by omega)) (HR5.out.next HX.out) (HDS.out.next HX.out))
                have HRC : ∀ W, Below we.heap.size we W → Calls Try.prog 11 #[cvB b (some ⟨g, 0, none⟩) cap, .int .i64 car, .int .i64 p, cvS S qs cs] W fun e w' => e = .returned (cvK (coilV b car p S) (!wiredOn b car p S)) ∧ Below W.heap.size W w' :=
                  fun W hW => refCoils_any b (some ⟨g, 0, none⟩) cap car p S qs cs W (by omega) (Nat.le_trans HS.out.1 (by omega)) HSL.out (HR5.out.next hW) (HDS.out.next hW)
                have HSF := coil_safe b car p S
                have HRC' := Lib.hid HRC; have HSF' := Lib.hid HSF
                clear HRC HSF
                generalize coilV b car p S = kk at *
                generalize (!wiredOn b car p S) = oo at *
                have k0 := (HB5e.out).cell 0 _ rfl
                have k1 := (HB5e.out).cell 1 _ rfl
                have k2 := (HB5e.out).cell 2 _ rfl
                have k3 := (HB5e.out).cell 3 _ rfl
                have k4 := (HB5e.out).cell 4 _ rfl
                have k5 := (HB5e.out).cell 5 _ rfl
                have k6 := (HB5e.out).cell 6 _ rfl
                have k7 := (HB5e.out).cell 7 _ rfl
                have j0 := (HBD.out).cell 0 _ rfl
                have j1 := (HBD.out).cell 1 _ rfl
                have j2 := (HBD.out).cell 2 _ rfl
                have j3 := (HBD.out).cell 3 _ rfl
                have j4 := (HBD.out).cell 4 _ rfl
                have j5 := (HBD.out).cell 5 _ rfl
                go_wp2_with fail
                refine HC.out.mono ?_
                rintro e w8 ⟨rfl, hb8⟩
                have HX8 := Lib.hid (HX.out.trans (hb8.mono HX.out.size))
                have BK := Blk.new w8 [.int .u32 (kk.1.toNat : Int), .int .u32 (kk.2.toNat : Int), .bool oo] 41
                change Blk (w8.alloc (.cells #[.int .u32 (kk.1.toNat : Int), .int .u32 (kk.2.toNat : Int), .bool oo] 41)) _ _ at BK
                have HX9 := Lib.hid (HX8.out.trans ((below1' w8 (.cells #[.int .u32 (kk.1.toNat : Int), .int .u32 (kk.2.toNat : Int), .bool oo] 41)).mono HX8.out.size))
                have HBK := Lib.hid BK
                clear BK hb8 HX8 HX HC c0 k0 k1 k2 k3 k4 k5 k6 k7 j0 j1 j2 j3 j4 j5
                go_upto_region 15 with fail
                generalize w8.alloc (.cells #[.int .u32 (kk.1.toNat : Int), .int .u32 (kk.2.toNat : Int), .bool oo] 41) = w9 at *
                generalize w8.heap.size = g12 at *
                have r0 := (HBK.out).reg 0 _ rfl
                have r1 := (HBK.out).reg 1 _ rfl
                have r2 := (HBK.out).reg 2 _ rfl
                have t0 := (HB5e.out.next HX9.out).reg 0 _ rfl
                have t1 := (HB5e.out.next HX9.out).reg 1 _ rfl
                have t2 := (HB5e.out.next HX9.out).reg 2 _ rfl
                have t3 := (HB5e.out.next HX9.out).reg 3 _ rfl
                have t4 := (HB5e.out.next HX9.out).reg 4 _ rfl
                have t5 := (HB5e.out.next HX9.out).reg 5 _ rfl
                have t6 := (HB5e.out.next HX9.out).reg 6 _ rfl
                have t7 := (HB5e.out.next HX9.out).reg 7 _ rfl
                have u0 := (HBD.out.next HX9.out).reg 0 _ rfl
                have u1 := (HBD.out.next HX9.out).reg 1 _ rfl
                have u2 := (HBD.out.next HX9.out).reg 2 _ rfl
                have u3 := (HBD.out.next HX9.out).reg 3 _ rfl
                have u4 := (HBD.out.next HX9.out).reg 4 _ rfl
                have u5 := (HBD.out.next HX9.out).reg 5 _ rfl
                (refine Grow.wp_region Grow.noPlan Grow.noPlan_stable (by kernel_rfl) (by kernel_rfl) ?_; intro opsq Hopsq)
                repeat (first | (refine Grow.lex_move rfl ?_ rfl ?_; (· first | exact Grow.wanted_none | (rw [Hopsq.out]; rfl)); intro K hK; simp only [Grow.put_lit, Grow.setAt, Grow.eval_lit, Grow.ev]; refine hK _ _ ?_; clear hK K) | (refine Grow.lex_assign rfl ?_ rfl ?_; (· first | exact Grow.wanted_none | (rw [Hopsq.out]; rfl)); intro K hK; simp only [Grow.put_lit, Grow.setAt, Grow.eval_lit, Grow.ev]; refine hK _ _ ?_; clear hK K) | (refine Grow.lex_plain rfl rfl ?_ rfl ?_; (· first | exact Grow.wanted_none | (rw [Hopsq.out]; rfl)); apply Exists.intro; refine ⟨fun wq hCq _ => ?_, ?_⟩; (· (go_wp2_with fail; refine ⟨rfl, Below.refl _ _, ?_⟩; simp only [Grow.getD_lit, Grow.nth]; rfl)); intro K hK; simp only [Grow.put_lit, Grow.setAt]; refine hK _ _ ?_; clear hK K) | (refine Grow.lex_skip ?_ ?_; (· (rw [Hopsq.out]; rfl)); intro K hK; simp only [Grow.put_lit, Grow.setAt]; refine hK _ _ ?_; clear hK K))
                (refine Grow.lex_call ?_ rfl ?_; (· first | exact Grow.wanted_none | (rw [Hopsq.out]; rfl)); apply Exists.intro; apply Exists.intro; refine ⟨fun wq => ?_, ?_⟩; (· (go_simp; exact ⟨rfl, rfl⟩)); apply Exists.intro; refine ⟨fun wq hCq hKq => ?_, ?_⟩; (· exact HRC'.out _ (HX9.out.trans ((Grow.Cl.base hCq).mono HX9.out.size))); intro K hK; simp only [Grow.put_lit, Grow.setAt]; refine hK _ _ ?_; clear hK K)
                repeat (first | (refine Grow.lex_move rfl ?_ rfl ?_; (· first | exact Grow.wanted_none | (rw [Hopsq.out]; rfl)); intro K hK; simp only [Grow.put_lit, Grow.setAt, Grow.eval_lit, Grow.ev]; refine hK _ _ ?_; clear hK K) | (refine Grow.lex_assign rfl ?_ rfl ?_; (· first | exact Grow.wanted_none | (rw [Hopsq.out]; rfl)); intro K hK; simp only [Grow.put_lit, Grow.setAt, Grow.eval_lit, Grow.ev]; refine hK _ _ ?_; clear hK K) | (refine Grow.lex_plain rfl rfl ?_ rfl ?_; (· first | exact Grow.wanted_none | (rw [Hopsq.out]; rfl)); apply Exists.intro; refine ⟨fun wq hCq _ => ?_, ?_⟩; (· (go_wp2_with fail; refine ⟨rfl, Below.refl _ _, ?_⟩; simp only [Grow.getD_lit, Grow.nth]; rfl)); intro K hK; simp only [Grow.put_lit, Grow.setAt]; refine hK _ _ ?_; clear hK K) | (refine Grow.lex_skip ?_ ?_; (· (rw [Hopsq.out]; rfl)); intro K hK; simp only [Grow.put_lit, Grow.setAt]; refine hK _ _ ?_; clear hK K))
                (refine Grow.lex_call ?_ rfl ?_; (· first | exact Grow.wanted_none | (rw [Hopsq.out]; rfl)); apply Exists.intro; apply Exists.intro; refine ⟨fun wq => ?_, ?_⟩; (· (go_simp; exact ⟨rfl, rfl⟩)); apply Exists.intro; refine ⟨fun wq hCq hKq => ?_, ?_⟩; (· exact calls_bool (safe_any p kk oo _) HSF'.out); intro K hK; simp only [Grow.put_lit, Grow.setAt]; refine hK _ _ ?_; clear hK K)
                repeat (first | (refine Grow.lex_move rfl ?_ rfl ?_; (· first | exact Grow.wanted_none | (rw [Hopsq.out]; rfl)); intro K hK; simp only [Grow.put_lit, Grow.setAt, Grow.eval_lit, Grow.ev]; refine hK _ _ ?_; clear hK K) | (refine Grow.lex_assign rfl ?_ rfl ?_; (· first | exact Grow.wanted_none | (rw [Hopsq.out]; rfl)); intro K hK; simp only [Grow.put_lit, Grow.setAt, Grow.eval_lit, Grow.ev]; refine hK _ _ ?_; clear hK K) | (refine Grow.lex_plain rfl rfl ?_ rfl ?_; (· first | exact Grow.wanted_none | (rw [Hopsq.out]; rfl)); apply Exists.intro; refine ⟨fun wq hCq _ => ?_, ?_⟩; (· (go_wp2_with fail; refine ⟨rfl, Below.refl _ _, ?_⟩; simp only [Grow.getD_lit, Grow.nth]; rfl)); intro K hK; simp only [Grow.put_lit, Grow.setAt]; refine hK _ _ ?_; clear hK K) | (refine Grow.lex_skip ?_ ?_; (· (rw [Hopsq.out]; rfl)); intro K hK; simp only [Grow.put_lit, Grow.setAt]; refine hK _ _ ?_; clear hK K))
                (refine Grow.lex_nil ?_; intro wz hbz _; replace hbz := Grow.Cl.base hbz; clear Hopsq opsq)
                have HXz := Lib.hid (HX9.out.trans (hbz.mono HX9.out.size))
                clear hbz HX9 r0 r1 r2 t0 t1 t2 t3 t4 t5 t6 t7 u0 u1 u2 u3 u4 u5
                go_wp2_with fail
                exact ⟨⟨p + 1, by omega, by omega, rfl, HXz.out⟩, by simp [intOf]; omega⟩
              · obtain rfl : p = 7 := by omega
                go_wp2_with fail
                exact ⟨⟨car + 1, by omega, by omega, by go_num, HX.out⟩, by simp [intOf]; omega⟩
          · go_wp2_with fail
            exact ⟨⟨i + 1, by omega, by go_num, HW2.out.trans (HX.out.mono HW2.out.size)⟩, by simp [intOf]; omega⟩
      · obtain rfl : i = 2 := by omega
        go_wp2_with fail
        refine (sane20_any _).mono ?_
        rintro e w9 ⟨rfl, hb9⟩
        go_wp2_with fail
        go_ret
        exact ⟨rfl, HWW.out.trans ((HB7.out.trans ((HW.out.trans (hb9.mono HW.out.size)).mono HB7.out.size)).mono HWW.out.size)⟩
set_option maxHeartbeats 1000000 in
set_option maxRecDepth 100000 in
theorem injectCoils_lifted (os : Os) (started : os.Started) (H : Type) (enc : TypeId × Value → H) :
    ReturnsInHanded {} Try.checked os 3 .any (Rows.injectCoilsSpec.pre6 enc Try.prog Try.f3 Rows.injectCoilsRow.domain false) (Rows.injectCoilsSpec.post enc Try.prog Try.f3 false true false false) := by
  refine law_lifted (C := Try.checked) own laidOut started (by kernel_rfl) Try.func3 4 rfl Try.underlying4 (by kernel_rfl) rfl H enc
    (fun ds h => by match ds, h with | [d0, d1, d2], _ => rfl)
    (ChangeSpec.witness6 (enc := enc) (C := Try.checked) false ⟨#[], #[.agg #[.int .u8 0, .int .u8 0], .slice none 0 0, .agg #[.int .i64 0, .int .i64 0, .int .i64 0, .slice none 0 0, .int .i64 0, .bool false]], []⟩ 8 (by kernel_rfl) (by kernel_rfl) (by kernel_rfl) (by kernel_rfl)) ?_
  intro W base args ds ps hval hA hsz
  have hA' : DataW.TrodAll enc Try.prog W 0 (fun _ => true) true Try.f3.params.toList args.toList ds ps := hA
  have hval' : ∀ (j : Nat) t v, Try.f3.params[j]? = some t → args[j]? = some v → Value.okWide Try.prog W .any base t v := hval
  rw [Try.params3] at hA' hval'
  obtain ⟨v0, vs0, d0, ds0, p0, q0, hargs, rfl, rfl, h0, r0⟩ := trodAll_cons hA'
  obtain ⟨v1, vs1, d1, ds1, p1, q1, rfl, rfl, rfl, h1, r1⟩ := trodAll_cons r0
  obtain ⟨v2, vs2, d2, ds2, p2, q2, rfl, rfl, rfl, h2, r2⟩ := trodAll_cons r1
  obtain ⟨rfl, rfl, rfl⟩ := trodAll_nil r2
  obtain rfl : args = #[v0, v1, v2] := by cases args; simp_all
  obtain ⟨n0, t0, rfl, hn0, ht0⟩ := open_u8x2 (hval' 0 22 v0 rfl rfl) h0
  obtain ⟨l1, q1x, cap1, rfl, hl1, hu1⟩ := open_u8s (hval' 1 23 v1 rfl rfl) h1
  obtain ⟨R2, q2x, cap2, rfl, hr2⟩ := open_bel (hval' 2 26 v2 rfl rfl) h2
  exact coil_walk n0 t0 l1 q1x cap1 R2 q2x cap2 W hn0 ht0 hl1 hu1 hr2

theorem injectCoils_over : Rows.injectCoilsRow.holds Try.pinned (OpenSpec.ofChange Rows.injectCoilsSpec) :=
  OpenClaim.holds_of_wide 3 Try.f3 rfl rfl rfl rfl rfl rfl rfl ⟨rfl, rfl, rfl, rfl, rfl⟩ rfl rfl rfl rfl rfl (by kernel_rfl) Try.func3 (by kernel_rfl)
    (of_decide_eq_true (by kernel_rfl)) (by unfold Func.isWrapper; first | (rw [if_pos (by decide +kernel)]; kernel_rfl) | (rw [if_neg (by decide +kernel)]; exact ⟨rfl, rfl⟩))
    (fun os started H enc _ => injectCoils_lifted os started H enc)

/-- THE STATEMENT. -/
theorem injectCoils_holds : Rows.InjectCoilsSaid := injectCoils_over
#print axioms injectCoils_holds
end Go.Proofs.Ytbhhjlemdpefkaa
