/- InjectLocks: which outputs and which direct commands are permitted in every phase. The law's function answers true at every phase, outputs and command. Conditions: none. -/
import Derived.Test.YtbhhjlemdpefkaaSane20
import Derived.Test.YtbhhjlemdpefkaaFrame
import Derived.RegionTactic
namespace Go.Proofs.Ytbhhjlemdpefkaa
open Go.ChangeShapes Go.WideShapes Go.ChangeAt Go.RowKit
section
variable {H : Type} {enc : TypeId × Value → H} {w : World} {base : Nat} {spare : Nat → Bool} {held : Bool}
theorem u32_nat {n : Int} (h : (Lit.int .u32 n).wf = true) : ∃ u : BitVec 32, n = (u.toNat : Int) := by
  simp only [Lit.wf, Bool.and_eq_true, decide_eq_true_eq] at h
  obtain ⟨h0, h1⟩ := h
  have h1' : n ≤ 4294967295 := h1
  have h0' : 0 ≤ n := h0
  obtain ⟨m, rfl⟩ := Int.eq_ofNat_of_zero_le h0'
  exact ⟨BitVec.ofNat 32 m, by rw [BitVec.toNat_ofNat, Nat.mod_eq_of_lt (by omega)]⟩
theorem open_coils {r : Reach} {b0 : Nat} {v : Value} {d : DataW H} {p : List MemPlace} (hv : Value.okWide Try.prog w r b0 41 v) (h : DataW.Trod enc Try.prog w base spare held 41 v d p) : ∃ (c : CS) (o : Bool), v = cvK c o := by
  obtain ⟨cs, rfl, hsz⟩ := Go.WideShapes.okWide_struct Try.underlying41 hv
  obtain ⟨c0, c1, c2, rfl⟩ := Go.Joins.array3 (hsz.trans (by kernel_rfl : Try.prog.cellsOf 41 = 3))
  obtain ⟨fuel, hf⟩ := h
  obtain ⟨y0, y1, n, hx, _, h0, h1⟩ := Go.ChangeShapes.trod_struct2 Try.underlying41 hf
  have e0 : Try.prog.cellsOf 39 = 2 := by kernel_rfl
  have e1 : Try.prog.cellsOf 4 = 1 := by kernel_rfl
  simp only [e0, e1] at h0 h1
  obtain ⟨z0, z1, n', _, _, g0, g1⟩ := Go.ChangeShapes.trod_struct2 Try.underlying39 h0
  have e2 : Try.prog.cellsOf 37 = 1 := by kernel_rfl
  simp only [e2] at g0 g1
  obtain ⟨a, ha, _, wa⟩ := DataW.trod_int Try.underlying37 g0
  obtain ⟨b, hb, _, wb⟩ := DataW.trod_int Try.underlying37 g1
  obtain ⟨o, ho, _⟩ := DataW.trod_bool Try.underlying4 h1
  obtain ⟨u, rfl⟩ := u32_nat wa
  obtain ⟨z, rfl⟩ := u32_nat wb
  obtain rfl : c0 = .int .u32 (u.toNat : Int) := by simpa [Value.cells] using ha
  obtain rfl : c1 = .int .u32 (z.toNat : Int) := by simpa [Value.cells] using hb
  obtain rfl : c2 = .bool o := by simpa [Value.cells] using ho
  exact ⟨(u, z), o, rfl⟩
end
def l4 (c : CS) (o : Bool) : List Value := [.int .u32 (c.1.toNat : Int), .int .u32 (c.2.toNat : Int), .bool o, .int .u32 0, .int .u32 0, .bool o, .int .u32 (c.1.toNat : Int), .int .u32 (c.2.toNat : Int), .bool false, .int .u32 1, .int .u32 0, .bool false]
theorem l4_at (c : CS) (o : Bool) (i : Nat) (h : i < 4) : ∃ (c' : CS) (o' : Bool), (l4 c o)[i * 3]? = some (.int .u32 (c'.1.toNat : Int)) ∧ (l4 c o)[i * 3 + 1]? = some (.int .u32 (c'.2.toNat : Int)) ∧ (l4 c o)[i * 3 + 2]? = some (.bool o') := by
  match i, h with
  | 0, _ => exact ⟨c, o, rfl, rfl, rfl⟩
  | 1, _ => exact ⟨(0#32, 0#32), o, rfl, rfl, rfl⟩
  | 2, _ => exact ⟨c, false, rfl, rfl, rfl⟩
  | 3, _ => exact ⟨(1#32, 0#32), false, rfl, rfl, rfl⟩
set_option maxHeartbeats 4000000 in
set_option maxRecDepth 100000 in
theorem locks_walk (x : Int) (c : CS) (o : Bool) (k : Int) (w : World) :
    Calls Try.prog 4 #[.int .i64 x, cvK c o, .int .i64 k] w fun e w' => e = .returned (.bool true) ∧ Below w.heap.size w w' := by
  have X0 : Blk (w.alloc (.cells #[.int .u32 (c.1.toNat : Int), .int .u32 (c.2.toNat : Int), .bool o] 41)) w.heap.size [.int .u32 (c.1.toNat : Int), .int .u32 (c.2.toNat : Int), .bool o] := by
    have hx := Blk.new w [.int .u32 (c.1.toNat : Int), .int .u32 (c.2.toNat : Int), .bool o] 41
    exact hx
  have XW : Below w.heap.size w (w.alloc (.cells #[.int .u32 (c.1.toNat : Int), .int .u32 (c.2.toNat : Int), .bool o] 41)) := below1' w _
  have HWW := Lib.hid XW; have HX0 := Lib.hid X0
  clear XW X0
  go_enter Try.func4, Try.ntmps4
  go_wp2_with fail
  generalize (w.alloc (.cells #[.int .u32 (c.1.toNat : Int), .int .u32 (c.2.toNat : Int), .bool o] 41)) = w0 at *
  have HW := Lib.hid (Below.refl w0.heap.size w0)
  have hz0 := HX0.out.lt
  have k0 := (HX0.out).cell 0 _ rfl
  have k1 := (HX0.out).cell 1 _ rfl
  have k2 := (HX0.out).cell 2 _ rfl
  go_loopw [7] (fun v wr => ∃ p : Int, -1 ≤ p ∧ p ≤ 7 ∧ v = .int .i64 p ∧ Below w0.heap.size w0 wr) (fun v _ => (7 - intOf v).toNat)
  case atStart => exact ⟨-1, by omega, by omega, rfl, HW.out⟩
  case round =>
    clear HW
    obtain ⟨p, hp0, hp7, rfl, hb⟩ := hrel
    have HW := Lib.hid hb
    clear hb
    have c0 := base_cell HW.out
    by_cases hlt : p < 7
    · go_wp2_with fail
      generalize hwr : wr = wo at *
      clear hwr
      go_loopw [8] (fun v wr => ∃ r : Int, -1 ≤ r ∧ r ≤ 7 ∧ v = .int .i64 r ∧ Below w0.heap.size w0 wr) (fun v _ => (7 - intOf v).toNat)
      case atStart => exact ⟨-1, by omega, by omega, rfl, HW.out⟩
      case round =>
        clear HW c0
        obtain ⟨r, hr0, hr7, rfl, hb⟩ := hrel
        have HW := Lib.hid hb
        clear hb
        have c0 := base_cell HW.out
        by_cases hlt2 : r < 7
        · go_wp2_with fail
          refine (allowed_any p r _).mono ?_
          rintro e w3 ⟨rfl, hbn⟩
          have HWn := Lib.hid (HW.out.trans (hbn.mono HW.out.size))
          try clear c0
          clear HW hbn
          have HW := HWn
          clear HWn
          have c0 := base_cell HW.out
          go_wp2_with fail
          refine (refAllowed_any p r _).mono ?_
          rintro e w4 ⟨rfl, hbn⟩
          have HWn := Lib.hid (HW.out.trans (hbn.mono HW.out.size))
          try clear c0
          clear HW hbn
          have HW := HWn
          clear HWn
          have c0 := base_cell HW.out
          go_wp2_with fail
          exact ⟨⟨r + 1, by omega, by omega, rfl, HW.out⟩, by simp [intOf]; omega⟩
        · obtain rfl : r = 7 := by omega
          have B9 := Blk.new wr (l4 c o) 41
          have hbe := below1' wr (.cells (l4 c o).toArray 41)
          change Blk (wr.alloc (.cells #[.int .u32 (c.1.toNat : Int), .int .u32 (c.2.toNat : Int), .bool o, .int .u32 0, .int .u32 0, .bool o, .int .u32 (c.1.toNat : Int), .int .u32 (c.2.toNat : Int), .bool false, .int .u32 1, .int .u32 0, .bool false] 41)) _ _ at B9
          change Below _ _ (wr.alloc (.cells #[.int .u32 (c.1.toNat : Int), .int .u32 (c.2.toNat : Int), .bool o, .int .u32 0, .int .u32 0, .bool o, .int .u32 (c.1.toNat : Int), .int .u32 (c.2.toNat : Int), .bool false, .int .u32 1, .int .u32 0, .bool false] 41)) at hbe
          have hg9 := HW.out.size
          have HW2 := Lib.hid (HW.out.trans (hbe.mono HW.out.size))
          have HB := Lib.hid B9
          clear B9 hbe
          go_wp2_with fail
          clear c0 HW
          generalize hwd : wr.alloc (.cells #[.int .u32 (c.1.toNat : Int), .int .u32 (c.2.toNat : Int), .bool o, .int .u32 0, .int .u32 0, .bool o, .int .u32 (c.1.toNat : Int), .int .u32 (c.2.toNat : Int), .bool false, .int .u32 1, .int .u32 0, .bool false] 41) = wd at *
          clear hwd
          generalize wr.heap.size = g9 at *
          go_loopw [37] (fun v wr => ∃ i : Nat, i ≤ 4 ∧ v = .int .i64 i ∧ Blk wr g9 (l4 c o) ∧ Below w0.heap.size w0 wr) (fun v _ => 4 - (intOf v).toNat)
          case atStart => exact ⟨0, by omega, rfl, HB.out, HW2.out⟩
          case round =>
            clear HW2 HB
            obtain ⟨i, hi, rfl, B, hb⟩ := hrel
            have HW := Lib.hid hb
            have HB := Lib.hid B
            have c0 := base_cell HW.out
            clear hb B
            by_cases hlt3 : i < 4
            · obtain ⟨c', o', h0, h1, h2⟩ := l4_at c o i hlt3
              have d0 := HB.out.cell _ _ h0
              have d1 := HB.out.cell _ _ h1
              have d2 := HB.out.cell _ _ h2
              have hd : decide ((i : Int) < 4) = true := by simp; omega
              have hi0 : (0 : Int) ≤ (i : Int) := by omega
              have hi4 : (i : Int) < 4 := by omega
              have BD := Blk.new wr [.int .u32 (c'.1.toNat : Int), .int .u32 (c'.2.toNat : Int), .bool o'] 41
              change Blk (wr.alloc (.cells #[.int .u32 (c'.1.toNat : Int), .int .u32 (c'.2.toNat : Int), .bool o'] 41)) _ _ at BD
              have hbe := below1' wr (.cells #[.int .u32 (c'.1.toNat : Int), .int .u32 (c'.2.toNat : Int), .bool o'] 41)
              have HW2 := Lib.hid (HW.out.trans (hbe.mono HW.out.size))
              have HB2 := Lib.hid (HB.out.next hbe)
              have HBD := Lib.hid BD
              clear BD hbe h0 h1 h2
              go_upto_region 12 with fail
              clear c0 HW HB d0 d1 d2 hd
              generalize hwd : wr.alloc (.cells #[.int .u32 (c'.1.toNat : Int), .int .u32 (c'.2.toNat : Int), .bool o'] 41) = we at *
              clear hwd
              generalize wr.heap.size = g8 at *
              have r0 := (HBD.out).reg 0 _ rfl
              have r1 := (HBD.out).reg 1 _ rfl
              have r2 := (HBD.out).reg 2 _ rfl
              (refine Grow.wp_region Grow.noPlan Grow.noPlan_stable (by kernel_rfl) (by kernel_rfl) ?_; intro opsq Hopsq)
              repeat (first | (refine Grow.lex_move rfl ?_ rfl ?_; (· first | exact Grow.wanted_none | (rw [Hopsq.out]; rfl)); intro K hK; simp only [Grow.put_lit, Grow.setAt, Grow.eval_lit, Grow.ev]; refine hK _ _ ?_; clear hK K) | (refine Grow.lex_assign rfl ?_ rfl ?_; (· first | exact Grow.wanted_none | (rw [Hopsq.out]; rfl)); intro K hK; simp only [Grow.put_lit, Grow.setAt, Grow.eval_lit, Grow.ev]; refine hK _ _ ?_; clear hK K) | (refine Grow.lex_plain rfl rfl ?_ rfl ?_; (· first | exact Grow.wanted_none | (rw [Hopsq.out]; rfl)); apply Exists.intro; refine ⟨fun wq hCq _ => ?_, ?_⟩; (· (go_wp2_with fail; refine ⟨rfl, Below.refl _ _, ?_⟩; simp only [Grow.getD_lit, Grow.nth]; rfl)); intro K hK; simp only [Grow.put_lit, Grow.setAt]; refine hK _ _ ?_; clear hK K) | (refine Grow.lex_skip ?_ ?_; (· (rw [Hopsq.out]; rfl)); intro K hK; simp only [Grow.put_lit, Grow.setAt]; refine hK _ _ ?_; clear hK K))
              (refine Grow.lex_call ?_ rfl ?_; (· first | exact Grow.wanted_none | (rw [Hopsq.out]; rfl)); apply Exists.intro; apply Exists.intro; refine ⟨fun wq => ?_, ?_⟩; (· (go_simp; exact ⟨rfl, rfl⟩)); apply Exists.intro; refine ⟨fun wq hCq hKq => ?_, ?_⟩; (· exact safe_any p c' o' _); intro K hK; simp only [Grow.put_lit, Grow.setAt]; refine hK _ _ ?_; clear hK K)
              repeat (first | (refine Grow.lex_move rfl ?_ rfl ?_; (· first | exact Grow.wanted_none | (rw [Hopsq.out]; rfl)); intro K hK; simp only [Grow.put_lit, Grow.setAt, Grow.eval_lit, Grow.ev]; refine hK _ _ ?_; clear hK K) | (refine Grow.lex_assign rfl ?_ rfl ?_; (· first | exact Grow.wanted_none | (rw [Hopsq.out]; rfl)); intro K hK; simp only [Grow.put_lit, Grow.setAt, Grow.eval_lit, Grow.ev]; refine hK _ _ ?_; clear hK K) | (refine Grow.lex_plain rfl rfl ?_ rfl ?_; (· first | exact Grow.wanted_none | (rw [Hopsq.out]; rfl)); apply Exists.intro; refine ⟨fun wq hCq _ => ?_, ?_⟩; (· (go_wp2_with fail; refine ⟨rfl, Below.refl _ _, ?_⟩; simp only [Grow.getD_lit, Grow.nth]; rfl)); intro K hK; simp only [Grow.put_lit, Grow.setAt]; refine hK _ _ ?_; clear hK K) | (refine Grow.lex_skip ?_ ?_; (· (rw [Hopsq.out]; rfl)); intro K hK; simp only [Grow.put_lit, Grow.setAt]; refine hK _ _ ?_; clear hK K))
              (refine Grow.lex_call ?_ rfl ?_; (· first | exact Grow.wanted_none | (rw [Hopsq.out]; rfl)); apply Exists.intro; apply Exists.intro; refine ⟨fun wq => ?_, ?_⟩; (· (go_simp; exact ⟨rfl, rfl⟩)); apply Exists.intro; refine ⟨fun wq hCq hKq => ?_, ?_⟩; (· exact refSafe_any p c' o' _); intro K hK; simp only [Grow.put_lit, Grow.setAt]; refine hK _ _ ?_; clear hK K)
              repeat (first | (refine Grow.lex_move rfl ?_ rfl ?_; (· first | exact Grow.wanted_none | (rw [Hopsq.out]; rfl)); intro K hK; simp only [Grow.put_lit, Grow.setAt, Grow.eval_lit, Grow.ev]; refine hK _ _ ?_; clear hK K) | (refine Grow.lex_assign rfl ?_ rfl ?_; (· first | exact Grow.wanted_none | (rw [Hopsq.out]; rfl)); intro K hK; simp only [Grow.put_lit, Grow.setAt, Grow.eval_lit, Grow.ev]; refine hK _ _ ?_; clear hK K) | (refine Grow.lex_plain rfl rfl ?_ rfl ?_; (· first | exact Grow.wanted_none | (rw [Hopsq.out]; rfl)); apply Exists.intro; refine ⟨fun wq hCq _ => ?_, ?_⟩; (· (go_wp2_with fail; refine ⟨rfl, Below.refl _ _, ?_⟩; simp only [Grow.getD_lit, Grow.nth]; rfl)); intro K hK; simp only [Grow.put_lit, Grow.setAt]; refine hK _ _ ?_; clear hK K) | (refine Grow.lex_skip ?_ ?_; (· (rw [Hopsq.out]; rfl)); intro K hK; simp only [Grow.put_lit, Grow.setAt]; refine hK _ _ ?_; clear hK K))
              (refine Grow.lex_nil ?_; intro w7 hb7 _; replace hb7 := Grow.Cl.base hb7; clear Hopsq opsq)
              have HW3 := Lib.hid (HW2.out.trans (hb7.mono HW2.out.size))
              have HB3 := Lib.hid (HB2.out.next hb7)
              clear hb7 HW2 HB2 r0 r1 r2 HBD
              go_wp2_with fail
              exact ⟨⟨i + 1, by omega, by go_num, HB3.out, HW3.out⟩, by simp [intOf]; omega⟩
            · obtain rfl : i = 4 := by omega
              go_wp2_with fail
              exact ⟨⟨p + 1, by omega, by omega, rfl, HW.out⟩, by simp [intOf]; omega⟩
    · obtain rfl : p = 7 := by omega
      go_upto_region 15 with fail
      have r0 := ((HX0.out.later HW.out hz0)).reg 0 _ rfl
      have r1 := ((HX0.out.later HW.out hz0)).reg 1 _ rfl
      have r2 := ((HX0.out.later HW.out hz0)).reg 2 _ rfl
      clear c0 hp0 hp7 hlt k0 k1 k2
      (refine Grow.wp_region Grow.noPlan Grow.noPlan_stable (by kernel_rfl) (by kernel_rfl) ?_; intro opsq Hopsq)
      repeat (first | (refine Grow.lex_move rfl ?_ rfl ?_; (· first | exact Grow.wanted_none | (rw [Hopsq.out]; rfl)); intro K hK; simp only [Grow.put_lit, Grow.setAt, Grow.eval_lit, Grow.ev]; refine hK _ _ ?_; clear hK K) | (refine Grow.lex_assign rfl ?_ rfl ?_; (· first | exact Grow.wanted_none | (rw [Hopsq.out]; rfl)); intro K hK; simp only [Grow.put_lit, Grow.setAt, Grow.eval_lit, Grow.ev]; refine hK _ _ ?_; clear hK K) | (refine Grow.lex_plain rfl rfl ?_ rfl ?_; (· first | exact Grow.wanted_none | (rw [Hopsq.out]; rfl)); apply Exists.intro; refine ⟨fun wq hCq _ => ?_, ?_⟩; (· (go_wp2_with fail; refine ⟨rfl, Below.refl _ _, ?_⟩; simp only [Grow.getD_lit, Grow.nth]; rfl)); intro K hK; simp only [Grow.put_lit, Grow.setAt]; refine hK _ _ ?_; clear hK K) | (refine Grow.lex_skip ?_ ?_; (· (rw [Hopsq.out]; rfl)); intro K hK; simp only [Grow.put_lit, Grow.setAt]; refine hK _ _ ?_; clear hK K))
      (refine Grow.lex_call ?_ rfl ?_; (· first | exact Grow.wanted_none | (rw [Hopsq.out]; rfl)); apply Exists.intro; apply Exists.intro; refine ⟨fun wq => ?_, ?_⟩; (· (go_simp; exact ⟨rfl, rfl⟩)); apply Exists.intro; refine ⟨fun wq hCq hKq => ?_, ?_⟩; (· exact safe_any x c o _); intro K hK; simp only [Grow.put_lit, Grow.setAt]; refine hK _ _ ?_; clear hK K)
      repeat (first | (refine Grow.lex_move rfl ?_ rfl ?_; (· first | exact Grow.wanted_none | (rw [Hopsq.out]; rfl)); intro K hK; simp only [Grow.put_lit, Grow.setAt, Grow.eval_lit, Grow.ev]; refine hK _ _ ?_; clear hK K) | (refine Grow.lex_assign rfl ?_ rfl ?_; (· first | exact Grow.wanted_none | (rw [Hopsq.out]; rfl)); intro K hK; simp only [Grow.put_lit, Grow.setAt, Grow.eval_lit, Grow.ev]; refine hK _ _ ?_; clear hK K) | (refine Grow.lex_plain rfl rfl ?_ rfl ?_; (· first | exact Grow.wanted_none | (rw [Hopsq.out]; rfl)); apply Exists.intro; refine ⟨fun wq hCq _ => ?_, ?_⟩; (· (go_wp2_with fail; refine ⟨rfl, Below.refl _ _, ?_⟩; simp only [Grow.getD_lit, Grow.nth]; rfl)); intro K hK; simp only [Grow.put_lit, Grow.setAt]; refine hK _ _ ?_; clear hK K) | (refine Grow.lex_skip ?_ ?_; (· (rw [Hopsq.out]; rfl)); intro K hK; simp only [Grow.put_lit, Grow.setAt]; refine hK _ _ ?_; clear hK K))
      (refine Grow.lex_call ?_ rfl ?_; (· first | exact Grow.wanted_none | (rw [Hopsq.out]; rfl)); apply Exists.intro; apply Exists.intro; refine ⟨fun wq => ?_, ?_⟩; (· (go_simp; exact ⟨rfl, rfl⟩)); apply Exists.intro; refine ⟨fun wq hCq hKq => ?_, ?_⟩; (· exact refSafe_any x c o _); intro K hK; simp only [Grow.put_lit, Grow.setAt]; refine hK _ _ ?_; clear hK K)
      repeat (first | (refine Grow.lex_move rfl ?_ rfl ?_; (· first | exact Grow.wanted_none | (rw [Hopsq.out]; rfl)); intro K hK; simp only [Grow.put_lit, Grow.setAt, Grow.eval_lit, Grow.ev]; refine hK _ _ ?_; clear hK K) | (refine Grow.lex_assign rfl ?_ rfl ?_; (· first | exact Grow.wanted_none | (rw [Hopsq.out]; rfl)); intro K hK; simp only [Grow.put_lit, Grow.setAt, Grow.eval_lit, Grow.ev]; refine hK _ _ ?_; clear hK K) | (refine Grow.lex_plain rfl rfl ?_ rfl ?_; (· first | exact Grow.wanted_none | (rw [Hopsq.out]; rfl)); apply Exists.intro; refine ⟨fun wq hCq _ => ?_, ?_⟩; (· (go_wp2_with fail; refine ⟨rfl, Below.refl _ _, ?_⟩; simp only [Grow.getD_lit, Grow.nth]; rfl)); intro K hK; simp only [Grow.put_lit, Grow.setAt]; refine hK _ _ ?_; clear hK K) | (refine Grow.lex_skip ?_ ?_; (· (rw [Hopsq.out]; rfl)); intro K hK; simp only [Grow.put_lit, Grow.setAt]; refine hK _ _ ?_; clear hK K))
      (refine Grow.lex_call ?_ rfl ?_; (· first | exact Grow.wanted_none | (rw [Hopsq.out]; rfl)); apply Exists.intro; apply Exists.intro; refine ⟨fun wq => ?_, ?_⟩; (· (go_simp; exact ⟨rfl, rfl⟩)); apply Exists.intro; refine ⟨fun wq hCq hKq => ?_, ?_⟩; (· exact allowed_any x k _); intro K hK; simp only [Grow.put_lit, Grow.setAt]; refine hK _ _ ?_; clear hK K)
      repeat (first | (refine Grow.lex_move rfl ?_ rfl ?_; (· first | exact Grow.wanted_none | (rw [Hopsq.out]; rfl)); intro K hK; simp only [Grow.put_lit, Grow.setAt, Grow.eval_lit, Grow.ev]; refine hK _ _ ?_; clear hK K) | (refine Grow.lex_assign rfl ?_ rfl ?_; (· first | exact Grow.wanted_none | (rw [Hopsq.out]; rfl)); intro K hK; simp only [Grow.put_lit, Grow.setAt, Grow.eval_lit, Grow.ev]; refine hK _ _ ?_; clear hK K) | (refine Grow.lex_plain rfl rfl ?_ rfl ?_; (· first | exact Grow.wanted_none | (rw [Hopsq.out]; rfl)); apply Exists.intro; refine ⟨fun wq hCq _ => ?_, ?_⟩; (· (go_wp2_with fail; refine ⟨rfl, Below.refl _ _, ?_⟩; simp only [Grow.getD_lit, Grow.nth]; rfl)); intro K hK; simp only [Grow.put_lit, Grow.setAt]; refine hK _ _ ?_; clear hK K) | (refine Grow.lex_skip ?_ ?_; (· (rw [Hopsq.out]; rfl)); intro K hK; simp only [Grow.put_lit, Grow.setAt]; refine hK _ _ ?_; clear hK K))
      (refine Grow.lex_call ?_ rfl ?_; (· first | exact Grow.wanted_none | (rw [Hopsq.out]; rfl)); apply Exists.intro; apply Exists.intro; refine ⟨fun wq => ?_, ?_⟩; (· (go_simp; exact ⟨rfl, rfl⟩)); apply Exists.intro; refine ⟨fun wq hCq hKq => ?_, ?_⟩; (· exact refAllowed_any x k _); intro K hK; simp only [Grow.put_lit, Grow.setAt]; refine hK _ _ ?_; clear hK K)
      repeat (first | (refine Grow.lex_move rfl ?_ rfl ?_; (· first | exact Grow.wanted_none | (rw [Hopsq.out]; rfl)); intro K hK; simp only [Grow.put_lit, Grow.setAt, Grow.eval_lit, Grow.ev]; refine hK _ _ ?_; clear hK K) | (refine Grow.lex_assign rfl ?_ rfl ?_; (· first | exact Grow.wanted_none | (rw [Hopsq.out]; rfl)); intro K hK; simp only [Grow.put_lit, Grow.setAt, Grow.eval_lit, Grow.ev]; refine hK _ _ ?_; clear hK K) | (refine Grow.lex_plain rfl rfl ?_ rfl ?_; (· first | exact Grow.wanted_none | (rw [Hopsq.out]; rfl)); apply Exists.intro; refine ⟨fun wq hCq _ => ?_, ?_⟩; (· (go_wp2_with fail; refine ⟨rfl, Below.refl _ _, ?_⟩; simp only [Grow.getD_lit, Grow.nth]; rfl)); intro K hK; simp only [Grow.put_lit, Grow.setAt]; refine hK _ _ ?_; clear hK K) | (refine Grow.lex_skip ?_ ?_; (· (rw [Hopsq.out]; rfl)); intro K hK; simp only [Grow.put_lit, Grow.setAt]; refine hK _ _ ?_; clear hK K))
      (refine Grow.lex_call ?_ rfl ?_; (· first | exact Grow.wanted_none | (rw [Hopsq.out]; rfl)); apply Exists.intro; apply Exists.intro; refine ⟨fun wq => ?_, ?_⟩; (· (go_simp; exact ⟨rfl, rfl⟩)); apply Exists.intro; refine ⟨fun wq hCq hKq => ?_, ?_⟩; (· exact sane20_any _); intro K hK; simp only [Grow.put_lit, Grow.setAt]; refine hK _ _ ?_; clear hK K)
      repeat (first | (refine Grow.lex_move rfl ?_ rfl ?_; (· first | exact Grow.wanted_none | (rw [Hopsq.out]; rfl)); intro K hK; simp only [Grow.put_lit, Grow.setAt, Grow.eval_lit, Grow.ev]; refine hK _ _ ?_; clear hK K) | (refine Grow.lex_assign rfl ?_ rfl ?_; (· first | exact Grow.wanted_none | (rw [Hopsq.out]; rfl)); intro K hK; simp only [Grow.put_lit, Grow.setAt, Grow.eval_lit, Grow.ev]; refine hK _ _ ?_; clear hK K) | (refine Grow.lex_plain rfl rfl ?_ rfl ?_; (· first | exact Grow.wanted_none | (rw [Hopsq.out]; rfl)); apply Exists.intro; refine ⟨fun wq hCq _ => ?_, ?_⟩; (· (go_wp2_with fail; refine ⟨rfl, Below.refl _ _, ?_⟩; simp only [Grow.getD_lit, Grow.nth]; rfl)); intro K hK; simp only [Grow.put_lit, Grow.setAt]; refine hK _ _ ?_; clear hK K) | (refine Grow.lex_skip ?_ ?_; (· (rw [Hopsq.out]; rfl)); intro K hK; simp only [Grow.put_lit, Grow.setAt]; refine hK _ _ ?_; clear hK K))
      (refine Grow.lex_nil ?_; intro w7 hb7 _; replace hb7 := Grow.Cl.base hb7; clear Hopsq opsq)
      go_wp2_with fail
      go_ret
      exact ⟨rfl, HWW.out.trans ((HW.out.trans (hb7.mono HW.out.size)).mono HWW.out.size)⟩
set_option maxHeartbeats 1000000 in
set_option maxRecDepth 100000 in
theorem injectLocks_lifted (os : Os) (started : os.Started) (H : Type) (enc : TypeId × Value → H) :
    ReturnsInHanded {} Try.checked os 4 .any (Rows.injectLocksSpec.pre6 enc Try.prog Try.f4 Rows.injectLocksRow.domain false) (Rows.injectLocksSpec.post enc Try.prog Try.f4 false true false false) := by
  refine law_lifted (C := Try.checked) own laidOut started (by kernel_rfl) Try.func4 4 rfl Try.underlying4 (by kernel_rfl) rfl H enc
    (fun ds h => by match ds, h with | [d0, d1, d2], _ => rfl)
    (ChangeSpec.witness6 (enc := enc) (C := Try.checked) false ⟨#[], #[.int .i64 0, .agg #[.int .u32 0, .int .u32 0, .bool false], .int .i64 0], []⟩ 8 (by kernel_rfl) (by kernel_rfl) (by kernel_rfl) (by kernel_rfl)) ?_
  intro W base args ds ps hval hA hsz
  have hA' : DataW.TrodAll enc Try.prog W 0 (fun _ => true) true Try.f4.params.toList args.toList ds ps := hA
  have hval' : ∀ (j : Nat) t v, Try.f4.params[j]? = some t → args[j]? = some v → Value.okWide Try.prog W .any base t v := hval
  rw [Try.params4] at hA' hval'
  obtain ⟨v0, vs0, d0, ds0, p0, q0, hargs, rfl, rfl, h0, r0⟩ := trodAll_cons hA'
  obtain ⟨v1, vs1, d1, ds1, p1, q1, rfl, rfl, rfl, h1, r1⟩ := trodAll_cons r0
  obtain ⟨v2, vs2, d2, ds2, p2, q2, rfl, rfl, rfl, h2, r2⟩ := trodAll_cons r1
  obtain ⟨rfl, rfl, rfl⟩ := trodAll_nil r2
  obtain rfl : args = #[v0, v1, v2] := by cases args; simp_all
  obtain ⟨x0, rfl, rfl, rfl, wx0⟩ := open_int Try.underlying3 (hval' 0 3 v0 rfl rfl) h0
  obtain ⟨c1, o1, rfl⟩ := open_coils (hval' 1 41 v1 rfl rfl) h1
  obtain ⟨x2, rfl, rfl, rfl, wx2⟩ := open_int Try.underlying3 (hval' 2 3 v2 rfl rfl) h2
  exact locks_walk x0 c1 o1 x2 W

theorem injectLocks_over : Rows.injectLocksRow.holds Try.pinned (OpenSpec.ofChange Rows.injectLocksSpec) :=
  OpenClaim.holds_of_wide 4 Try.f4 rfl rfl rfl rfl rfl rfl rfl ⟨rfl, rfl, rfl, rfl, rfl⟩ rfl rfl rfl rfl rfl (by kernel_rfl) Try.func4 (by kernel_rfl)
    (of_decide_eq_true (by kernel_rfl)) (by unfold Func.isWrapper; first | (rw [if_pos (by decide +kernel)]; kernel_rfl) | (rw [if_neg (by decide +kernel)]; exact ⟨rfl, rfl⟩))
    (fun os started H enc _ => injectLocks_lifted os started H enc)

/-- THE STATEMENT. -/
theorem injectLocks_holds : Rows.InjectLocksSaid := injectLocks_over
#print axioms injectLocks_holds
end Go.Proofs.Ytbhhjlemdpefkaa
