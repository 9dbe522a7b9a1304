/- The walk over overlaylaw18.Trace: every mark of the made trace is an observation of the building. Conditions: a building of 2 to 32 floors; bytes that can be read. -/
import Derived.Test.YtfmmiafdlfdfoaaZValid18
namespace Go.Proofs.Ytfmmiafdlfdfoaa
open Go.RowKit
/-- A mark: the injected calls, the observation. -/
abbrev MarkV : Type := CS × ObsV
abbrev MarkV.cells (m : MarkV) : List Value := [.int .u32 (m.1.1.toNat : Int), .int .u32 (m.1.2.toNat : Int), .int .i64 m.2.1, .int .i64 m.2.2.1, .int .i64 m.2.2.2]
abbrev cvM (m : MarkV) : Value := .agg #[.int .u32 (m.1.1.toNat : Int), .int .u32 (m.1.2.toNat : Int), .int .i64 m.2.1, .int .i64 m.2.2.1, .int .i64 m.2.2.2]
def markCells (l : List MarkV) : List Value := l.flatMap MarkV.cells
theorem markCells_snoc (l : List MarkV) (m : MarkV) : markCells (l ++ [m]) = markCells l ++ m.cells := by simp [markCells]
theorem mark_one (m : MarkV) : ∀ u ∈ m.cells, u.oneCell' = true := by
  intro u hu
  simp only [MarkV.cells, List.mem_cons, List.not_mem_nil, or_false] at hu
  rcases hu with rfl | rfl | rfl | rfl | rfl <;> rfl
theorem mark_new (w : World) (m : MarkV) (t : TypeId) : ∀ j u, m.cells[j]? = some u → (w.alloc (.cells #[.int .u32 (m.1.1.toNat : Int), .int .u32 (m.1.2.toNat : Int), .int .i64 m.2.1, .int .i64 m.2.2.1, .int .i64 m.2.2.2] t)).cell? ((⟨w.heap.size, 0, none⟩ : Addr).add j) = some u :=
  blk_news (Blk.new w m.cells t)
theorem infoM : (Try.prog.info? 51).map (fun i => (i.zero, i.size, i.bytes)) = some (some (.agg #[.int .u32 0, .int .u32 0, .int .i64 0, .int .i64 0, .int .i64 0]), 5, 32) := by kernel_rfl
/-- The slice from q on holds the bytes. -/
def RdU (w : World) (q : Option Addr) (l : List Nat) : Prop := ∀ (i x : Nat), l[i]? = some x → x < 256 ∧ ∃ A, q = some A ∧ A.block < w.heap.size ∧ w.cell? (A.add i) = some (.int .u8 x)
theorem RdU.next {w w' : World} {q : Option Addr} {l : List Nat} (h : RdU w q l) (hb : Below w.heap.size w w') : RdU w' q l := by
  intro i c hc
  obtain ⟨hx, A, hq, hA, hcell⟩ := h i c hc
  refine ⟨hx, A, hq, Nat.lt_of_lt_of_le hA hb.size, ?_⟩
  rw [hb.cell (by rw [addr_block]; exact hA)]
  exact hcell
def ptrS (g : Nat) : Value := .pointer (some ⟨g, 0, none⟩)
theorem ptrS_inj (x y : Nat) (h : ptrS x = ptrS y) : x = y := by unfold ptrS at h; simpa using h
theorem u8_nat {e : Int} (h0 : 0 ≤ e) (h1 : e < 4294967296) : ∃ u : BitVec 32, e = (u.toNat : Int) := by
  obtain ⟨m, rfl⟩ := Int.eq_ofNat_of_zero_le h0
  exact ⟨BitVec.ofNat 32 m, by rw [BitVec.toNat_ofNat, Nat.mod_eq_of_lt (by omega)]⟩
set_option maxHeartbeats 4000000 in
set_option maxRecDepth 100000 in
theorem trace_any (b : BldV) (q : Option Addr) (cap : Nat) (l : List Nat) (ql : Option Addr) (capl : Nat) (w : World) (hl : l.length ≤ maxLen) (h2 : 2 ≤ b.fl) (h32 : b.fl ≤ 32) (hu : RdU w ql l) :
    Calls Try.prog 11 #[cvB b q cap, .slice ql l.length capl] w fun e w' => ∃ (v : Value) (L : List MarkV), e = .returned v ∧ L.length ≤ 150 ∧ (∀ m ∈ L, obsB b.fl m.2 = true) ∧ w'.ownsRow (w.heap.size + 1) 51 5 v L.length (markCells L) ∧ Below w.heap.size w w' := by
  obtain ⟨i0, hi, hy0, hy1, hy2⟩ := info_parts infoM
  have Hi := Lib.hid hi; have Hz0 := Lib.hid hy0; have Hz1 := Lib.hid hy1; have Hz2 := Lib.hid hy2
  clear hi hy0 hy1 hy2
  unfold maxLen at hl
  obtain ⟨n, hn⟩ : ∃ n, n = l.length := ⟨_, rfl⟩
  have X0 : Blk (w.alloc (.cells #[.int .i64 b.fl, .int .i64 b.deb, .int .i64 b.room, .int .i64 b.park, .float .f64 b.em, .float .f64 b.fu, .float .f64 b.ov, .slice q b.cars.length cap] 29)) w.heap.size [.int .i64 b.fl, .int .i64 b.deb, .int .i64 b.room, .int .i64 b.park, .float .f64 b.em, .float .f64 b.fu, .float .f64 b.ov, .slice q b.cars.length cap] := by
    have hx := Blk.new w [.int .i64 b.fl, .int .i64 b.deb, .int .i64 b.room, .int .i64 b.park, .float .f64 b.em, .float .f64 b.fu, .float .f64 b.ov, .slice q b.cars.length cap] 29
    exact hx
  have XW : Below w.heap.size w (w.alloc (.cells #[.int .i64 b.fl, .int .i64 b.deb, .int .i64 b.room, .int .i64 b.park, .float .f64 b.em, .float .f64 b.fu, .float .f64 b.ov, .slice q b.cars.length cap] 29)) := below1' w _
  have HWW := Lib.hid XW; have HX0 := Lib.hid X0
  clear XW X0
  rw [← hn] at hl ⊢
  have HN := Lib.hid hn
  have HU := Lib.hid hu
  clear hn hu
  go_enter Try.func11, Try.ntmps11
  go_upto_region 2 with fail
  have hz : (w.alloc (.cells #[.int .i64 b.fl, .int .i64 b.deb, .int .i64 b.room, .int .i64 b.park, .float .f64 b.em, .float .f64 b.fu, .float .f64 b.ov, .slice q b.cars.length cap] 29)).heap.size = w.heap.size + 1 := by simp
  have HZ := Lib.hid hz
  clear hz
  generalize (w.alloc (.cells #[.int .i64 b.fl, .int .i64 b.deb, .int .i64 b.room, .int .i64 b.park, .float .f64 b.em, .float .f64 b.fu, .float .f64 b.ov, .slice q b.cars.length cap] 29)) = w0 at *
  have HW := Lib.hid (Below.refl w0.heap.size w0)
  have hz0 := HX0.out.lt
  have k0 := HX0.out.cell 0 _ rfl
  go_wp2_with fail
  go_loopw [5, 6] (fun v5 v6 wr => ∃ (i : Nat) (L : List MarkV), i ≤ n ∧ i ≤ 150 ∧ v6 = .int .i64 i ∧ L.length = i ∧ (∀ m ∈ L, obsB b.fl m.2 = true) ∧ wr.ownsRow (w.heap.size + 1) 51 5 v5 L.length (markCells L) ∧ Below w0.heap.size w0 wr) (fun _ v _ => n - (intOf v).toNat)
  case atStart => exact ⟨0, [], by omega, by omega, rfl, rfl, by simp, World.ownsRow_nil _ _ _ _, HW.out⟩
  case round =>
    clear HW
    obtain ⟨i, L, hi1, hi2, rfl, hLi, hobs, hown, hb⟩ := hrel
    have HW := Lib.hid hb
    have HO := Lib.hid hown
    have HL := Lib.hid hLi
    have HOB := Lib.hid hobs
    have hL150 : L.length ≤ 150 := by omega
    clear hb hown hLi hobs
    by_cases hlt : i < n ∧ i < 150
    · obtain ⟨hlt1, hlt2⟩ := hlt
      have hd : decide ((i : Int) < (n : Int)) = true := by simp; omega
      have hd2 : decide ((i : Int) < 150) = true := by simp; omega
      obtain ⟨x, hx⟩ : ∃ x, l[i]? = some x := ⟨_, List.getElem?_eq_getElem (by rw [← HN.out]; exact hlt1)⟩
      obtain ⟨hx256, A, rfl, hA, hcell⟩ := HU.out i x hx
      have HCX : Hid (∀ W, Below w.heap.size w W → W.cell? (A.add i) = some (.int .u8 x)) := Lib.hid fun W hW => cell_later hW hcell
      clear hx hA hcell
      have hx0 : (0 : Int) ≤ (x : Int) := by omega
      have hx1 : (x : Int) < 256 := by omega
      have hi0 : (0 : Int) ≤ (i : Int) := by omega
      have hin : (i : Int) < (n : Int) := by omega
      go_upto_region 5 with fail
      clear k0 hd hd2
      have t0 := (HX0.out.later HW.out hz0).reg 0 _ rfl
      have tx : ∀ W, Grow.Cl wr.drew W → W.cell? (A.add i) = some (.int .u8 x) := fun W h => HCX.out W (HWW.out.trans ((HW.out.trans ((Grow.Cl.base h).mono HW.out.size)).mono HWW.out.size))
      have hlo : wr.heap.size ≤ wr.drew.heap.size := Nat.le_refl _
      have hm0 : 0 ≤ (x : Int) / 16 % (b.fl + 1) := Int.emod_nonneg _ (by omega)
      have hm1 : (x : Int) / 16 % (b.fl + 1) < b.fl + 1 := Int.emod_lt_of_pos _ (by omega)
      refine Grow.wp_region_tail 27 (mkPlan 26 ptrS wr.heap.size [.int .u32 0, .int .u32 0, .int .i64 0, .int .i64 0, .int .i64 0]) (mkPlan_stable _ _ _ _) (by kernel_rfl) (by kernel_rfl) ?_
      intro opsq Hopsq
      simp only [List.take_succ_cons, List.take_zero, List.drop_succ_cons, List.drop_zero]
      repeat (first | (refine Grow.lex_move rfl ?_ rfl ?_; (· first | exact Grow.wanted_none | (rw [Hopsq.out]; rfl)); intro K hK; simp only [Grow.put_lit, Grow.setAt, Grow.eval_lit, Grow.ev]; refine hK _ _ ?_; clear hK K) | (refine Grow.lex_assign rfl ?_ rfl ?_; (· first | exact Grow.wanted_none | (rw [Hopsq.out]; rfl)); intro K hK; simp only [Grow.put_lit, Grow.setAt, Grow.eval_lit, Grow.ev]; refine hK _ _ ?_; clear hK K) | (refine Grow.lex_plain rfl rfl ?_ rfl ?_; (· first | exact Grow.wanted_none | (rw [Hopsq.out]; rfl)); apply Exists.intro; refine ⟨fun wq hCq _ => ?_, ?_⟩; (· (go_wp2_with fail; refine ⟨rfl, Below.refl _ _, ?_⟩; simp only [Grow.getD_lit, Grow.nth]; rfl)); intro K hK; simp only [Grow.put_lit, Grow.setAt]; refine hK _ _ ?_; clear hK K) | (refine Grow.lex_nilCheck rfl rfl ?_ rfl ?_; (· first | exact Grow.wanted_none | (rw [Hopsq.out]; rfl)); intro K hK; simp only [Grow.put_lit, Grow.setAt]; refine hK _ _ ?_; clear hK K) | (refine Grow.lex_skip ?_ ?_; (· (rw [Hopsq.out]; rfl)); intro K hK; simp only [Grow.put_lit, Grow.setAt]; refine hK _ _ ?_; clear hK K))
      refine lex_mk 26 ptrS wr.heap.size [.int .u32 0, .int .u32 0, .int .i64 0, .int .i64 0, .int .i64 0] 51 ?_ (fun wq => ?_) hlo ?_
      · first | exact Grow.wanted_none | (rw [Hopsq.out]; rfl)
      · go_simp
        first | rfl | exact ⟨rfl, rfl⟩
      intro g hg
      simp only [Grow.put_lit, Grow.setAt]
      refine Grow.lex_nil ?_
      intro w1 hb1 hTq
      have BG := mk_blk ptrS_inj hTq
      clear hTq
      replace hb1 := Grow.Cl.base hb1
      clear Hopsq opsq tx t0 hlo
      have z0 := (BG).cell 0 _ rfl
      have z1 := (BG).cell 1 _ rfl
      have z2 := (BG).cell 2 _ rfl
      have z3 := (BG).cell 3 _ rfl
      have z4 := (BG).cell 4 _ rfl
      have f0 := BG.fr 0; have f1 := BG.fr 1; have f2 := BG.fr 2; have f3 := BG.fr 3; have f4 := BG.fr 4
      have HG := Lib.hid BG
      have hg0 : w0.heap.size ≤ g := Nat.le_trans HW.out.size hg
      have hne : some g ≠ u5.ownBlock := fun e => by have := (HO.out.lt g e.symm).2; omega
      have HNE := Lib.hid hne
      have HW2 := Lib.hid (HW.out.trans (hb1.mono HW.out.size))
      have HO2 := Lib.hid (rowLater HO.out hb1)
      clear BG HW HO hb1 hne
      simp only [ptrS]
      go_upto_region 6 with fail
      clear z0 z1 z2 z3 z4 f0 f1 f2 f3 f4
      have hob : obsB b.fl ((x : Int) / 16 % (b.fl + 1) - 1, (x : Int) / 4 % 4, (x : Int) % 4) = true := by
        simp only [obsB, okB, inR, Bool.and_eq_true, decide_eq_true_eq]
        omega
      have HOB1 := Lib.hid hob
      clear hob
      generalize ho1 : (x : Int) / 16 % (b.fl + 1) - 1 = o1 at *
      generalize ho2 : (x : Int) / 4 % 4 = o2 at *
      generalize ho3 : (x : Int) % 4 = o3 at *
      clear ho1 ho2 ho3
      have B5 := ((((HG.out.set 0 (.int .u32 0)).set 1 (.int .u32 0)).set 2 (.int .i64 o1)).set 3 (.int .i64 o2)).set 4 (.int .i64 o3)
      have O5 := row_set (i := 4) (u := .int .i64 o3) (row_set (i := 3) (u := .int .i64 o2) (row_set (i := 2) (u := .int .i64 o1) (row_set (i := 1) (u := .int .u32 0) (row_set (i := 0) (u := .int .u32 0) HO2.out HNE.out) HNE.out) HNE.out) HNE.out) HNE.out
      have W5 := ((((HW2.out.setCell (p := ⟨g, 0, none⟩) hg0 (.int .u32 0)).setCell (p := ⟨g, 1, none⟩) hg0 (.int .u32 0)).setCell (p := ⟨g, 2, none⟩) hg0 (.int .i64 o1)).setCell (p := ⟨g, 3, none⟩) hg0 (.int .i64 o2)).setCell (p := ⟨g, 4, none⟩) hg0 (.int .i64 o3)
      have HB5 := Lib.hid B5; have HO5 := Lib.hid O5; have HW5 := Lib.hid W5
      clear B5 O5 W5 HG HW2 HO2
      generalize (((((w1.setCell ⟨g, 0, none⟩ (.int .u32 0)).setCell ⟨g, 1, none⟩ (.int .u32 0)).setCell ⟨g, 2, none⟩ (.int .i64 o1)).setCell ⟨g, 3, none⟩ (.int .i64 o2)).setCell ⟨g, 4, none⟩ (.int .i64 o3)) = w5 at *
      have cx := HCX.out _ (HWW.out.trans (HW5.out.mono HWW.out.size))
      go_upto_if 49 with fail
      clear cx
      go_cut [] from 44 to 65 (fun wx => ∃ c : CS, Blk wx g [.int .u32 (c.1.toNat : Int), .int .u32 (c.2.toNat : Int), .int .i64 o1, .int .i64 o2, .int .i64 o3] ∧ wx.ownsRow (w.heap.size + 1) 51 5 u5 L.length (markCells L) ∧ Below w0.heap.size w0 wx)
      case first =>
        cases e5 : ((x : Int) % 5 == 0)
        · go_wp2_with fail
          go_meet
          exact ⟨(0#32, 0#32), HB5.out, HO5.out, HW5.out⟩
        · go_upto_region 7 with fail
          have tx : ∀ W, Grow.Cl w5.drew W → W.cell? (A.add i) = some (.int .u8 x) := fun W h => HCX.out W (HWW.out.trans ((HW5.out.trans ((Grow.Cl.base h).mono HW5.out.size)).mono HWW.out.size))
          (refine Grow.wp_region_tail 16 Grow.noPlan Grow.noPlan_stable (by kernel_rfl) (by kernel_rfl) ?_; intro opsq Hopsq; simp only [List.take_succ_cons, List.take_zero, List.drop_succ_cons, List.drop_zero])
          repeat (first | (refine Grow.lex_move rfl ?_ rfl ?_; (· first | exact Grow.wanted_none | (rw [Hopsq.out]; rfl)); intro K hK; simp only [Grow.put_lit, Grow.setAt, Grow.eval_lit, Grow.ev]; refine hK _ _ ?_; clear hK K) | (refine Grow.lex_assign rfl ?_ rfl ?_; (· first | exact Grow.wanted_none | (rw [Hopsq.out]; rfl)); intro K hK; simp only [Grow.put_lit, Grow.setAt, Grow.eval_lit, Grow.ev]; refine hK _ _ ?_; clear hK K) | (refine Grow.lex_plain rfl rfl ?_ rfl ?_; (· first | exact Grow.wanted_none | (rw [Hopsq.out]; rfl)); apply Exists.intro; refine ⟨fun wq hCq _ => ?_, ?_⟩; (· (go_wp2_with fail; refine ⟨rfl, Below.refl _ _, ?_⟩; simp only [Grow.getD_lit, Grow.nth]; rfl)); intro K hK; simp only [Grow.put_lit, Grow.setAt]; refine hK _ _ ?_; clear hK K) | (refine Grow.lex_nilCheck rfl rfl ?_ rfl ?_; (· first | exact Grow.wanted_none | (rw [Hopsq.out]; rfl)); intro K hK; simp only [Grow.put_lit, Grow.setAt]; refine hK _ _ ?_; clear hK K) | (refine Grow.lex_skip ?_ ?_; (· (rw [Hopsq.out]; rfl)); intro K hK; simp only [Grow.put_lit, Grow.setAt]; refine hK _ _ ?_; clear hK K))
          (refine Grow.lex_nil ?_; intro w6 hb6 _; replace hb6 := Grow.Cl.base hb6; clear Hopsq opsq)
          have B6 := HB5.out.next hb6
          have z0 := (B6).cell 0 _ rfl
          have z1 := (B6).cell 1 _ rfl
          have f0 := B6.fr 0; have f1 := B6.fr 1
          clear tx B6
          go_wp2_with fail
          go_meet
          obtain ⟨u, hu'⟩ := u8_nat (Int.emod_nonneg (bits BinOp.and IntKind.u8 ((x : Int) / 8) 3) (show (4294967296 : Int) ≠ 0 by omega)) (Int.emod_lt_of_pos _ (by omega))
          obtain ⟨z, hz'⟩ := u8_nat (Int.emod_nonneg (bits BinOp.and IntKind.u8 ((x : Int) / 4) 6) (show (4294967296 : Int) ≠ 0 by omega)) (Int.emod_lt_of_pos _ (by omega))
          rw [hu', hz']
          have W6 := HW5.out.trans (hb6.mono HW5.out.size)
          exact ⟨(u, z), ((HB5.out.next hb6).set 0 _).set 1 _, row_set (row_set (rowLater HO5.out hb6) HNE.out) HNE.out, (W6.setCell (p := ⟨g, 0, none⟩) hg0 _).setCell (p := ⟨g, 1, none⟩) hg0 _⟩
      case rest =>
        obtain ⟨c, B6, O6, W6⟩ := hcut
        have HB6 := Lib.hid B6; have HO6 := Lib.hid O6; have HW6 := Lib.hid W6
        clear B6 O6 W6 HB5 HO5 HW5
        generalize hwx : wc = wx at *
        clear hwx
        have cx := HCX.out _ (HWW.out.trans (HW6.out.mono HWW.out.size))
        go_upto_if 71 with fail
        clear cx
        go_cut [] from 66 to 90 (fun wx => ∃ o : ObsV, Blk wx g [.int .u32 (c.1.toNat : Int), .int .u32 (c.2.toNat : Int), .int .i64 o.1, .int .i64 o.2.1, .int .i64 o.2.2] ∧ obsB b.fl o = true ∧ wx.ownsRow (w.heap.size + 1) 51 5 u5 L.length (markCells L) ∧ Below w0.heap.size w0 wx)
        case first =>
          cases e7 : ((x : Int) % 7 == 1)
          · go_wp2_with fail
            go_meet
            exact ⟨(o1, o2, o3), HB6.out, HOB1.out, HO6.out, HW6.out⟩
          · go_upto_region 9 with fail
            have tx : ∀ W, Grow.Cl wx.drew W → W.cell? (A.add i) = some (.int .u8 x) := fun W h => HCX.out W (HWW.out.trans ((HW6.out.trans ((Grow.Cl.base h).mono HW6.out.size)).mono HWW.out.size))
            have t0 := (HX0.out.later HW6.out hz0).reg 0 _ rfl
            have hm2 : 0 ≤ (x : Int) / 16 % b.fl := Int.emod_nonneg _ (by omega)
            have hm3 : (x : Int) / 16 % b.fl < b.fl := Int.emod_lt_of_pos _ (by omega)
            (refine Grow.wp_region_tail 19 Grow.noPlan Grow.noPlan_stable (by kernel_rfl) (by kernel_rfl) ?_; intro opsq Hopsq; simp only [List.take_succ_cons, List.take_zero, List.drop_succ_cons, List.drop_zero])
            repeat (first | (refine Grow.lex_move rfl ?_ rfl ?_; (· first | exact Grow.wanted_none | (rw [Hopsq.out]; rfl)); intro K hK; simp only [Grow.put_lit, Grow.setAt, Grow.eval_lit, Grow.ev]; refine hK _ _ ?_; clear hK K) | (refine Grow.lex_assign rfl ?_ rfl ?_; (· first | exact Grow.wanted_none | (rw [Hopsq.out]; rfl)); intro K hK; simp only [Grow.put_lit, Grow.setAt, Grow.eval_lit, Grow.ev]; refine hK _ _ ?_; clear hK K) | (refine Grow.lex_plain rfl rfl ?_ rfl ?_; (· first | exact Grow.wanted_none | (rw [Hopsq.out]; rfl)); apply Exists.intro; refine ⟨fun wq hCq _ => ?_, ?_⟩; (· (go_wp2_with fail; refine ⟨rfl, Below.refl _ _, ?_⟩; simp only [Grow.getD_lit, Grow.nth]; rfl)); intro K hK; simp only [Grow.put_lit, Grow.setAt]; refine hK _ _ ?_; clear hK K) | (refine Grow.lex_nilCheck rfl rfl ?_ rfl ?_; (· first | exact Grow.wanted_none | (rw [Hopsq.out]; rfl)); intro K hK; simp only [Grow.put_lit, Grow.setAt]; refine hK _ _ ?_; clear hK K) | (refine Grow.lex_skip ?_ ?_; (· (rw [Hopsq.out]; rfl)); intro K hK; simp only [Grow.put_lit, Grow.setAt]; refine hK _ _ ?_; clear hK K))
            (refine Grow.lex_nil ?_; intro w7 hb7 _; replace hb7 := Grow.Cl.base hb7; clear Hopsq opsq)
            have B7 := HB6.out.next hb7
            have z2 := (B7).cell 2 _ rfl
            have z3 := (B7).cell 3 _ rfl
            have z4 := (B7).cell 4 _ rfl
            have f2 := B7.fr 2; have f3 := B7.fr 3; have f4 := B7.fr 4
            clear tx B7 t0
            go_wp2_with fail
            go_meet
            have W7 := HW6.out.trans (hb7.mono HW6.out.size)
            exact ⟨((x : Int) / 16 % b.fl, 1 + (x : Int) / 8 % 2, 1), (((HB6.out.next hb7).set 2 _).set 3 _).set 4 _, by simp only [obsB, okB, inR, Bool.and_eq_true, decide_eq_true_eq]; omega, row_set (row_set (row_set (rowLater HO6.out hb7) HNE.out) HNE.out) HNE.out, ((W7.setCell (p := ⟨g, 2, none⟩) hg0 _).setCell (p := ⟨g, 3, none⟩) hg0 _).setCell (p := ⟨g, 4, none⟩) hg0 _⟩
        case rest =>
          obtain ⟨o, B8, hob, O8, W8⟩ := hcut
          generalize hwx : wc = wy at *
          clear hwx
          have HB8 := Lib.hid B8; have HO8 := Lib.hid O8; have HW8 := Lib.hid W8; have HOB8 := Lib.hid hob
          clear O8 W8 HB6 HO6 HW6 hob
          have z0 := (B8).cell 0 _ rfl
          have z1 := (B8).cell 1 _ rfl
          have z2 := (B8).cell 2 _ rfl
          have z3 := (B8).cell 3 _ rfl
          have z4 := (B8).cell 4 _ rfl
          clear B8
          have hsz : w0.heap.size ≤ wy.heap.size := HW8.out.size
          have hsw : w.heap.size + 1 ≤ w0.heap.size := by have := HZ.out; omega
          go_wp2_with ((at_builtin; refine wpList_append_own _ rfl _ _ 24 rfl (w.heap.size + 1) 51 i0 (.agg #[.int .u32 0, .int .u32 0, .int .i64 0, .int .i64 0, .int .i64 0]) 5 32 Try.underlying24 Hi.out Hz0.out Hz1.out Hz2.out rfl (by decide) _ _ _ rfl (HO8.out.alloc _) ⟨wy.heap.size, 0, none⟩ 1 1 (MarkV.cells (c, o)) rfl rfl (mark_new _ (c, o) _) (mark_one _) (by unfold maxLen; omega) (by omega) (by simp; omega) ?_))
          intro v' w9 hown2 hg9 _
          have hb3 : Below w0.heap.size w0 w9 := (HW8.out.alloc hsz _).grown hg9 (by simp; omega) (fun q hq => by have := (HO8.out.lt q hq).1; have := HZ.out; omega)
          have hown3 : w9.ownsRow (w.heap.size + 1) 51 5 v' (L ++ [(c, o)]).length (markCells (L ++ [(c, o)])) := by
            rw [markCells_snoc, List.length_append]; exact hown2
          clear hown2 hg9 z0 z1 z2 z3 z4
          go_wp2_with fail
          refine ⟨⟨i + 1, L ++ [(c, o)], by omega, by omega, by go_num, by rw [List.length_append, HL.out]; rfl, ?_, hown3, hb3⟩, by simp [intOf]; omega⟩
          intro m hm
          rcases List.mem_append.1 hm with hm | hm
          · exact HOB.out m hm
          · obtain rfl : m = (c, o) := by simpa using hm
            exact HOB8.out
    · by_cases hlt1 : i < n
      · have hlt2 : ¬ i < 150 := fun h => hlt ⟨hlt1, h⟩
        have hd : decide ((i : Int) < (n : Int)) = true := by simp; omega
        have hd2 : decide ((i : Int) < 150) = false := by simp; omega
        go_wp2_with fail
        go_ret
        exact ⟨_, L, rfl, hL150, HOB.out, HO.out, HWW.out.trans (HW.out.mono HWW.out.size)⟩
      · have hd : decide ((i : Int) < (n : Int)) = false := by simp; omega
        go_wp2_with fail
        go_ret
        exact ⟨_, L, rfl, hL150, HOB.out, HO.out, HWW.out.trans (HW.out.mono HWW.out.size)⟩
end Go.Proofs.Ytfmmiafdlfdfoaa
