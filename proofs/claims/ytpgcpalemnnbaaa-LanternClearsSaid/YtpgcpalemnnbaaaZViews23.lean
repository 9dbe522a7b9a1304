/- The walk over overlaylaw23.views. Conditions: a building of 2 to 32 floors with at most 100 cars whose cars can be read; bytes that can be read. -/
import Derived.Test.YtpgcpalemnnbaaaZViews
namespace Go.Proofs.Ytpgcpalemnnbaaa
open Go.RowKit
def shL (fl : Int) (l : List Nat) (i : Nat) : CS := match l[i]? with
  | none => (0#32, 0#32)
  | some x => if x % 11 = 3 then (BitVec.ofNat 32 x, BitVec.ofNat 32 (x / 2)) else one ((x : Int) % fl) (1 + (x : Int) / 32 % 2)
theorem viewCells_sh (V : List ViewV) (i : Nat) (m : ViewV) (hm : V[i]? = some m) (c : CS) : viewCells (V.set i { m with sh := c }) = ((viewCells V).set (i * 12 + 7) (.int .u32 (c.1.toNat : Int))).set (i * 12 + 8) (.int .u32 (c.2.toNat : Int)) := by
  rw [← viewCells_set V i 7 m { m with sh := (c.1, m.sh.2) } _ (by omega) hm rfl, ← viewCells_set (V.set i { m with sh := (c.1, m.sh.2) }) i 8 { m with sh := (c.1, m.sh.2) } { m with sh := c } _ (by omega) (List.getElem?_set_self (List.getElem?_eq_some_iff.1 hm).1) rfl, List.set_set]
set_option maxHeartbeats 8000000 in
set_option maxRecDepth 100000 in
theorem views23_any (b : BldV) (q : Option Addr) (cap : Nat) (l : List Nat) (ql : Option Addr) (capl : Nat) (w : World) (hlen : b.cars.length ≤ 100) (hl : l.length ≤ maxLen) (h2 : 2 ≤ b.fl) (h32 : b.fl ≤ 32) (hu : RdU w ql l) :
    Calls Try.prog 11 #[cvB b q cap, .slice ql l.length capl] w fun e w' => ∃ (v : Value) (V : List ViewV), e = .returned v ∧ V.length = b.cars.length ∧ (∀ i m, V[i]? = some m → m.sv = svL l i ∧ m.sh = shL b.fl l i) ∧ w'.ownsRow w.heap.size 50 12 v V.length (viewCells V) ∧ Below w.heap.size w w' := by
  obtain ⟨n, hn⟩ : ∃ n, n = l.length := ⟨_, rfl⟩
  have X0 : Blk (w.alloc (.cells #[.int .i64 b.fl, .int .i64 b.deb, .int .i64 b.room, .int .i64 b.park, .float .f64 b.em, .float .f64 b.fu, .float .f64 b.ov, .slice q b.cars.length cap] 28)) w.heap.size [.int .i64 b.fl, .int .i64 b.deb, .int .i64 b.room, .int .i64 b.park, .float .f64 b.em, .float .f64 b.fu, .float .f64 b.ov, .slice q b.cars.length cap] := by
    have hx := Blk.new w [.int .i64 b.fl, .int .i64 b.deb, .int .i64 b.room, .int .i64 b.park, .float .f64 b.em, .float .f64 b.fu, .float .f64 b.ov, .slice q b.cars.length cap] 28
    exact hx
  have XW : Below w.heap.size w (w.alloc (.cells #[.int .i64 b.fl, .int .i64 b.deb, .int .i64 b.room, .int .i64 b.park, .float .f64 b.em, .float .f64 b.fu, .float .f64 b.ov, .slice q b.cars.length cap] 28)) := below1' w _
  have HWW := Lib.hid XW; have HX0 := Lib.hid X0
  clear XW X0
  have HU := Lib.hid (hu.next HWW.out)
  have HV := Lib.hid (fun W h => views22_any b q cap l ql capl W hlen hl h2 h32 (hu.next (HWW.out.trans (h : Below _ _ W))))
  unfold maxLen at hl
  rw [← hn] at hl HV ⊢
  have HN := Lib.hid hn
  have HL := Lib.hid hlen
  clear hn hu hlen
  go_enter Try.func11, Try.ntmps11
  go_upto_region 1 with fail
  generalize (w.alloc (.cells #[.int .i64 b.fl, .int .i64 b.deb, .int .i64 b.room, .int .i64 b.park, .float .f64 b.em, .float .f64 b.fu, .float .f64 b.ov, .slice q b.cars.length cap] 28)) = w0 at *
  have HW := Lib.hid (Below.refl w0.heap.size w0)
  have hz0 := HX0.out.lt
  have k0 := (HX0.out).cell 0 _ rfl
  have k1 := (HX0.out).cell 1 _ rfl
  have k2 := (HX0.out).cell 2 _ rfl
  have k3 := (HX0.out).cell 3 _ rfl
  have k4 := (HX0.out).cell 4 _ rfl
  have k5 := (HX0.out).cell 5 _ rfl
  have k6 := (HX0.out).cell 6 _ rfl
  have k7 := (HX0.out).cell 7 _ rfl
  go_wp2_with fail
  refine (HV.out w0 (Below.refl _ _)).mono ?_
  rintro e w1 ⟨v, V, rfl, hVk, hP, hown, hb1⟩
  have hP' : ∀ j m, V[j]? = some m → m.sv = svL l j ∧ m.sh = if j < 0 then shL b.fl l j else (0#32, 0#32) := fun j m hm => by
    rw [if_neg (Nat.not_lt_zero _)]; exact hP j m hm
  have HP0 := Lib.hid hP'
  have HVL := Lib.hid hVk
  obtain ⟨k, hk⟩ : ∃ k, V.length = k := ⟨_, rfl⟩
  obtain ⟨qv, capv, rfl⟩ := row_form hown
  rw [hk] at hown HVL ⊢
  have hk1 : k ≤ 100 := by have := HL.out; have := HVL.out; omega
  have HK := Lib.hid hk
  have HO1 := Lib.hid hown
  have hbs : w0.heap.size ≤ w1.heap.size := hb1.size
  have HX1 := Lib.hid (HX0.out.next hb1); have HU1 := Lib.hid (HU.out.next hb1)
  have HW1 := Lib.hid (HWW.out.trans (hb1.mono HWW.out.size))
  have HXU : Hid (∀ W, Below w0.heap.size w1 W → Blk W w.heap.size [.int .i64 b.fl, .int .i64 b.deb, .int .i64 b.room, .int .i64 b.park, .float .f64 b.em, .float .f64 b.fu, .float .f64 b.ov, .slice q b.cars.length cap] ∧ RdU W ql l) := Lib.hid fun W h => ⟨HX0.out.next (hb1.trans h), HU.out.next (hb1.trans h)⟩
  clear hk hVk hP hP' hown hb1 HV HX0 HU k0 k1 k2 k3 k4 k5 k6 k7 HW
  go_wp2_with fail
  go_loopw [6] (fun v wr => ∃ (i : Nat) (V' : List ViewV), i ≤ k ∧ v = .int .i64 i ∧ V'.length = k ∧ (∀ j m, V'[j]? = some m → m.sv = svL l j ∧ m.sh = if j < i then shL b.fl l j else (0#32, 0#32)) ∧ wr.ownsRow w0.heap.size 50 12 (.slice qv k capv) k (viewCells V') ∧ Below w0.heap.size w1 wr) (fun v _ => k - (intOf v).toNat)
  case atStart => exact ⟨0, V, by omega, rfl, HK.out, HP0.out, HO1.out, Below.refl _ _⟩
  case round =>
    clear HP0 HO1
    obtain ⟨i, V', hik, rfl, hVk, hP, hown, hb⟩ := hrel
    have HP := Lib.hid hP; have HO := Lib.hid hown; have HB := Lib.hid hb; have HVK := Lib.hid hVk
    clear hP hown hb hVk
    by_cases hlt : i < k
    · have hd : decide ((i : Int) < (k : Int)) = true := by simp; omega
      by_cases hln : i < n
      · have hd2 : decide ((i : Int) < (n : Int)) = true := by simp; omega
        obtain ⟨x, hx⟩ : ∃ x, l[i]? = some x := ⟨_, List.getElem?_eq_getElem (by rw [← HN.out]; exact hln)⟩
        obtain ⟨hblk, hru⟩ := HXU.out wr HB.out
        obtain ⟨hx256, A, hqA, _, hcx⟩ := hru i x hx
        subst hqA
        obtain ⟨m, hm⟩ : ∃ m, V'[i]? = some m := ⟨_, List.getElem?_eq_getElem (by rw [HVK.out]; exact hlt)⟩
        obtain ⟨g5, cap', hv, hg5b, hg5l⟩ := World.ownsRow.form HO.out (by omega)
        obtain ⟨rfl, rfl⟩ : qv = some ⟨g5, 0, none⟩ ∧ capv = cap' := by simpa using hv
        have HMM := Lib.hid hm; have HXI := Lib.hid hx
        have HBK := Lib.hid hblk
        have hx0 : (0 : Int) ≤ (x : Int) := by omega
        have hx1 : (x : Int) < 256 := by omega
        have hi0 : (0 : Int) ≤ (i : Int) := by omega
        have hik' : (i : Int) < (k : Int) := by omega
        have hin' : (i : Int) < (n : Int) := by omega
        have hm0 : 0 ≤ (x : Int) % b.fl := Int.emod_nonneg _ (by omega)
        have hm1 : (x : Int) % b.fl < b.fl := Int.emod_lt_of_pos _ (by omega)
        have hfz : ¬ b.fl = 0 := by omega
        have HSX : Hid (shL b.fl l i = if x % 11 = 3 then (BitVec.ofNat 32 x, BitVec.ofNat 32 (x / 2)) else one ((x : Int) % b.fl) (1 + (x : Int) / 32 % 2)) := Lib.hid (by simp only [shL, hx])
        have f7 := row_fr HO.out (i * 12 + 7); have f8 := row_fr HO.out (i * 12 + 8)
        obtain ⟨c7, hc7⟩ : ∃ u, wr.cell? ⟨g5, i * 12 + 7, none⟩ = some u := ⟨_, by
          have := World.ownsRow.cells HO.out (g := g5) rfl (i * 12 + 7) _ (viewCells_at V' i m hm 7 _ rfl)
          rwa [Addr.add_lit, Nat.zero_add] at this⟩
        obtain ⟨c8, hc8⟩ : ∃ u, wr.cell? ⟨g5, i * 12 + 8, none⟩ = some u := ⟨_, by
          have := World.ownsRow.cells HO.out (g := g5) rfl (i * 12 + 8) _ (viewCells_at V' i m hm 8 _ rfl)
          rwa [Addr.add_lit, Nat.zero_add] at this⟩
        clear hx hm hv hru hblk
        go_upto_region 6 with fail
        clear hd hd2
        have t0 := HBK.out.reg 0 _ rfl
        have tx : ∀ W, Grow.Cl wr.drew W → W.cell? (A.add i) = some (.int .u8 x) := fun W h => cell_later (Grow.Cl.base h) hcx
        (refine Grow.wp_region_tail 21 Grow.noPlan Grow.noPlan_stable (by kernel_rfl) (by kernel_rfl) ?_; intro opsq Hopsq; simp only [List.take_succ_cons, List.take_zero, List.drop_succ_cons, List.drop_zero])
        repeat (first | (refine Grow.lex_move rfl ?_ rfl ?_; (· first | exact Grow.wanted_none | (rw [Hopsq.out]; rfl)); intro K hK; simp only [Grow.put_lit, Grow.setAt, Grow.eval_lit, Grow.ev]; refine hK _ _ ?_; clear hK K) | (refine Grow.lex_assign rfl ?_ rfl ?_; (· first | exact Grow.wanted_none | (rw [Hopsq.out]; rfl)); intro K hK; simp only [Grow.put_lit, Grow.setAt, Grow.eval_lit, Grow.ev]; refine hK _ _ ?_; clear hK K) | (refine Grow.lex_plain rfl rfl ?_ rfl ?_; (· first | exact Grow.wanted_none | (rw [Hopsq.out]; rfl)); apply Exists.intro; refine ⟨fun wq hCq _ => ?_, ?_⟩; (· (go_wp2_with fail; refine ⟨rfl, Below.refl _ _, ?_⟩; simp only [Grow.getD_lit, Grow.nth]; rfl)); intro K hK; simp only [Grow.put_lit, Grow.setAt]; refine hK _ _ ?_; clear hK K) | (refine Grow.lex_nilCheck rfl rfl ?_ rfl ?_; (· first | exact Grow.wanted_none | (rw [Hopsq.out]; rfl)); intro K hK; simp only [Grow.put_lit, Grow.setAt]; refine hK _ _ ?_; clear hK K) | (refine Grow.lex_skip ?_ ?_; (· (rw [Hopsq.out]; rfl)); intro K hK; simp only [Grow.put_lit, Grow.setAt]; refine hK _ _ ?_; clear hK K))
        (refine Grow.lex_call ?_ rfl ?_; (· first | exact Grow.wanted_none | (rw [Hopsq.out]; rfl)); apply Exists.intro; apply Exists.intro; refine ⟨fun wq => ?_, ?_⟩; (· (go_simp; exact ⟨rfl, rfl⟩)); apply Exists.intro; refine ⟨fun wq hCq hKq => ?_, ?_⟩; (· exact refOne_any ((x : Int) % b.fl) (1 + (x : Int) / 32 % 2) _); intro K hK; simp only [Grow.put_lit, Grow.setAt]; refine hK _ _ ?_; clear hK K)
        repeat (first | (refine Grow.lex_move rfl ?_ rfl ?_; (· first | exact Grow.wanted_none | (rw [Hopsq.out]; rfl)); intro K hK; simp only [Grow.put_lit, Grow.setAt, Grow.eval_lit, Grow.ev]; refine hK _ _ ?_; clear hK K) | (refine Grow.lex_assign rfl ?_ rfl ?_; (· first | exact Grow.wanted_none | (rw [Hopsq.out]; rfl)); intro K hK; simp only [Grow.put_lit, Grow.setAt, Grow.eval_lit, Grow.ev]; refine hK _ _ ?_; clear hK K) | (refine Grow.lex_plain rfl rfl ?_ rfl ?_; (· first | exact Grow.wanted_none | (rw [Hopsq.out]; rfl)); apply Exists.intro; refine ⟨fun wq hCq _ => ?_, ?_⟩; (· (go_wp2_with fail; refine ⟨rfl, Below.refl _ _, ?_⟩; simp only [Grow.getD_lit, Grow.nth]; rfl)); intro K hK; simp only [Grow.put_lit, Grow.setAt]; refine hK _ _ ?_; clear hK K) | (refine Grow.lex_nilCheck rfl rfl ?_ rfl ?_; (· first | exact Grow.wanted_none | (rw [Hopsq.out]; rfl)); intro K hK; simp only [Grow.put_lit, Grow.setAt]; refine hK _ _ ?_; clear hK K) | (refine Grow.lex_skip ?_ ?_; (· (rw [Hopsq.out]; rfl)); intro K hK; simp only [Grow.put_lit, Grow.setAt]; refine hK _ _ ?_; clear hK K))
        (refine Grow.lex_nil ?_; intro w2 hb2 _; replace hb2 := Grow.Cl.base hb2; clear Hopsq opsq)
        obtain ⟨c, hc⟩ : ∃ c, one ((x : Int) % b.fl) (1 + (x : Int) / 32 % 2) = c := ⟨_, rfl⟩
        rw [hc] at HSX
        rw [hc]
        clear hc tx t0
        have HO2 := Lib.hid (rowLater HO.out hb2)
        have HB2 := Lib.hid (HB.out.trans (hb2.mono (by have := HB.out.size; omega)))
        have hg52 : g5 < w2.heap.size := Nat.lt_of_lt_of_le hg5l hb2.size
        replace hc7 := cell_later hb2 hc7; replace hc8 := cell_later hb2 hc8
        have f7 := row_fr HO2.out (i * 12 + 7); have f8 := row_fr HO2.out (i * 12 + 8)
        have hcx2 := cell_later hb2 hcx
        clear HO HB hb2 hcx
        go_upto_region 7 with fail
        have HO3 := Lib.hid (row_upd (row_upd HO2.out (i * 12 + 7) (.int .u32 (c.1.toNat : Int))) (i * 12 + 8) (.int .u32 (c.2.toNat : Int)))
        have HB3 := Lib.hid ((HB2.out.setCell (p := ⟨g5, i * 12 + 7, none⟩) hg5b (.int .u32 (c.1.toNat : Int))).setCell (p := ⟨g5, i * 12 + 8, none⟩) hg5b (.int .u32 (c.2.toNat : Int)))
        rw [← viewCells_sh V' i m HMM.out c] at HO3
        have HFIN : Hid (∀ c, shL b.fl l i = c → ∀ j m', (V'.set i { m with sh := c })[j]? = some m' → m'.sv = svL l j ∧ m'.sh = if j < i + 1 then shL b.fl l j else (0#32, 0#32)) := Lib.hid fun c hc j m' hj => by
          by_cases e : i = j
          · subst e
            rw [List.getElem?_set_self (List.getElem?_eq_some_iff.1 HMM.out).1] at hj
            obtain rfl := Option.some.inj hj
            exact ⟨(HP.out i m HMM.out).1, by rw [if_pos (by omega), hc]⟩
          · rw [List.getElem?_set_ne e] at hj
            refine ⟨(HP.out j m' hj).1, ?_⟩
            rw [(HP.out j m' hj).2]
            by_cases h : j < i
            · rw [if_pos h, if_pos (by omega)]
            · rw [if_neg h, if_neg (by omega)]
        clear HO2 HB2 f7 f8 hc7 hc8 hcx2
        generalize (w2.setCell ⟨g5, i * 12 + 7, none⟩ (.int .u32 (c.1.toNat : Int))).setCell ⟨g5, i * 12 + 8, none⟩ (.int .u32 (c.2.toNat : Int)) = w3 at *
        obtain ⟨_, hru⟩ := HXU.out w3 HB3.out
        obtain ⟨_, A2, hA2, _, hcx⟩ := hru i x HXI.out
        obtain rfl : A = A2 := by simpa using hA2
        clear hru hA2
        cases e7 : ((x : Int) % 11 == 3)
        · have HSV : Hid (shL b.fl l i = c) := Lib.hid (by rw [HSX.out, if_neg (by simp at e7; omega)])
          go_wp2_with fail
          exact ⟨⟨i + 1, _, by omega, by go_num, by rw [List.length_set, HVK.out], HFIN.out c HSV.out, HO3.out, HB3.out⟩, by simp [intOf]; omega⟩
        · have HSV : Hid (shL b.fl l i = (BitVec.ofNat 32 x, BitVec.ofNat 32 (x / 2))) := Lib.hid (by rw [HSX.out, if_pos (by simp at e7; omega)])
          go_upto_region 8 with fail
          have tx : ∀ W, Grow.Cl w3.drew W → W.cell? (A.add i) = some (.int .u8 x) := fun W h => cell_later (Grow.Cl.base h) hcx
          obtain ⟨c7, hc7⟩ : ∃ u, w3.cell? ⟨g5, i * 12 + 7, none⟩ = some u := ⟨_, by
            have := World.ownsRow.cells HO3.out (g := g5) rfl (i * 12 + 7) _ (viewCells_at (V'.set i { m with sh := c }) i { m with sh := c } (List.getElem?_set_self (List.getElem?_eq_some_iff.1 HMM.out).1) 7 _ rfl)
            rwa [Addr.add_lit, Nat.zero_add] at this⟩
          obtain ⟨c8, hc8⟩ : ∃ u, w3.cell? ⟨g5, i * 12 + 8, none⟩ = some u := ⟨_, by
            have := World.ownsRow.cells HO3.out (g := g5) rfl (i * 12 + 8) _ (viewCells_at (V'.set i { m with sh := c }) i { m with sh := c } (List.getElem?_set_self (List.getElem?_eq_some_iff.1 HMM.out).1) 8 _ rfl)
            rwa [Addr.add_lit, Nat.zero_add] at this⟩
          have hb3l : g5 < w3.heap.size := by
            rcases Nat.lt_or_ge g5 w3.heap.size with h | h
            · exact h
            · unfold World.cell? at hc7; rw [Array.getElem?_eq_none h] at hc7; simp at hc7
          (refine Grow.wp_region_tail 16 Grow.noPlan Grow.noPlan_stable (by kernel_rfl) (by kernel_rfl) ?_; intro opsq Hopsq; simp only [List.take_succ_cons, List.take_zero, List.drop_succ_cons, List.drop_zero])
          repeat (first | (refine Grow.lex_move rfl ?_ rfl ?_; (· first | exact Grow.wanted_none | (rw [Hopsq.out]; rfl)); intro K hK; simp only [Grow.put_lit, Grow.setAt, Grow.eval_lit, Grow.ev]; refine hK _ _ ?_; clear hK K) | (refine Grow.lex_assign rfl ?_ rfl ?_; (· first | exact Grow.wanted_none | (rw [Hopsq.out]; rfl)); intro K hK; simp only [Grow.put_lit, Grow.setAt, Grow.eval_lit, Grow.ev]; refine hK _ _ ?_; clear hK K) | (refine Grow.lex_plain rfl rfl ?_ rfl ?_; (· first | exact Grow.wanted_none | (rw [Hopsq.out]; rfl)); apply Exists.intro; refine ⟨fun wq hCq _ => ?_, ?_⟩; (· (go_wp2_with fail; refine ⟨rfl, Below.refl _ _, ?_⟩; simp only [Grow.getD_lit, Grow.nth]; rfl)); intro K hK; simp only [Grow.put_lit, Grow.setAt]; refine hK _ _ ?_; clear hK K) | (refine Grow.lex_nilCheck rfl rfl ?_ rfl ?_; (· first | exact Grow.wanted_none | (rw [Hopsq.out]; rfl)); intro K hK; simp only [Grow.put_lit, Grow.setAt]; refine hK _ _ ?_; clear hK K) | (refine Grow.lex_skip ?_ ?_; (· (rw [Hopsq.out]; rfl)); intro K hK; simp only [Grow.put_lit, Grow.setAt]; refine hK _ _ ?_; clear hK K))
          (refine Grow.lex_nil ?_; intro w4 hb4 _; replace hb4 := Grow.Cl.base hb4; clear Hopsq opsq)
          clear tx
          have HO4 := Lib.hid (rowLater HO3.out hb4)
          have HB4 := Lib.hid (HB3.out.trans (hb4.mono (Nat.le_trans hg5b (Nat.le_of_lt hb3l))))
          replace hc7 := cell_later hb4 hc7; replace hc8 := cell_later hb4 hc8
          have f7 := row_fr HO4.out (i * 12 + 7); have f8 := row_fr HO4.out (i * 12 + 8)
          clear hb4
          go_wp2_with fail
          have ed1 : (((BitVec.ofNat 32 x).toNat : Nat) : Int) = (x : Int) := by rw [BitVec.toNat_ofNat, Nat.mod_eq_of_lt (by omega)]
          have ed2 : (((BitVec.ofNat 32 (x / 2)).toNat : Nat) : Int) = (x : Int) / 2 := by rw [BitVec.toNat_ofNat, Nat.mod_eq_of_lt (by omega)]; omega
          have HC2 := viewCells_sh (V'.set i { m with sh := c }) i { m with sh := c } (List.getElem?_set_self (List.getElem?_eq_some_iff.1 HMM.out).1) (BitVec.ofNat 32 x, BitVec.ofNat 32 (x / 2))
          rw [List.set_set, ed1, ed2] at HC2
          refine ⟨⟨i + 1, _, by omega, by go_num, by rw [List.length_set, HVK.out], HFIN.out _ HSV.out, ?_, (HB4.out.setCell (p := ⟨g5, i * 12 + 7, none⟩) hg5b _).setCell (p := ⟨g5, i * 12 + 7 + 1, none⟩) hg5b _⟩, by simp [intOf]; omega⟩
          have h := row_upd (row_upd HO4.out (i * 12 + 7) (.int .u32 (x : Int))) (i * 12 + 8) (.int .u32 ((x : Int) / 2))
          rw [← HC2] at h
          exact h
      · have hd2 : decide ((i : Int) < (n : Int)) = false := by simp; omega
        have HNI : Hid (shL b.fl l i = (0#32, 0#32)) := Lib.hid (by simp only [shL, List.getElem?_eq_none (show l.length ≤ i by rw [← HN.out]; omega)])
        go_wp2_with fail
        refine ⟨⟨i + 1, V', by omega, by go_num, HVK.out, fun j m hm => ⟨(HP.out j m hm).1, ?_⟩, HO.out, HB.out⟩, by simp [intOf]; omega⟩
        rw [(HP.out j m hm).2]
        by_cases h : j < i
        · rw [if_pos h, if_pos (by omega)]
        · by_cases e : j = i
          · subst e; rw [if_neg h, if_pos (by omega), HNI.out]
          · rw [if_neg h, if_neg (by omega)]
    · have hd : decide ((i : Int) < (k : Int)) = false := by simp; omega
      obtain rfl : i = k := by omega
      go_wp2_with fail
      go_ret
      refine ⟨_, V', rfl, by rw [HVK.out, HVL.out], fun j m hm => ⟨(HP.out j m hm).1, ?_⟩, by rw [HVK.out]; exact row_base HO.out HWW.out.size, HW1.out.trans (HB.out.mono HWW.out.size)⟩
      have hj := (List.getElem?_eq_some_iff.1 hm).1
      rw [(HP.out j m hm).2, if_pos (by rw [← HVK.out]; exact hj)]
end Go.Proofs.Ytpgcpalemnnbaaa
