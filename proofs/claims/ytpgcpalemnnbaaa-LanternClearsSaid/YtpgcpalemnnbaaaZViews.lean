/- The walk over overlaylaw22.Views. Conditions: a building of 2 to 32 floors with at most 100 cars; bytes that can be read. -/
import Derived.Test.YtpgcpalemnnbaaaZLight
import Derived.Test.YtpgcpalemnnbaaaZU8
namespace Go.Proofs.Ytpgcpalemnnbaaa
open Go.RowKit
/-- The byte that stands at place j, round and round. -/
def xAt (l : List Nat) (j : Nat) : Nat := (l[j % l.length]?).getD 0
def arr (l : List Nat) (i j : Nat) : List Value := [.int .u8 (if 0 < j then xAt l (4 * i) else 0 : Nat), .int .u8 (if 1 < j then xAt l (4 * i + 1) else 0 : Nat), .int .u8 (if 2 < j then xAt l (4 * i + 2) else 0 : Nat), .int .u8 (if 3 < j then xAt l (4 * i + 3) else 0 : Nat)]
theorem arr_set (l : List Nat) (i j : Nat) (hj : j < 4) : (arr l i j).set j (.int .u8 (xAt l (4 * i + j) : Nat)) = arr l i (j + 1) := by
  match j, hj with
  | 0, _ => simp [arr]
  | 1, _ => simp [arr]
  | 2, _ => simp [arr]
  | 3, _ => simp [arr]
theorem xAt_nil (j : Nat) : xAt [] j = 0 := by simp [xAt]
theorem arr_nil (i : Nat) : arr [] i 0 = arr [] i 4 := by simp [arr, xAt_nil]
theorem xAt_lt {w : World} {q : Option Addr} {l : List Nat} (h : RdU w q l) (j : Nat) : xAt l j < 256 := by
  unfold xAt
  cases e : l[j % l.length]? with
  | none => simp
  | some x => exact (h _ _ e).1
theorem infoV : (Try.prog.info? 50).map (fun i => (i.zero, i.size, i.bytes)) = some (some (.agg #[.bool false, .bool false, .bool false, .bool false, .int .i64 0, .int .i64 0, .int .i64 0, .int .u32 0, .int .u32 0, .int .u32 0, .int .u32 0, .int .u32 0]), 12, 56) := by kernel_rfl
def svL (l : List Nat) (i : Nat) : Bool := decide ((0 : Int) < (xAt l (4 * i) : Int) % 8)
set_option maxHeartbeats 8000000 in
set_option maxRecDepth 100000 in
theorem views22_any (b : BldV) (q : Option Addr) (cap : Nat) (l : List Nat) (ql : Option Addr) (capl : Nat) (w : World) (hlen : b.cars.length ≤ 100) (hl : l.length ≤ maxLen) (h2 : 2 ≤ b.fl) (h32 : b.fl ≤ 32) (hu : RdU w ql l) :
    Calls Try.prog 28 #[cvB b q cap, .slice ql l.length capl] w fun e w' => ∃ (v : Value) (V : List ViewV), e = .returned v ∧ V.length = b.cars.length ∧ (∀ i m, V[i]? = some m → m.sv = svL l i ∧ m.sh = (0#32, 0#32)) ∧ w'.ownsRow w.heap.size 50 12 v V.length (viewCells V) ∧ Below w.heap.size w w' := by
  obtain ⟨i0, hi, hy0, hy1, hy2⟩ := info_parts infoV
  have Hi := Lib.hid hi; have Hz0 := Lib.hid hy0; have Hz1 := Lib.hid hy1; have Hz2 := Lib.hid hy2
  clear hi hy0 hy1 hy2
  unfold maxLen at hl
  obtain ⟨n, hn⟩ : ∃ n, n = l.length := ⟨_, rfl⟩
  obtain ⟨k, hk⟩ : ∃ k, b.cars.length = k := ⟨_, rfl⟩
  have HK := Lib.hid hk
  rw [hk] at hlen ⊢
  clear hk
  have HXL : Hid (∀ j, xAt l j < 256) := Lib.hid (xAt_lt hu)
  show Calls _ _ #[.agg #[.int .i64 b.fl, .int .i64 b.deb, .int .i64 b.room, .int .i64 b.park, .float .f64 b.em, .float .f64 b.fu, .float .f64 b.ov, .slice q b.cars.length cap], _] _ _
  rw [HK.out]
  have X0 : Blk (w.alloc (.cells #[.int .i64 b.fl, .int .i64 b.deb, .int .i64 b.room, .int .i64 b.park, .float .f64 b.em, .float .f64 b.fu, .float .f64 b.ov, .slice q k cap] 28)) w.heap.size [.int .i64 b.fl, .int .i64 b.deb, .int .i64 b.room, .int .i64 b.park, .float .f64 b.em, .float .f64 b.fu, .float .f64 b.ov, .slice q k cap] := by
    have hx := Blk.new w [.int .i64 b.fl, .int .i64 b.deb, .int .i64 b.room, .int .i64 b.park, .float .f64 b.em, .float .f64 b.fu, .float .f64 b.ov, .slice q k cap] 28
    exact hx
  have XW : Below w.heap.size w (w.alloc (.cells #[.int .i64 b.fl, .int .i64 b.deb, .int .i64 b.room, .int .i64 b.park, .float .f64 b.em, .float .f64 b.fu, .float .f64 b.ov, .slice q k cap] 28)) := below1' w _
  have HWW := Lib.hid XW; have HX0 := Lib.hid X0
  clear XW X0
  rw [← hn] at hl ⊢
  have HN := Lib.hid hn
  have HU := Lib.hid (hu.next HWW.out)
  clear hn hu
  go_enter Try.func28, Try.ntmps28
  go_upto_region 2 with fail
  have hz : (w.alloc (.cells #[.int .i64 b.fl, .int .i64 b.deb, .int .i64 b.room, .int .i64 b.park, .float .f64 b.em, .float .f64 b.fu, .float .f64 b.ov, .slice q k cap] 28)).heap.size = w.heap.size + 1 := by simp
  have HZ := Lib.hid hz
  clear hz
  generalize (w.alloc (.cells #[.int .i64 b.fl, .int .i64 b.deb, .int .i64 b.room, .int .i64 b.park, .float .f64 b.em, .float .f64 b.fu, .float .f64 b.ov, .slice q k cap] 28)) = w0 at *
  have HW := Lib.hid (Below.refl w0.heap.size w0)
  have hz0 := HX0.out.lt
  go_wp2_with fail
  go_loopw [5, 6] (fun v5 v6 wr => ∃ (i : Nat) (V : List ViewV), i ≤ k ∧ v6 = .int .i64 i ∧ V.length = i ∧ (∀ j m, V[j]? = some m → m.sv = svL l j ∧ m.sh = (0#32, 0#32)) ∧ wr.ownsRow (w.heap.size + 1) 50 12 v5 V.length (viewCells V) ∧ Below w0.heap.size w0 wr) (fun _ v _ => k - (intOf v).toNat)
  case atStart => exact ⟨0, [], by omega, rfl, rfl, by simp, World.ownsRow_nil _ _ _ _, HW.out⟩
  case round =>
    clear HW
    obtain ⟨i, V, hik, rfl, hVi, hP, hown, hb⟩ := hrel
    have HW := Lib.hid hb; have HO := Lib.hid hown; have HVI := Lib.hid hVi; have HP := Lib.hid hP
    clear hb hown hVi hP
    have k7 := (HX0.out.later HW.out hz0).cell 7 _ rfl
    by_cases hlt : i < k
    · have hd : decide ((i : Int) < (k : Int)) = true := by simp; omega
      go_upto_region 6 with fail
      have BX := Blk.new wr [.int .u8 0, .int .u8 0, .int .u8 0, .int .u8 0] 85
      have hbx := below1' wr (.cells #[.int .u8 0, .int .u8 0, .int .u8 0, .int .u8 0] 85)
      change Blk (wr.alloc (.cells #[.int .u8 0, .int .u8 0, .int .u8 0, .int .u8 0] 85)) _ _ at BX
      have HBX0 := Lib.hid BX
      have HGO : Hid (∀ W, Below wr.heap.size wr W → W.ownsRow (w.heap.size + 1) 50 12 u5 V.length (viewCells V) ∧ Below w0.heap.size w0 W ∧ RdU W ql l) := Lib.hid fun W h => ⟨rowLater HO.out h, HW.out.trans (h.mono HW.out.size), HU.out.next (HW.out.trans (h.mono HW.out.size))⟩
      have HNX := Lib.hid (row_nelt HO.out (Nat.le_refl _))
      have HWX := Lib.hid hbx
      have hgx : w0.heap.size ≤ wr.heap.size := HW.out.size
      clear BX hbx k7 hd
      generalize wr.alloc (.cells #[.int .u8 0, .int .u8 0, .int .u8 0, .int .u8 0] 85) = w1 at *
      clear HO HW
      generalize wr.heap.size = gx at *
      generalize wr = wo at *
      have hi0 : (0 : Int) ≤ (i : Int) := by omega
      have hi1 : (i : Int) ≤ 100 := by omega
      go_wp2_with fail
      go_loopw [8] (fun v wq => ∃ j : Nat, j ≤ 4 ∧ v = .int .i64 j ∧ (n = 0 → j = 0) ∧ Blk wq gx (arr l i j) ∧ Below gx wo wq) (fun v _ => 4 - (intOf v).toNat)
      case atStart => exact ⟨0, by omega, rfl, fun _ => rfl, HBX0.out, HWX.out⟩
      case round =>
        clear HBX0 HWX
        obtain ⟨j, hj4, rfl, hn0, hB, hbq⟩ := hrel
        have HB := Lib.hid hB; have HQ := Lib.hid hbq
        clear hB hbq
        by_cases hjj : j < 4 ∧ 0 < n
        · have hd1 : decide ((j : Int) < 4) = true := by simp; omega
          have hd2 : decide ((0 : Int) < (n : Int)) = true := by simp; omega
          obtain ⟨hj, hnp⟩ := hjj
          obtain ⟨x, hx⟩ : ∃ x, l[(4 * i + j) % n]? = some x := ⟨_, List.getElem?_eq_getElem (by rw [← HN.out]; exact Nat.mod_lt _ hnp)⟩
          obtain ⟨hx256, A, hqA, _, hcx⟩ := (HGO.out _ HQ.out).2.2 _ _ hx
          subst hqA
          have HXA : Hid (xAt l (4 * i + j) = x) := Lib.hid (by unfold xAt; rw [← HN.out, hx]; rfl)
          have hpi : (4 * (i : Int) + (j : Int)) % (n : Int) = (((4 * i + j) % n : Nat) : Int) := by simp
          obtain ⟨p, hp⟩ : ∃ p, (4 * i + j) % n = p := ⟨_, rfl⟩
          have hpn : p < n := by rw [← hp]; exact Nat.mod_lt _ hnp
          rw [hp] at hpi hcx
          have hp0 : (0 : Int) ≤ (p : Int) := by omega
          have hp1 : (p : Int) < (n : Int) := by omega
          have hj0 : (0 : Int) ≤ (j : Int) := by omega
          have hj1 : (j : Int) < 4 := by omega
          have hnz : ¬ (n : Int) = 0 := by omega
          clear hx hp hn0
          have f0 := HB.out.fr j
          have s0 : ∃ u, wr.cell? ⟨gx, j, none⟩ = some u := by
            match j, hj with
            | 0, _ => exact ⟨_, HB.out.cell 0 _ rfl⟩
            | 1, _ => exact ⟨_, HB.out.cell 1 _ rfl⟩
            | 2, _ => exact ⟨_, HB.out.cell 2 _ rfl⟩
            | 3, _ => exact ⟨_, HB.out.cell 3 _ rfl⟩
          obtain ⟨u, s0⟩ := s0
          go_upto_region 9 with fail
          clear hd1 hd2
          go_wp2_with fail
          refine ⟨⟨j + 1, by omega, by go_num, fun h => by omega, ?_, HQ.out.setCell (p := ⟨gx, j, none⟩) (Nat.le_refl _) _⟩, by simp [intOf]; omega⟩
          rw [← arr_set l i j hj, HXA.out]
          exact HB.out.set j _
        · have hex : arr l i j = arr l i 4 := by
            by_cases h : n = 0
            · have h0 := hn0 h
              subst h0
              have : l = [] := List.eq_nil_of_length_eq_zero (by rw [← HN.out]; exact h)
              rw [this]; exact arr_nil i
            · obtain rfl : j = 4 := by omega
              rfl
          rw [hex] at HB
          have hoo : (j < 4 ∧ n = 0) ∨ j = 4 := by omega
          clear hex hn0 hjj
          have HLE : Hid (∀ W, Below gx wo W → W.ownsRow (w.heap.size + 1) 50 12 u5 V.length (viewCells V) ∧ Below w0.heap.size w0 W) := Lib.hid fun W h => ⟨(HGO.out W h).1, (HGO.out W h).2.1⟩
          clear HGO
          obtain ⟨a0, ha0⟩ : ∃ a, xAt l (4 * i) = a := ⟨_, rfl⟩
          obtain ⟨a1, ha1⟩ : ∃ a, xAt l (4 * i + 1) = a := ⟨_, rfl⟩
          obtain ⟨a2, ha2⟩ : ∃ a, xAt l (4 * i + 2) = a := ⟨_, rfl⟩
          obtain ⟨a3, ha3⟩ : ∃ a, xAt l (4 * i + 3) = a := ⟨_, rfl⟩
          have hb0 : a0 < 256 := by rw [← ha0]; exact HXL.out _
          have hb1 : a1 < 256 := by rw [← ha1]; exact HXL.out _
          have hb2 : a2 < 256 := by rw [← ha2]; exact HXL.out _
          have hb3 : a3 < 256 := by rw [← ha3]; exact HXL.out _
          have HSV : Hid (svL l i = decide ((0 : Int) < (a0 : Int) % 8)) := Lib.hid (by rw [svL, ha0])
          have HB2 : Hid (Blk wr gx [.int .u8 a0, .int .u8 a1, .int .u8 a2, .int .u8 a3]) := Lib.hid (by
            have h := HB.out
            simp only [arr, ha0, ha1, ha2, ha3] at h
            exact h)
          clear HB ha0 ha1 ha2 ha3
          have t0 := (HX0.out.later (HLE.out wr HQ.out).2 hz0).reg 0 _ rfl
          rcases hoo with ⟨hj, rfl⟩ | rfl
          have hd1 : decide ((j : Int) < 4) = true := by simp; omega
          have hd2 : decide ((0 : Int) < ((0 : Nat) : Int)) = false := by simp
          go_upto_region 10 with fail
          rotate_left 1
          have hd1 : decide (((4 : Nat) : Int) < 4) = false := by simp
          go_upto_region 10 with fail
          all_goals
            have hlo : wr.heap.size ≤ wr.drew.heap.size := Nat.le_refl _
            have hm0 : 0 ≤ (a1 : Int) % (b.fl + 1) := Int.emod_nonneg _ (by omega)
            have hm1 : (a1 : Int) % (b.fl + 1) < b.fl + 1 := Int.emod_lt_of_pos _ (by omega)
            have hz0' : (0 : Int) ≤ (a0 : Int) := by omega
            have hz1' : (0 : Int) ≤ (a1 : Int) := by omega
            have hz2' : (0 : Int) ≤ (a2 : Int) := by omega
            have x0 := (HB2.out).reg 0 _ rfl
            have x1 := (HB2.out).reg 1 _ rfl
            have x2 := (HB2.out).reg 2 _ rfl
            have x3 := (HB2.out).reg 3 _ rfl
            refine Grow.wp_region_tail 37 (mkPlan 36 ptrS wr.heap.size [.bool false, .bool false, .bool false, .bool false, .int .i64 0, .int .i64 0, .int .i64 0, .int .u32 0, .int .u32 0, .int .u32 0, .int .u32 0, .int .u32 0]) (mkPlan_stable _ _ _ _) (by kernel_rfl) (by kernel_rfl) ?_
            intro opsq Hopsq
            simp only [List.take_succ_cons, List.take_zero, List.drop_succ_cons, List.drop_zero]
            repeat (first | (refine Grow.lex_move rfl ?_ rfl ?_; (· first | exact Grow.wanted_none | (rw [Hopsq.out]; rfl)); intro K hK; simp only [Grow.put_lit, Grow.setAt, Grow.eval_lit, Grow.ev]; refine hK _ _ ?_; clear hK K) | (refine Grow.lex_assign rfl ?_ rfl ?_; (· first | exact Grow.wanted_none | (rw [Hopsq.out]; rfl)); intro K hK; simp only [Grow.put_lit, Grow.setAt, Grow.eval_lit, Grow.ev]; refine hK _ _ ?_; clear hK K) | (refine Grow.lex_plain rfl rfl ?_ rfl ?_; (· first | exact Grow.wanted_none | (rw [Hopsq.out]; rfl)); apply Exists.intro; refine ⟨fun wq hCq _ => ?_, ?_⟩; (· (go_wp2_with fail; refine ⟨rfl, Below.refl _ _, ?_⟩; simp only [Grow.getD_lit, Grow.nth]; rfl)); intro K hK; simp only [Grow.put_lit, Grow.setAt]; refine hK _ _ ?_; clear hK K) | (refine Grow.lex_nilCheck rfl rfl ?_ rfl ?_; (· first | exact Grow.wanted_none | (rw [Hopsq.out]; rfl)); intro K hK; simp only [Grow.put_lit, Grow.setAt]; refine hK _ _ ?_; clear hK K) | (refine Grow.lex_skip ?_ ?_; (· (rw [Hopsq.out]; rfl)); intro K hK; simp only [Grow.put_lit, Grow.setAt]; refine hK _ _ ?_; clear hK K))
            refine lex_mk 36 ptrS wr.heap.size [.bool false, .bool false, .bool false, .bool false, .int .i64 0, .int .i64 0, .int .i64 0, .int .u32 0, .int .u32 0, .int .u32 0, .int .u32 0, .int .u32 0] 50 ?_ (fun wq => ?_) hlo ?_
            · first | exact Grow.wanted_none | (rw [Hopsq.out]; rfl)
            · go_simp
              first | rfl | exact ⟨rfl, rfl⟩
            intro g hg
            simp only [Grow.put_lit, Grow.setAt, ptrS]
            refine Grow.lex_nil ?_
            intro w2 hb2 hTq
            have hcc := mk_blk ptrS_inj hTq
            replace hb2 := Grow.Cl.base hb2
            clear hTq Hopsq opsq x0 x1 x2 x3 t0 hlo
            have hgg := hcc.lt
            have HG2 := Lib.hid hcc
            have HX2 := Lib.hid (HB2.out.next hb2)
            have hqz := HQ.out.size
            have HQ2 := Lib.hid (HQ.out.trans (hb2.mono (Nat.le_of_lt HB2.out.lt)))
            have hgx2 : gx < g := Nat.lt_of_lt_of_le HB2.out.lt hg
            clear hcc hb2 HB2
            have z0 := (HG2.out).cell 0 _ rfl
            have z1 := (HG2.out).cell 1 _ rfl
            have z2 := (HG2.out).cell 2 _ rfl
            have z3 := (HG2.out).cell 3 _ rfl
            have z4 := (HG2.out).cell 4 _ rfl
            have z5 := (HG2.out).cell 5 _ rfl
            have z6 := (HG2.out).cell 6 _ rfl
            have z7 := (HG2.out).cell 7 _ rfl
            have z8 := (HG2.out).cell 8 _ rfl
            have z9 := (HG2.out).cell 9 _ rfl
            have z10 := (HG2.out).cell 10 _ rfl
            have z11 := (HG2.out).cell 11 _ rfl
            have f0 := HG2.out.fr 0; have f1 := HG2.out.fr 1; have f2 := HG2.out.fr 2; have f3 := HG2.out.fr 3; have f4 := HG2.out.fr 4; have f5 := HG2.out.fr 5; have f6 := HG2.out.fr 6; have f7 := HG2.out.fr 7; have f8 := HG2.out.fr 8; have f9 := HG2.out.fr 9; have f10 := HG2.out.fr 10; have f11 := HG2.out.fr 11
            go_upto_region 11 with fail
            clear z0 z1 z2 z3 z4 z5 z6 z7 z8 z9 z10 z11 f0 f1 f2 f3 f4 f5 f6 f7 f8 f9 f10 f11
            generalize decide ((0 : Int) < (a0 : Int) % 4) = rd at *
            generalize decide ((0 : Int) < (a0 : Int) % 8) = sv at *
            generalize ((a0 : Int) / 8 % 2 == 0) = lg at *
            generalize ((a0 : Int) / 16 % 4 == 0) = lo at *
            generalize (a1 : Int) % (b.fl + 1) - 1 = fl at *
            generalize (a1 : Int) / 16 % 4 = dir at *
            generalize (a2 : Int) % 5 = ld at *
            have hgn : gx ≠ g := by omega
            have hgq : gx ≤ g := by omega
            have HG3 := Lib.hid ((((((((((((HG2.out.set 0 (.bool rd)).set 1 (.bool sv)).set 2 (.bool lg)).set 3 (.bool lo)).set 4 (.int .i64 fl)).set 5 (.int .i64 dir)).set 6 (.int .i64 ld)).set 7 (.int .u32 0)).set 8 (.int .u32 0)).set 9 (.int .u32 0)).set 10 (.int .u32 0)).set 11 (.int .u32 0))
            have HX3 := Lib.hid (Blk.other (i := 11) (Blk.other (i := 10) (Blk.other (i := 9) (Blk.other (i := 8) (Blk.other (i := 7) (Blk.other (i := 6) (Blk.other (i := 5) (Blk.other (i := 4) (Blk.other (i := 3) (Blk.other (i := 2) (Blk.other (i := 1) (Blk.other (i := 0) HX2.out hgn (.bool rd)) hgn (.bool sv)) hgn (.bool lg)) hgn (.bool lo)) hgn (.int .i64 fl)) hgn (.int .i64 dir)) hgn (.int .i64 ld)) hgn (.int .u32 0)) hgn (.int .u32 0)) hgn (.int .u32 0)) hgn (.int .u32 0)) hgn (.int .u32 0))
            have HQ3 := Lib.hid ((((((((((((HQ2.out.setCell (p := ⟨g, 0, none⟩) hgq (.bool rd)).setCell (p := ⟨g, 1, none⟩) hgq (.bool sv)).setCell (p := ⟨g, 2, none⟩) hgq (.bool lg)).setCell (p := ⟨g, 3, none⟩) hgq (.bool lo)).setCell (p := ⟨g, 4, none⟩) hgq (.int .i64 fl)).setCell (p := ⟨g, 5, none⟩) hgq (.int .i64 dir)).setCell (p := ⟨g, 6, none⟩) hgq (.int .i64 ld)).setCell (p := ⟨g, 7, none⟩) hgq (.int .u32 0)).setCell (p := ⟨g, 8, none⟩) hgq (.int .u32 0)).setCell (p := ⟨g, 9, none⟩) hgq (.int .u32 0)).setCell (p := ⟨g, 10, none⟩) hgq (.int .u32 0)).setCell (p := ⟨g, 11, none⟩) hgq (.int .u32 0))
            clear HG2 HX2 HQ2 hm0 hm1
            change Hid (Blk _ g [.bool rd, .bool sv, .bool lg, .bool lo, .int .i64 fl, .int .i64 dir, .int .i64 ld, .int .u32 0, .int .u32 0, .int .u32 0, .int .u32 0, .int .u32 0]) at HG3
            generalize (((((((((((w2.setCell ⟨g, 0, none⟩ (.bool rd)).setCell ⟨g, 1, none⟩ (.bool sv)).setCell ⟨g, 2, none⟩ (.bool lg)).setCell ⟨g, 3, none⟩ (.bool lo)).setCell ⟨g, 4, none⟩ (.int .i64 fl)).setCell ⟨g, 5, none⟩ (.int .i64 dir)).setCell ⟨g, 6, none⟩ (.int .i64 ld)).setCell ⟨g, 7, none⟩ (.int .u32 0)).setCell ⟨g, 8, none⟩ (.int .u32 0)).setCell ⟨g, 9, none⟩ (.int .u32 0)).setCell ⟨g, 10, none⟩ (.int .u32 0)).setCell ⟨g, 11, none⟩ (.int .u32 0) = w3 at *
            have x0 := (HX3.out).cell 0 _ rfl
            have x1 := (HX3.out).cell 1 _ rfl
            have x2 := (HX3.out).cell 2 _ rfl
            have x3 := (HX3.out).cell 3 _ rfl
            have z0 := (HG3.out).cell 0 _ rfl
            have z1 := (HG3.out).cell 1 _ rfl
            have z2 := (HG3.out).cell 2 _ rfl
            have z3 := (HG3.out).cell 3 _ rfl
            have z4 := (HG3.out).cell 4 _ rfl
            have z5 := (HG3.out).cell 5 _ rfl
            have z6 := (HG3.out).cell 6 _ rfl
            have z7 := (HG3.out).cell 7 _ rfl
            have z8 := (HG3.out).cell 8 _ rfl
            have z9 := (HG3.out).cell 9 _ rfl
            have z10 := (HG3.out).cell 10 _ rfl
            have z11 := (HG3.out).cell 11 _ rfl
            have f9 := HG3.out.fr 9; have f10 := HG3.out.fr 10; have f11 := HG3.out.fr 11
            go_upto_region 12 with fail
            clear x0 x1 x2 x3 z0 z1 z2 z3 z4 z5 z6 z7 z8 z9 z10 z11 f9 f10 f11
            generalize bits BinOp.and IntKind.u8 (a2 : Int) (a3 : Int) % 4294967296 = vc at *
            generalize bits BinOp.and IntKind.u8 (a3 : Int) 5 % 4294967296 = vu at *
            generalize bits BinOp.and IntKind.u8 ((a3 : Int) / 16) 6 % 4294967296 = vd at *
            have HG4 := Lib.hid (((HG3.out.set 9 (.int .u32 vc)).set 10 (.int .u32 vu)).set 11 (.int .u32 vd))
            have HQ4 := Lib.hid (((HQ3.out.setCell (p := ⟨g, 9, none⟩) hgq (.int .u32 vc)).setCell (p := ⟨g, 10, none⟩) hgq (.int .u32 vu)).setCell (p := ⟨g, 11, none⟩) hgq (.int .u32 vd))
            clear HG3 HX3 HQ3
            change Hid (Blk _ g [.bool rd, .bool sv, .bool lg, .bool lo, .int .i64 fl, .int .i64 dir, .int .i64 ld, .int .u32 0, .int .u32 0, .int .u32 vc, .int .u32 vu, .int .u32 vd]) at HG4
            generalize ((w3.setCell ⟨g, 9, none⟩ (.int .u32 vc)).setCell ⟨g, 10, none⟩ (.int .u32 vu)).setCell ⟨g, 11, none⟩ (.int .u32 vd) = w4 at *
            have z0 := (HG4.out).cell 0 _ rfl
            have z3 := (HG4.out).cell 3 _ rfl
            have f0 := HG4.out.fr 0
            go_upto_if 94 with fail
            go_cut [] from 93 to 95 (fun wx => ∃ rd2 : Bool, Blk wx g [.bool rd2, .bool sv, .bool lg, .bool lo, .int .i64 fl, .int .i64 dir, .int .i64 ld, .int .u32 0, .int .u32 0, .int .u32 vc, .int .u32 vu, .int .u32 vd] ∧ Below gx wo wx)
            case first =>
              cases lo
              · go_wp2_with fail
                go_meet
                exact ⟨rd, HG4.out, HQ4.out⟩
              · go_wp2_with fail
                go_meet
                exact ⟨false, HG4.out.set 0 (.bool false), HQ4.out.setCell (p := ⟨g, 0, none⟩) hgq (.bool false)⟩
            case rest =>
              obtain ⟨rd2, hg5, hq5⟩ := hcut
              generalize hwx : wc = w5 at *
              clear hwx
              have HG5 := Lib.hid hg5; have HQ5 := Lib.hid hq5
              clear hg5 hq5 HG4 HQ4 z0 z3 f0
              obtain ⟨ho5, hw5⟩ := HLE.out _ HQ5.out
              have HO5 := Lib.hid ho5; have HW5 := Lib.hid hw5
              clear ho5 hw5
              have z0 := (HG5.out).cell 0 _ rfl
              have z1 := (HG5.out).cell 1 _ rfl
              have z2 := (HG5.out).cell 2 _ rfl
              have z3 := (HG5.out).cell 3 _ rfl
              have z4 := (HG5.out).cell 4 _ rfl
              have z5 := (HG5.out).cell 5 _ rfl
              have z6 := (HG5.out).cell 6 _ rfl
              have z7 := (HG5.out).cell 7 _ rfl
              have z8 := (HG5.out).cell 8 _ rfl
              have z9 := (HG5.out).cell 9 _ rfl
              have z10 := (HG5.out).cell 10 _ rfl
              have z11 := (HG5.out).cell 11 _ rfl
              have hx5 : gx < w5.heap.size := by have := HG5.out.lt; omega
              have hww : w.heap.size + 1 ≤ w5.heap.size := by have := HZ.out; omega
              have hV100 : V.length ≤ 100 := by have := HVI.out; omega
              have HBN := Lib.hid (blk_news (Blk.new w5 (ViewV.cells ⟨rd2, sv, lg, lo, fl, dir, ld, (0#32, 0#32), vc, vu, vd⟩) 50))
              go_wp2_with ((at_builtin; refine wpList_append_own _ rfl _ _ 23 rfl (w.heap.size + 1) 50 i0 (.agg #[.bool false, .bool false, .bool false, .bool false, .int .i64 0, .int .i64 0, .int .i64 0, .int .u32 0, .int .u32 0, .int .u32 0, .int .u32 0, .int .u32 0]) 12 56 Try.underlying23 Hi.out Hz0.out Hz1.out Hz2.out rfl (by decide) _ _ _ rfl (HO5.out.alloc _) ⟨w5.heap.size, 0, none⟩ 1 1 (ViewV.cells ⟨rd2, sv, lg, lo, fl, dir, ld, (0#32, 0#32), vc, vu, vd⟩) rfl rfl HBN.out (view_one _) (by unfold maxLen; omega) (by omega) (by simp; omega) ?_))
              intro v' w9 hown2 hg9 hiff
              clear hiff
              have hb3 : Below w0.heap.size w0 w9 := (HW5.out.alloc HW5.out.size _).grown hg9 (by simp; omega) (fun q hq => by have := (HO5.out.lt q hq).1; have := HZ.out; omega)
              have hown3 : w9.ownsRow (w.heap.size + 1) 50 12 v' (V ++ [(⟨rd2, sv, lg, lo, fl, dir, ld, (0#32, 0#32), vc, vu, vd⟩ : ViewV)]).length (viewCells (V ++ [(⟨rd2, sv, lg, lo, fl, dir, ld, (0#32, 0#32), vc, vu, vd⟩ : ViewV)])) := by
                rw [viewCells_snoc, List.length_append]; exact hown2
              clear hown2 hg9 z0 z1 z2 z3 z4 z5 z6 z7 z8 z9 z10 z11
              go_wp2_with fail
              refine ⟨⟨i + 1, V ++ [(⟨rd2, sv, lg, lo, fl, dir, ld, (0#32, 0#32), vc, vu, vd⟩ : ViewV)], by omega, by go_num, by rw [List.length_append, HVI.out]; rfl, fun t m hm => ?_, hown3, hb3⟩, by simp [intOf]; omega⟩
              by_cases ht : t < V.length
              · rw [List.getElem?_append_left ht] at hm
                exact HP.out t m hm
              · have htl := (List.getElem?_eq_some_iff.1 hm).1
                rw [List.length_append, List.length_singleton] at htl
                obtain rfl : t = V.length := by omega
                rw [List.getElem?_append_right (Nat.le_refl _), Nat.sub_self] at hm
                obtain rfl := Option.some.inj hm
                rw [HVI.out]
                exact ⟨HSV.out.symm, rfl⟩
    · have hd : decide ((i : Int) < (k : Int)) = false := by simp; omega
      obtain rfl : i = k := by omega
      go_wp2_with fail
      go_ret
      exact ⟨_, V, rfl, HVI.out, HP.out, row_base HO.out (by omega), HWW.out.trans (HW.out.mono HWW.out.size)⟩
end Go.Proofs.Ytpgcpalemnnbaaa
