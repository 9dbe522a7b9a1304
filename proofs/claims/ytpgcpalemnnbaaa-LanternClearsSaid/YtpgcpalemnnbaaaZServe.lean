/- The walk over lantern.Serve. Conditions: cars, an image and views that can be read. -/
import Derived.Test.YtpgcpalemnnbaaaZImgI
import Derived.Test.YtpgcpalemnnbaaaZRec
namespace Go.Proofs.Ytpgcpalemnnbaaa
open Go.RowKit
set_option maxHeartbeats 8000000 in
set_option maxRecDepth 100000 in
theorem serve_any (b : BldV) (q : Option Addr) (cap : Nat) (m : ImgV) (a : ImgA) (V : List ViewV) (qv : Option Addr) (capv : Nat) (w : World) (hlen : b.cars.length ≤ 1000) (hsl : ∀ c ∈ b.cars, -9223372036854775808 ≤ c.sl ∧ c.sl < 9223372036854775807) (hp : m.ph.length ≤ 1000) (he : m.en.length ≤ 1000) (hr : RdC w q b.cars) (hm : RdM w m a) (hV : RdV w qv V) :
    Calls Try.prog 20 #[cvB b q cap, cvM m a, .slice qv V.length capv] w fun r w' => ∃ v, r = .returned v ∧ w'.ownsRow w.heap.size 65 5 v (servF b m V).length (recCells (servF b m V)) ∧ Below w.heap.size w w' := by
  obtain ⟨i0, hi, hy0, hy1, hy2⟩ := info_parts infoR
  have Hi := Lib.hid hi; have Hz0 := Lib.hid hy0; have Hz1 := Lib.hid hy1; have Hz2 := Lib.hid hy2
  clear hi hy0 hy1 hy2
  have X0 : Blk (w.alloc (.cells #[.int .i64 b.fl, .int .i64 b.deb, .int .i64 b.room, .int .i64 b.park, .float .f64 b.em, .float .f64 b.fu, .float .f64 b.ov, .slice q b.cars.length cap] 28)) w.heap.size [.int .i64 b.fl, .int .i64 b.deb, .int .i64 b.room, .int .i64 b.park, .float .f64 b.em, .float .f64 b.fu, .float .f64 b.ov, .slice q b.cars.length cap] := by
    have hx := Blk.new w [.int .i64 b.fl, .int .i64 b.deb, .int .i64 b.room, .int .i64 b.park, .float .f64 b.em, .float .f64 b.fu, .float .f64 b.ov, .slice q b.cars.length cap] 28
    exact hx
  replace X0 : Blk ((w.alloc (.cells #[.int .i64 b.fl, .int .i64 b.deb, .int .i64 b.room, .int .i64 b.park, .float .f64 b.em, .float .f64 b.fu, .float .f64 b.ov, .slice q b.cars.length cap] 28)).alloc (.cells #[.slice a.p m.ph.length a.pc, .slice a.f m.fg.length a.fc, .slice a.l m.lv.length a.lc, .slice a.e m.en.length a.ec] 56)) w.heap.size [.int .i64 b.fl, .int .i64 b.deb, .int .i64 b.room, .int .i64 b.park, .float .f64 b.em, .float .f64 b.fu, .float .f64 b.ov, .slice q b.cars.length cap] := X0.next (below1' _ _)
  have X1 : Blk ((w.alloc (.cells #[.int .i64 b.fl, .int .i64 b.deb, .int .i64 b.room, .int .i64 b.park, .float .f64 b.em, .float .f64 b.fu, .float .f64 b.ov, .slice q b.cars.length cap] 28)).alloc (.cells #[.slice a.p m.ph.length a.pc, .slice a.f m.fg.length a.fc, .slice a.l m.lv.length a.lc, .slice a.e m.en.length a.ec] 56)) (w.heap.size + 1) [.slice a.p m.ph.length a.pc, .slice a.f m.fg.length a.fc, .slice a.l m.lv.length a.lc, .slice a.e m.en.length a.ec] := by
    have hx := Blk.new (w.alloc (.cells #[.int .i64 b.fl, .int .i64 b.deb, .int .i64 b.room, .int .i64 b.park, .float .f64 b.em, .float .f64 b.fu, .float .f64 b.ov, .slice q b.cars.length cap] 28)) [.slice a.p m.ph.length a.pc, .slice a.f m.fg.length a.fc, .slice a.l m.lv.length a.lc, .slice a.e m.en.length a.ec] 56
    rw [World.size_alloc] at hx
    exact hx
  have XW : Below w.heap.size w (w.alloc (.cells #[.int .i64 b.fl, .int .i64 b.deb, .int .i64 b.room, .int .i64 b.park, .float .f64 b.em, .float .f64 b.fu, .float .f64 b.ov, .slice q b.cars.length cap] 28)) := below1' w _
  replace XW : Below w.heap.size w ((w.alloc (.cells #[.int .i64 b.fl, .int .i64 b.deb, .int .i64 b.room, .int .i64 b.park, .float .f64 b.em, .float .f64 b.fu, .float .f64 b.ov, .slice q b.cars.length cap] 28)).alloc (.cells #[.slice a.p m.ph.length a.pc, .slice a.f m.fg.length a.fc, .slice a.l m.lv.length a.lc, .slice a.e m.en.length a.ec] 56)) := XW.trans ((below1' _ _).mono XW.size)
  have HWW := Lib.hid XW; have HX0 := Lib.hid X0; have HX1 := Lib.hid X1
  clear XW X0 X1
  have HR := Lib.hid (hr.next HWW.out); have HM := Lib.hid (hm.next HWW.out); have HV := Lib.hid (hV.next HWW.out)
  have HL := Lib.hid hlen; have HSL := Lib.hid hsl; have HP := Lib.hid hp; have HE := Lib.hid he
  obtain ⟨n, hn⟩ : ∃ n, n = V.length := ⟨_, rfl⟩
  obtain ⟨k, hk⟩ : ∃ k, k = m.en.length := ⟨_, rfl⟩
  rw [← hk] at he
  have HS : Hid ((imgB b m = true ∧ n = b.cars.length → servF b m V = servL (setV b V) m.en) ∧ (¬ (imgB b m = true ∧ n = b.cars.length) → servF b m V = [])) := Lib.hid (by
    rw [hn]; exact ⟨fun h => if_pos h, fun h => if_neg h⟩)
  rw [← hn]
  have HN := Lib.hid hn; have HK := Lib.hid hk
  clear hr hm hV hlen hsl hn hk hp
  go_enter Try.func20, Try.ntmps20
  go_upto_region 1 with fail
  generalize ((w.alloc (.cells #[.int .i64 b.fl, .int .i64 b.deb, .int .i64 b.room, .int .i64 b.park, .float .f64 b.em, .float .f64 b.fu, .float .f64 b.ov, .slice q b.cars.length cap] 28)).alloc (.cells #[.slice a.p m.ph.length a.pc, .slice a.f m.fg.length a.fc, .slice a.l m.lv.length a.lc, .slice a.e m.en.length a.ec] 56)) = w0 at *
  generalize hg1 : w.heap.size + 1 = g1 at *
  have HG1 := Lib.hid hg1; have hq1 : w.heap.size + 1 ≤ g1 := by omega
  clear hg1
  have HW := Lib.hid (Below.refl w0.heap.size w0)
  have hz0 := HX0.out.lt; have hz1 := HX1.out.lt
  have k0 := (HX0.out).cell 0 _ rfl
  have k1 := (HX0.out).cell 1 _ rfl
  have k2 := (HX0.out).cell 2 _ rfl
  have k3 := (HX0.out).cell 3 _ rfl
  have k4 := (HX0.out).cell 4 _ rfl
  have k5 := (HX0.out).cell 5 _ rfl
  have k6 := (HX0.out).cell 6 _ rfl
  have k7 := (HX0.out).cell 7 _ rfl
  have y0 := (HX1.out).cell 0 _ rfl
  have y1 := (HX1.out).cell 1 _ rfl
  have y2 := (HX1.out).cell 2 _ rfl
  have y3 := (HX1.out).cell 3 _ rfl
  go_wp2_with fail
  refine (isImage_any b q cap m a _ HL.out HP.out HE.out HR.out HM.out).mono ?_
  rintro r w1 ⟨rfl, hb1⟩
  have HY0 := Lib.hid (HX0.out.next hb1); have HY1 := Lib.hid (HX1.out.next hb1)
  have HW1 := Lib.hid (HWW.out.trans (hb1.mono HWW.out.size))
  have HR1 := Lib.hid (HR.out.next hb1); have HM1 := Lib.hid (HM.out.next hb1); have HV1 := Lib.hid (HV.out.next hb1)
  have hz0' := HY0.out.lt; have hz1' := HY1.out.lt
  clear HX0 HX1 HWW HR HM HV hb1 k0 k1 k2 k3 k4 k5 k6 k7 y0 y1 y2 y3 HW hz0 hz1
  have k7 := HY0.out.cell 7 _ rfl
  have h3 : (imgB b m = false) ∨ (imgB b m = true ∧ ((n : Int) != (b.cars.length : Int)) = true) ∨ (imgB b m = true ∧ ((n : Int) != (b.cars.length : Int)) = false) := by
    cases imgB b m <;> cases ((n : Int) != (b.cars.length : Int)) <;> simp
  rcases h3 with c0 | ⟨c0, c1⟩ | ⟨c0, c1⟩
  · have HF : Hid (servF b m V = []) := Lib.hid (HS.out.2 fun h => by rw [c0] at h; simp at h)
    rw [c0]
    clear c0 HS
    go_wp2_with fail
    go_ret
    exact ⟨_, rfl, by rw [HF.out]; exact World.ownsRow_nil _ _ _ _, HW1.out⟩
  · have HF : Hid (servF b m V = []) := Lib.hid (HS.out.2 fun h => by have := h.2; simp [this] at c1)
    rw [c0]
    clear c0 HS
    go_wp2_with fail
    go_ret
    exact ⟨_, rfl, by rw [HF.out]; exact World.ownsRow_nil _ _ _ _, HW1.out⟩
  · have hnc : n = b.cars.length := by simp at c1; omega
    have HF : Hid (servF b m V = servL (setV b V) m.en) := Lib.hid (HS.out.1 ⟨c0, hnc⟩)
    have hn1 : n ≤ 1000 := by have := HL.out; omega
    rw [c0]
    clear c0 HS hnc
    go_upto_region 4 with fail
    have BL := Blk.new w1 [.int .u32 0, .int .u32 0] 33
    have hbl := below1' w1 (.cells #[.int .u32 0, .int .u32 0] 33)
    change Blk (w1.alloc (.cells #[.int .u32 0, .int .u32 0] 33)) _ _ at BL
    have HBL := Lib.hid BL
    have HZ0 := Lib.hid (HY0.out.next hbl); have HZ1 := Lib.hid (HY1.out.next hbl)
    have HW2 := Lib.hid (HW1.out.trans (hbl.mono HW1.out.size))
    have HGL : Hid (∀ W, Below w1.heap.size w1 W → RdC W q b.cars ∧ RdV W qv V ∧ RdX W a.e (entCells m.en)) := Lib.hid fun W h => ⟨HR1.out.next h, HV1.out.next h, (HM1.out.next h).2.2.2⟩
    have HWB := Lib.hid hbl
    clear BL hbl HY0 HY1 HW1 k7 c1 HR1 HM1 HV1
    generalize w1.alloc (.cells #[.int .u32 0, .int .u32 0] 33) = w2 at *
    generalize hgl : w1.heap.size = gl at *
    clear hgl
    go_wp2_with fail
    go_loopw [27] (fun v wr => ∃ i : Nat, i ≤ n ∧ v = .int .i64 i ∧ Blk wr gl [.int .u32 ((setV b (V.take i)).1.toNat : Int), .int .u32 ((setV b (V.take i)).2.toNat : Int)] ∧ Below gl w2 wr) (fun v _ => n - (intOf v).toNat)
    case atStart => exact ⟨0, by omega, rfl, HBL.out, Below.refl _ _⟩
    case round =>
      clear HBL
      obtain ⟨i, hi, rfl, hL, hb⟩ := hrel
      have HLB := Lib.hid hL; have HB := Lib.hid hb
      have hgr : gl < wr.heap.size := HLB.out.lt
      clear hL hb
      by_cases hlt : i < n
      · have hd : decide ((i : Int) < (n : Int)) = true := by simp; omega
        obtain ⟨v, hv⟩ : ∃ v, V[i]? = some v := ⟨_, List.getElem?_eq_getElem (by rw [← HN.out]; exact hlt)⟩
        have HT := Lib.hid (setV_take b V i v hv)
        obtain ⟨hrr, hvr, _⟩ := HGL.out wr (HWB.out.trans HB.out)
        obtain ⟨A, hqA, hA, hcc⟩ := hvr i v hv
        subst hqA
        have HRR := Lib.hid hrr
        have x0 : wr.cell? (A.add (i * 12)) = some (.bool v.rd) := hcc 0 _ rfl
        have x1 : wr.cell? ⟨(A.add (i * 12)).block, (A.add (i * 12)).off + 1, none⟩ = some (.bool v.sv) := by rw [← addr_one]; exact hcc 1 _ rfl
        have x2 : wr.cell? ⟨(A.add (i * 12)).block, (A.add (i * 12)).off + 2, none⟩ = some (.bool v.lg) := by rw [← addr_one]; exact hcc 2 _ rfl
        have x3 : wr.cell? ⟨(A.add (i * 12)).block, (A.add (i * 12)).off + 3, none⟩ = some (.bool v.lo) := by rw [← addr_one]; exact hcc 3 _ rfl
        have x4 : wr.cell? ⟨(A.add (i * 12)).block, (A.add (i * 12)).off + 4, none⟩ = some (.int .i64 v.fl) := by rw [← addr_one]; exact hcc 4 _ rfl
        have x5 : wr.cell? ⟨(A.add (i * 12)).block, (A.add (i * 12)).off + 5, none⟩ = some (.int .i64 v.dir) := by rw [← addr_one]; exact hcc 5 _ rfl
        have x6 : wr.cell? ⟨(A.add (i * 12)).block, (A.add (i * 12)).off + 6, none⟩ = some (.int .i64 v.ld) := by rw [← addr_one]; exact hcc 6 _ rfl
        have x7 : wr.cell? ⟨(A.add (i * 12)).block, (A.add (i * 12)).off + 7, none⟩ = some (.int .u32 (v.sh.1.toNat : Int)) := by rw [← addr_one]; exact hcc 7 _ rfl
        have x8 : wr.cell? ⟨(A.add (i * 12)).block, (A.add (i * 12)).off + 8, none⟩ = some (.int .u32 (v.sh.2.toNat : Int)) := by rw [← addr_one]; exact hcc 8 _ rfl
        have x9 : wr.cell? ⟨(A.add (i * 12)).block, (A.add (i * 12)).off + 9, none⟩ = some (.int .u32 v.car) := by rw [← addr_one]; exact hcc 9 _ rfl
        have x10 : wr.cell? ⟨(A.add (i * 12)).block, (A.add (i * 12)).off + 10, none⟩ = some (.int .u32 v.hu) := by rw [← addr_one]; exact hcc 10 _ rfl
        have x11 : wr.cell? ⟨(A.add (i * 12)).block, (A.add (i * 12)).off + 11, none⟩ = some (.int .u32 v.hd) := by rw [← addr_one]; exact hcc 11 _ rfl
        have hk0 : (0 : Int) ≤ (i : Int) := by omega
        have hk1 : (i : Int) < (n : Int) := by omega
        clear hcc hA hv hrr hvr
        have HBX := Lib.hid (HZ0.out.later HB.out (by omega))
        generalize setV b (V.take i) = s at *
        have X0 : Blk (wr.alloc (.cells #[.bool v.rd, .bool v.sv, .bool v.lg, .bool v.lo, .int .i64 v.fl, .int .i64 v.dir, .int .i64 v.ld, .int .u32 (v.sh.1.toNat : Int), .int .u32 (v.sh.2.toNat : Int), .int .u32 v.car, .int .u32 v.hu, .int .u32 v.hd] 50)) wr.heap.size [.bool v.rd, .bool v.sv, .bool v.lg, .bool v.lo, .int .i64 v.fl, .int .i64 v.dir, .int .i64 v.ld, .int .u32 (v.sh.1.toNat : Int), .int .u32 (v.sh.2.toNat : Int), .int .u32 v.car, .int .u32 v.hu, .int .u32 v.hd] := by
          have hx := Blk.new wr [.bool v.rd, .bool v.sv, .bool v.lg, .bool v.lo, .int .i64 v.fl, .int .i64 v.dir, .int .i64 v.ld, .int .u32 (v.sh.1.toNat : Int), .int .u32 (v.sh.2.toNat : Int), .int .u32 v.car, .int .u32 v.hu, .int .u32 v.hd] 50
          exact hx
        have XW : Below wr.heap.size wr (wr.alloc (.cells #[.bool v.rd, .bool v.sv, .bool v.lg, .bool v.lo, .int .i64 v.fl, .int .i64 v.dir, .int .i64 v.ld, .int .u32 (v.sh.1.toNat : Int), .int .u32 (v.sh.2.toNat : Int), .int .u32 v.car, .int .u32 v.hu, .int .u32 v.hd] 50)) := below1' wr _
        have HWW := Lib.hid XW; have HX0 := Lib.hid X0
        clear XW X0
        go_upto_region 7 with fail
        generalize (wr.alloc (.cells #[.bool v.rd, .bool v.sv, .bool v.lg, .bool v.lo, .int .i64 v.fl, .int .i64 v.dir, .int .i64 v.ld, .int .u32 (v.sh.1.toNat : Int), .int .u32 (v.sh.2.toNat : Int), .int .u32 v.car, .int .u32 v.hu, .int .u32 v.hd] 50)) = w6 at *
        have HW := Lib.hid (Below.refl w6.heap.size w6)
        have hz0 := HX0.out.lt
        have HL6 := Lib.hid (HLB.out.next HWW.out)
        have HB6 := Lib.hid (HB.out.trans (HWW.out.mono (Nat.le_of_lt hgr)))
        have HBX6 := Lib.hid (HBX.out.next HWW.out)
        have HRR6 := Lib.hid (HRR.out.next HWW.out)
        clear HLB HB HBX HRR x0 x1 x2 x3 x4 x5 x6 x7 x8 x9 x10 x11 hd HW hz0
        have t0 := (HBX6.out).reg 0 _ rfl
        have t1 := (HBX6.out).reg 1 _ rfl
        have t2 := (HBX6.out).reg 2 _ rfl
        have t3 := (HBX6.out).reg 3 _ rfl
        have t4 := (HBX6.out).reg 4 _ rfl
        have t5 := (HBX6.out).reg 5 _ rfl
        have t6 := (HBX6.out).reg 6 _ rfl
        have t7 := (HBX6.out).reg 7 _ rfl
        have u0 := (HX0.out).reg 0 _ rfl
        have u1 := (HX0.out).reg 1 _ rfl
        have u2 := (HX0.out).reg 2 _ rfl
        have u3 := (HX0.out).reg 3 _ rfl
        have u4 := (HX0.out).reg 4 _ rfl
        have u5 := (HX0.out).reg 5 _ rfl
        have u6 := (HX0.out).reg 6 _ rfl
        have u7 := (HX0.out).reg 7 _ rfl
        have u8 := (HX0.out).reg 8 _ rfl
        have u9 := (HX0.out).reg 9 _ rfl
        have u10 := (HX0.out).reg 10 _ rfl
        have u11 := (HX0.out).reg 11 _ rfl
        have z0 := (HL6.out).reg 0 _ rfl
        have z1 := (HL6.out).reg 1 _ rfl
        (refine Grow.wp_region_tail 5 Grow.noPlan Grow.noPlan_stable (by kernel_rfl) (by kernel_rfl) ?_; intro opsq Hopsq; simp only [List.take_succ_cons, List.take_zero, List.drop_succ_cons, List.drop_zero])
        repeat (first | (refine Grow.lex_move rfl ?_ rfl ?_; (· first | exact Grow.wanted_none | (rw [Hopsq.out]; rfl)); intro K hK; simp only [Grow.put_lit, Grow.setAt, Grow.eval_lit, Grow.ev]; refine hK _ _ ?_; clear hK K) | (refine Grow.lex_assign rfl ?_ rfl ?_; (· first | exact Grow.wanted_none | (rw [Hopsq.out]; rfl)); intro K hK; simp only [Grow.put_lit, Grow.setAt, Grow.eval_lit, Grow.ev]; refine hK _ _ ?_; clear hK K) | (refine Grow.lex_plain rfl rfl ?_ rfl ?_; (· first | exact Grow.wanted_none | (rw [Hopsq.out]; rfl)); apply Exists.intro; refine ⟨fun wq hCq _ => ?_, ?_⟩; (· (go_wp2_with fail; refine ⟨rfl, Below.refl _ _, ?_⟩; simp only [Grow.getD_lit, Grow.nth]; rfl)); intro K hK; simp only [Grow.put_lit, Grow.setAt]; refine hK _ _ ?_; clear hK K) | (refine Grow.lex_nilCheck rfl rfl ?_ rfl ?_; (· first | exact Grow.wanted_none | (rw [Hopsq.out]; rfl)); intro K hK; simp only [Grow.put_lit, Grow.setAt]; refine hK _ _ ?_; clear hK K) | (refine Grow.lex_skip ?_ ?_; (· (rw [Hopsq.out]; rfl)); intro K hK; simp only [Grow.put_lit, Grow.setAt]; refine hK _ _ ?_; clear hK K))
        (refine Grow.lex_call ?_ rfl ?_; (· first | exact Grow.wanted_none | (rw [Hopsq.out]; rfl)); apply Exists.intro; apply Exists.intro; refine ⟨fun wq => ?_, ?_⟩; (· (go_simp; exact ⟨rfl, rfl⟩)); apply Exists.intro; refine ⟨fun wq hCq hKq => ?_, ?_⟩; (· exact called_any b q cap v _ HL.out HSL.out (HRR6.out.next (Grow.Cl.base hCq))); intro K hK; simp only [Grow.put_lit, Grow.setAt]; refine hK _ _ ?_; clear hK K)
        repeat (first | (refine Grow.lex_move rfl ?_ rfl ?_; (· first | exact Grow.wanted_none | (rw [Hopsq.out]; rfl)); intro K hK; simp only [Grow.put_lit, Grow.setAt, Grow.eval_lit, Grow.ev]; refine hK _ _ ?_; clear hK K) | (refine Grow.lex_assign rfl ?_ rfl ?_; (· first | exact Grow.wanted_none | (rw [Hopsq.out]; rfl)); intro K hK; simp only [Grow.put_lit, Grow.setAt, Grow.eval_lit, Grow.ev]; refine hK _ _ ?_; clear hK K) | (refine Grow.lex_plain rfl rfl ?_ rfl ?_; (· first | exact Grow.wanted_none | (rw [Hopsq.out]; rfl)); apply Exists.intro; refine ⟨fun wq hCq _ => ?_, ?_⟩; (· (go_wp2_with fail; refine ⟨rfl, Below.refl _ _, ?_⟩; simp only [Grow.getD_lit, Grow.nth]; rfl)); intro K hK; simp only [Grow.put_lit, Grow.setAt]; refine hK _ _ ?_; clear hK K) | (refine Grow.lex_nilCheck rfl rfl ?_ rfl ?_; (· first | exact Grow.wanted_none | (rw [Hopsq.out]; rfl)); intro K hK; simp only [Grow.put_lit, Grow.setAt]; refine hK _ _ ?_; clear hK K) | (refine Grow.lex_skip ?_ ?_; (· (rw [Hopsq.out]; rfl)); intro K hK; simp only [Grow.put_lit, Grow.setAt]; refine hK _ _ ?_; clear hK K))
        (refine Grow.lex_call ?_ rfl ?_; (· first | exact Grow.wanted_none | (rw [Hopsq.out]; rfl)); apply Exists.intro; apply Exists.intro; refine ⟨fun wq => ?_, ?_⟩; (· (go_simp; exact ⟨rfl, rfl⟩)); apply Exists.intro; refine ⟨fun wq hCq hKq => ?_, ?_⟩; (· exact union_any s (calledC b v) _); intro K hK; simp only [Grow.put_lit, Grow.setAt]; refine hK _ _ ?_; clear hK K)
        repeat (first | (refine Grow.lex_move rfl ?_ rfl ?_; (· first | exact Grow.wanted_none | (rw [Hopsq.out]; rfl)); intro K hK; simp only [Grow.put_lit, Grow.setAt, Grow.eval_lit, Grow.ev]; refine hK _ _ ?_; clear hK K) | (refine Grow.lex_assign rfl ?_ rfl ?_; (· first | exact Grow.wanted_none | (rw [Hopsq.out]; rfl)); intro K hK; simp only [Grow.put_lit, Grow.setAt, Grow.eval_lit, Grow.ev]; refine hK _ _ ?_; clear hK K) | (refine Grow.lex_plain rfl rfl ?_ rfl ?_; (· first | exact Grow.wanted_none | (rw [Hopsq.out]; rfl)); apply Exists.intro; refine ⟨fun wq hCq _ => ?_, ?_⟩; (· (go_wp2_with fail; refine ⟨rfl, Below.refl _ _, ?_⟩; simp only [Grow.getD_lit, Grow.nth]; rfl)); intro K hK; simp only [Grow.put_lit, Grow.setAt]; refine hK _ _ ?_; clear hK K) | (refine Grow.lex_nilCheck rfl rfl ?_ rfl ?_; (· first | exact Grow.wanted_none | (rw [Hopsq.out]; rfl)); intro K hK; simp only [Grow.put_lit, Grow.setAt]; refine hK _ _ ?_; clear hK K) | (refine Grow.lex_skip ?_ ?_; (· (rw [Hopsq.out]; rfl)); intro K hK; simp only [Grow.put_lit, Grow.setAt]; refine hK _ _ ?_; clear hK K))
        (refine Grow.lex_nil ?_; intro w7 hb7 _; replace hb7 := Grow.Cl.base hb7; clear Hopsq opsq)
        have HL7 := Lib.hid (HL6.out.next hb7)
        have HB7 := Lib.hid (HB6.out.trans (hb7.mono (Nat.le_of_lt HL6.out.lt)))
        clear hb7 HL6 HB6 HBX6 HRR6 HX0 HWW t0 t1 t2 t3 t4 t5 t6 t7 u0 u1 u2 u3 u4 u5 u6 u7 u8 u9 u10 u11 z0 z1
        have l0 := (HL7.out).cell 0 _ rfl
        have l1 := (HL7.out).cell 1 _ rfl
        have f0 := HL7.out.fr 0; have f1 := HL7.out.fr 1
        rw [← HT.out]
        go_wp2_with fail
        exact ⟨⟨i + 1, by omega, by go_num, (HL7.out.set 0 _).set 1 _, (HB7.out.setCell (p := ⟨gl, 0, none⟩) (Nat.le_refl _) _).setCell (p := ⟨gl, 1, none⟩) (Nat.le_refl _) _⟩, by simp [intOf]; omega⟩
      · have hd : decide ((i : Int) < (n : Int)) = false := by simp; omega
        obtain rfl : i = n := by omega
        rw [show V.take i = V by rw [HN.out, List.take_length]] at HLB
        have HZZ := Lib.hid (HZ1.out.later HB.out (by omega))
        have y3 := HZZ.out.cell 3 _ rfl
        rw [← HK.out] at y3
        go_wp2_with fail
        clear y3 hd
        generalize setV b V = s at *
        go_loopw [10, 40] (fun v10 v wq => ∃ j : Nat, j ≤ k ∧ v = .int .i64 j ∧ wq.ownsRow (gl + 1) 65 5 v10 (servL s (m.en.take j)).length (recCells (servL s (m.en.take j))) ∧ Blk wq gl [.int .u32 (s.1.toNat : Int), .int .u32 (s.2.toNat : Int)] ∧ Below gl w2 wq) (fun _ v _ => k - (intOf v).toNat)
        case atStart => exact ⟨0, by omega, rfl, World.ownsRow_nil _ _ _ _, HLB.out, HB.out⟩
        case round =>
          clear HLB HB HZZ hgr
          obtain ⟨j, hj, rfl, hown, hL, hb⟩ := hrel
          have HLB := Lib.hid hL; have HB := Lib.hid hb; have HO := Lib.hid hown
          have hgr : gl < wr.heap.size := HLB.out.lt
          clear hL hb hown
          by_cases hlt2 : j < k
          · have hd : decide ((j : Int) < (k : Int)) = true := by simp; omega
            obtain ⟨e, hx⟩ : ∃ e, m.en[j]? = some e := ⟨_, List.getElem?_eq_getElem (by rw [← HK.out]; exact hlt2)⟩
            have HT := Lib.hid (servL_take s m.en j e hx)
            have hal : (servL s (m.en.take j)).length ≤ 1000 := by
              have h1 := servL_len s (m.en.take j)
              have h2 : (m.en.take j).length ≤ j := List.length_take_le _ _
              omega
            obtain ⟨_, _, her⟩ := HGL.out wr (HWB.out.trans HB.out)
            obtain ⟨A, hq, hA, x0, x1, x2, x3, x4⟩ := her.en5 hx
            rw [hq]
            clear hx hA her hq
            generalize servL s (m.en.take j) = la at *
            have X0 : Blk (wr.alloc (.cells #[.int .i64 e.1, .int .i64 e.2.1, .int .i64 e.2.2.1, .int .i64 e.2.2.2.1, .bool e.2.2.2.2] 80)) wr.heap.size [.int .i64 e.1, .int .i64 e.2.1, .int .i64 e.2.2.1, .int .i64 e.2.2.2.1, .bool e.2.2.2.2] := by
              have hx := Blk.new wr [.int .i64 e.1, .int .i64 e.2.1, .int .i64 e.2.2.1, .int .i64 e.2.2.2.1, .bool e.2.2.2.2] 80
              exact hx
            have XW : Below wr.heap.size wr (wr.alloc (.cells #[.int .i64 e.1, .int .i64 e.2.1, .int .i64 e.2.2.1, .int .i64 e.2.2.2.1, .bool e.2.2.2.2] 80)) := below1' wr _
            have HWW := Lib.hid XW; have HX0 := Lib.hid X0
            clear XW X0
            go_upto_region 13 with fail
            generalize (wr.alloc (.cells #[.int .i64 e.1, .int .i64 e.2.1, .int .i64 e.2.2.1, .int .i64 e.2.2.2.1, .bool e.2.2.2.2] 80)) = w6 at *
            have HW := Lib.hid (Below.refl w6.heap.size w6)
            have hz0 := HX0.out.lt
            have HL6 := Lib.hid (HLB.out.next HWW.out); have HO6 := Lib.hid (rowLater HO.out HWW.out)
            have HB6 := Lib.hid (HB.out.trans (HWW.out.mono (Nat.le_of_lt hgr)))
            clear HLB HO HB x0 x1 x2 x3 x4 hd HW hz0
            have l0 := (HL6.out).cell 0 _ rfl
            have l1 := (HL6.out).cell 1 _ rfl
            have r0 := (HX0.out).cell 0 _ rfl
            have r1 := (HX0.out).cell 1 _ rfl
            have r2 := (HX0.out).cell 2 _ rfl
            have r3 := (HX0.out).cell 3 _ rfl
            have r4 := (HX0.out).cell 4 _ rfl
            go_wp2_with fail
            refine (has_any s e.1 e.2.1 _).mono ?_
            rintro r w7 ⟨rfl, hb7⟩
            have HL7 := Lib.hid (HL6.out.next hb7); have HO7 := Lib.hid (rowLater HO6.out hb7); have HX7 := Lib.hid (HX0.out.next hb7)
            have HB7 := Lib.hid (HB6.out.trans (hb7.mono (Nat.le_of_lt HL6.out.lt)))
            clear hb7 HL6 HO6 HB6 HX0 HWW l0 l1 r0 r1 r2 r3 r4
            cases hh : has s e.1 e.2.1
            · have HH := Lib.hid hh
              clear hh
              go_wp2_with fail
              exact ⟨⟨j + 1, by omega, by go_num, by rw [HT.out, HH.out]; simpa using HO7.out, HL7.out, HB7.out⟩, by simp [intOf]; omega⟩
            · have HH := Lib.hid hh
              clear hh
              have r0 := (HX7.out).cell 0 _ rfl
              have r1 := (HX7.out).cell 1 _ rfl
              have r2 := (HX7.out).cell 2 _ rfl
              have r3 := (HX7.out).cell 3 _ rfl
              have r4 := (HX7.out).cell 4 _ rfl
              have hsz : gl < w7.heap.size := HL7.out.lt
              go_wp2_with ((at_builtin; refine wpList_append_own _ rfl _ _ 60 rfl (gl + 1) 65 i0 (.agg #[.int .i64 0, .int .i64 0, .int .i64 0, .int .i64 0, .int .i64 0]) 5 40 Try.underlying60 Hi.out Hz0.out Hz1.out Hz2.out rfl (by decide) _ _ _ rfl (HO7.out.alloc _) ⟨w7.heap.size, 0, none⟩ 1 1 (servR e).cell rfl rfl (rec_new _ (servR e) _) (rec_one _) (by unfold maxLen; omega) (by omega) (by simp; omega) ?_))
              intro v' w9 hown2 hg _
              have hal2 := below1' w7 (.cells #[.int .i64 (servR e).1, .int .i64 (servR e).2.1, .int .i64 (servR e).2.2.1, .int .i64 (servR e).2.2.2.1, .int .i64 (servR e).2.2.2.2] 65)
              have hb3 : Below gl w2 w9 := (HB7.out.trans (hal2.mono (Nat.le_of_lt hsz))).grown hg (by simp; omega) (fun q hq => by have := (HO7.out.lt q hq).1; omega)
              have hL3 := (HL7.out.next hal2).grown hg (row_ne HO7.out (by omega))
              have hown3 : w9.ownsRow (gl + 1) 65 5 v' (la ++ [servR e]).length (recCells (la ++ [servR e])) := by
                rw [recCells_snoc, List.length_append]; exact hown2
              clear hown2 hg r0 r1 r2 r3 r4
              go_wp2_with fail
              exact ⟨⟨j + 1, by omega, by go_num, by rw [HT.out, HH.out]; exact hown3, hL3, hb3⟩, by simp [intOf]; omega⟩
          · have hd : decide ((j : Int) < (k : Int)) = false := by simp; omega
            obtain rfl : j = k := by omega
            rw [show m.en.take j = m.en by rw [HK.out, List.take_length]] at HO
            have HB2 := Lib.hid (HW2.out.trans (HB.out.mono (by omega)))
            have hle : w.heap.size ≤ gl + 1 := by omega
            go_wp2_with fail
            go_ret
            exact ⟨_, rfl, by rw [HF.out]; exact row_base HO.out hle, HB2.out⟩
end Go.Proofs.Ytpgcpalemnnbaaa
