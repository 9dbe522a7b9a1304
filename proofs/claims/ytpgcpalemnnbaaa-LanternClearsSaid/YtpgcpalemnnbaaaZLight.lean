/- The walk over lantern.Light. Conditions: cars, views and sets of calls that can be read. -/
import Derived.Test.YtpgcpalemnnbaaaZLightV
import Derived.Test.YtpgcpalemnnbaaaZSample
import Derived.Test.YtpgcpalemnnbaaaZValid18
namespace Go.Proofs.Ytpgcpalemnnbaaa
open Go.RowKit
attribute [local go_sem ↓] run_neq_cs
def ptrS (g : Nat) : Value := .pointer (some ⟨g, 0, none⟩)
theorem ptrS_inj (x y : Nat) (h : ptrS x = ptrS y) : x = y := by unfold ptrS at h; simpa using h
set_option maxHeartbeats 8000000 in
set_option maxRecDepth 100000 in
theorem light_any (b : BldV) (q : Option Addr) (cap : Nat) (V : List ViewV) (qv : Option Addr) (capv : Nat) (B : List CS) (qb : Option Addr) (capb : Nat) (w : World) (hlen : b.cars.length ≤ 1000) (hsl : ∀ c ∈ b.cars, -9223372036854775808 ≤ c.sl ∧ c.sl < 9223372036854775807) (hr : RdC w q b.cars) (hV : RdV w qv V) (hB : RdX w qb (csCells B)) :
    Calls Try.prog 12 #[cvB b q cap, .slice qv V.length capv, .slice qb B.length capb] w fun e w' => ∃ q1 c1 q2 c2, e = .returned (.tuple #[cvL (lightF b V B) q1 c1 q2 c2, .int .i64 (lightE b V B)]) ∧ w'.ownsRow w.heap.size 33 2 (.slice q1 (lightF b V B).lit.length c1) (lightF b V B).lit.length (csCells (lightF b V B).lit) ∧ w'.ownsRow w.heap.size 4 1 (.slice q2 (lightF b V B).gong.length c2) (lightF b V B).gong.length (boolCells (lightF b V B).gong) ∧ Below w.heap.size w w' := by
  obtain ⟨i0, hi, hy0, hy1, hy2⟩ := info_parts infoCS
  have Hi := Lib.hid hi; have Hz0 := Lib.hid hy0; have Hz1 := Lib.hid hy1; have Hz2 := Lib.hid hy2
  clear hi hy0 hy1 hy2
  obtain ⟨j0, hi, hy0, hy1, hy2⟩ := info_parts infoBo
  have Hj := Lib.hid hi; have Hj0 := Lib.hid hy0; have Hj1 := Lib.hid hy1; have Hj2 := Lib.hid hy2
  clear hi hy0 hy1 hy2
  have X0 : Blk (w.alloc (.cells #[.int .i64 b.fl, .int .i64 b.deb, .int .i64 b.room, .int .i64 b.park, .float .f64 b.em, .float .f64 b.fu, .float .f64 b.ov, .slice q b.cars.length cap] 28)) w.heap.size [.int .i64 b.fl, .int .i64 b.deb, .int .i64 b.room, .int .i64 b.park, .float .f64 b.em, .float .f64 b.fu, .float .f64 b.ov, .slice q b.cars.length cap] := by
    have hx := Blk.new w [.int .i64 b.fl, .int .i64 b.deb, .int .i64 b.room, .int .i64 b.park, .float .f64 b.em, .float .f64 b.fu, .float .f64 b.ov, .slice q b.cars.length cap] 28
    exact hx
  replace X0 : Blk ((w.alloc (.cells #[.int .i64 b.fl, .int .i64 b.deb, .int .i64 b.room, .int .i64 b.park, .float .f64 b.em, .float .f64 b.fu, .float .f64 b.ov, .slice q b.cars.length cap] 28)).alloc (.cells #[.slice none 0 0, .slice none 0 0, .int .u32 0, .int .u32 0] 40)) w.heap.size [.int .i64 b.fl, .int .i64 b.deb, .int .i64 b.room, .int .i64 b.park, .float .f64 b.em, .float .f64 b.fu, .float .f64 b.ov, .slice q b.cars.length cap] := X0.next (below1' _ _)
  have X1 : Blk ((w.alloc (.cells #[.int .i64 b.fl, .int .i64 b.deb, .int .i64 b.room, .int .i64 b.park, .float .f64 b.em, .float .f64 b.fu, .float .f64 b.ov, .slice q b.cars.length cap] 28)).alloc (.cells #[.slice none 0 0, .slice none 0 0, .int .u32 0, .int .u32 0] 40)) (w.heap.size + 1) [.slice none 0 0, .slice none 0 0, .int .u32 0, .int .u32 0] := by
    have hx := Blk.new (w.alloc (.cells #[.int .i64 b.fl, .int .i64 b.deb, .int .i64 b.room, .int .i64 b.park, .float .f64 b.em, .float .f64 b.fu, .float .f64 b.ov, .slice q b.cars.length cap] 28)) [.slice none 0 0, .slice none 0 0, .int .u32 0, .int .u32 0] 40
    rw [World.size_alloc] at hx
    exact hx
  have XW : Below w.heap.size w (w.alloc (.cells #[.int .i64 b.fl, .int .i64 b.deb, .int .i64 b.room, .int .i64 b.park, .float .f64 b.em, .float .f64 b.fu, .float .f64 b.ov, .slice q b.cars.length cap] 28)) := below1' w _
  replace XW : Below w.heap.size w ((w.alloc (.cells #[.int .i64 b.fl, .int .i64 b.deb, .int .i64 b.room, .int .i64 b.park, .float .f64 b.em, .float .f64 b.fu, .float .f64 b.ov, .slice q b.cars.length cap] 28)).alloc (.cells #[.slice none 0 0, .slice none 0 0, .int .u32 0, .int .u32 0] 40)) := XW.trans ((below1' _ _).mono XW.size)
  have HWW := Lib.hid XW; have HX0 := Lib.hid X0; have HX1 := Lib.hid X1
  clear XW X0 X1
  have HR := Lib.hid (hr.next HWW.out); have HV := Lib.hid (hV.next HWW.out); have HBB := Lib.hid (hB.next HWW.out)
  have HL := Lib.hid hlen; have HSL := Lib.hid hsl
  obtain ⟨n, hn⟩ : ∃ n, n = V.length := ⟨_, rfl⟩
  obtain ⟨m, hm⟩ : ∃ m, m = B.length := ⟨_, rfl⟩
  have HF1 : Hid (lightOk b V B ↔ (validN b = 0 ∧ n = b.cars.length ∧ m = b.cars.length)) := Lib.hid (by rw [hn, hm]; rfl)
  rw [← hn, ← hm]
  have HN := Lib.hid hn; have HM := Lib.hid hm
  clear hr hV hB hlen hsl hn hm
  go_enter Try.func12, Try.ntmps12
  go_upto_region 1 with fail
  generalize ((w.alloc (.cells #[.int .i64 b.fl, .int .i64 b.deb, .int .i64 b.room, .int .i64 b.park, .float .f64 b.em, .float .f64 b.fu, .float .f64 b.ov, .slice q b.cars.length cap] 28)).alloc (.cells #[.slice none 0 0, .slice none 0 0, .int .u32 0, .int .u32 0] 40)) = w0 at *
  generalize hg1 : w.heap.size + 1 = g1 at *
  have HG1 := Lib.hid hg1; have hq1 : w.heap.size + 1 ≤ g1 := by omega
  clear hg1
  have HW := Lib.hid (Below.refl w0.heap.size w0)
  have hz0 := HX0.out.lt; have hz1 := HX1.out.lt
  have k0 := (HX0.out).cell 0 _ rfl
  have k1 := (HX0.out).cell 1 _ rfl
  have k2 := (HX0.out).cell 2 _ rfl
  have k3 := (HX0.out).cell 3 _ rfl
  have k4 := (HX0.out).cell 4 _ rfl
  have k5 := (HX0.out).cell 5 _ rfl
  have k6 := (HX0.out).cell 6 _ rfl
  have k7 := (HX0.out).cell 7 _ rfl
  go_wp2_with fail
  refine (valid_any b q cap _ (by have := HL.out; unfold maxLen; omega) HR.out).mono ?_
  rintro e w1 ⟨rfl, hb1⟩
  have HY0 := Lib.hid (HX0.out.next hb1); have HY1 := Lib.hid (HX1.out.next hb1)
  have HW1 := Lib.hid (HWW.out.trans (hb1.mono HWW.out.size))
  have HR1 := Lib.hid (HR.out.next hb1); have HV1 := Lib.hid (HV.out.next hb1); have HB1 := Lib.hid (HBB.out.next hb1)
  clear HX0 HX1 HWW HR HV HBB hb1 k0 k1 k2 k3 k4 k5 k6 k7 HW
  have hz0' := HY0.out.lt; have hz1' := HY1.out.lt
  clear hz0 hz1
  have k7 := HY0.out.cell 7 _ rfl
  by_cases hok : validN b = 0 ∧ n = b.cars.length ∧ m = b.cars.length
  rotate_left 1
  · have h3 : (validN b != 0) = true ∨ ((validN b != 0) = false ∧ ((n : Int) != (b.cars.length : Int)) = true) ∨ ((validN b != 0) = false ∧ ((n : Int) != (b.cars.length : Int)) = false ∧ ((m : Int) != (b.cars.length : Int)) = true) := by
      by_cases h1 : validN b = 0
      · by_cases h2 : n = b.cars.length
        · refine .inr (.inr ⟨by simpa using h1, by simp; omega, ?_⟩)
          have : ¬ m = b.cars.length := fun h => hok ⟨h1, h2, h⟩
          simp; omega
        · exact .inr (.inl ⟨by simpa using h1, by simp; omega⟩)
      · exact .inl (by simpa using h1)
    have HE : Hid (¬ lightOk b V B) := Lib.hid fun h => hok (HF1.out.1 h)
    have z0 := HY1.out.fr 0; have z1 := HY1.out.fr 1; have z2 := HY1.out.fr 2; have z3 := HY1.out.fr 3
    have y0 := (HY1.out).cell 0 _ rfl
    have y1 := (HY1.out).cell 1 _ rfl
    have y2 := (HY1.out).cell 2 _ rfl
    have y3 := (HY1.out).cell 3 _ rfl
    clear hok HF1
    rcases h3 with c0 | ⟨c0, c1⟩ | ⟨c0, c1, c2⟩
    all_goals
      go_wp2_with fail
      have R3 := (((HY1.out.set 0 (.slice none 0 0)).set 1 (.slice none 0 0)).set 2 (.int .u32 0)).set 3 (.int .u32 0)
      have r0 := (R3).cell 0 _ rfl
      have r1 := (R3).cell 1 _ rfl
      have r2 := (R3).cell 2 _ rfl
      have r3 := (R3).cell 3 _ rfl
      refine bodyPost_ret (v := .tuple #[cvL lan0 none 0 none 0, .int .i64 1]) (by simp [results, Try.results12, go_sem, r0, r1, r2, r3, lan0]) rfl ⟨none, 0, none, 0, ?_⟩
      rw [lightF, lightE, if_neg HE.out, if_neg HE.out]
      exact ⟨rfl, World.ownsRow_nil _ _ _ _, World.ownsRow_nil _ _ _ _, (((HW1.out.setCell (p := ⟨g1, 0, none⟩) (by show w.heap.size ≤ g1; omega) _).setCell (p := ⟨g1, 1, none⟩) (by show w.heap.size ≤ g1; omega) _).setCell (p := ⟨g1, 2, none⟩) (by show w.heap.size ≤ g1; omega) _).setCell (p := ⟨g1, 3, none⟩) (by show w.heap.size ≤ g1; omega) _⟩
  · have c0 : (validN b != 0) = false := by simpa using hok.1
    have c1 : ((n : Int) != (b.cars.length : Int)) = false := by simp; omega
    have c2 : ((m : Int) != (b.cars.length : Int)) = false := by simp; omega
    have hnm : n = m := by omega
    have HE : Hid (lightOk b V B) := Lib.hid (HF1.out.2 hok)
    have hn1 : n ≤ 1000 := by have := HL.out; omega
    clear hok HF1
    subst hnm
    go_upto_region 4 with fail
    have BL := Blk.new w1 [.slice none 0 0, .slice none 0 0, .int .u32 0, .int .u32 0] 40
    have hbl := below1' w1 (.cells #[.slice none 0 0, .slice none 0 0, .int .u32 0, .int .u32 0] 40)
    change Blk (w1.alloc (.cells #[.slice none 0 0, .slice none 0 0, .int .u32 0, .int .u32 0] 40)) _ _ at BL
    have HBL := Lib.hid BL
    have HBY := Lib.hid (HY0.out.next hbl); have HRY := Lib.hid (HY1.out.next hbl)
    have HW2 := Lib.hid (HW1.out.trans (hbl.mono HW1.out.size))
    have HW12 := Lib.hid hbl
    clear BL hbl HY0 HY1 HW1 k7 c0 c1 c2
    generalize w1.alloc (.cells #[.slice none 0 0, .slice none 0 0, .int .u32 0, .int .u32 0] 40) = w2 at *
    have hww : w.heap.size < w1.heap.size := by omega
    have HGL : Hid (∀ W, Below w1.heap.size w1 W → RdC W q b.cars ∧ RdV W qv V ∧ RdX W qb (csCells B)) := Lib.hid fun W h => ⟨HR1.out.next h, HV1.out.next h, HB1.out.next h⟩
    clear HR1 HV1 HB1
    generalize w1.heap.size = gl at *
    go_wp2_with fail
    go_loopw [34] (fun v wr => ∃ (i : Nat) (q1 : Option Addr) (c1 : Nat) (q2 : Option Addr) (c2 : Nat), i ≤ n ∧ v = .int .i64 i ∧ Blk wr gl (lanC (lightK b V B i) q1 c1 q2 c2) ∧ wr.ownsRow (gl + 1) 33 2 (.slice q1 i c1) i (csCells (lightK b V B i).lit) ∧ wr.ownsRow (gl + 1) 4 1 (.slice q2 i c2) i (boolCells (lightK b V B i).gong) ∧ Below gl w2 wr) (fun v _ => n - (intOf v).toNat)
    case atStart => exact ⟨0, none, 0, none, 0, by omega, rfl, HBL.out, World.ownsRow_nil _ _ _ _, World.ownsRow_nil _ _ _ _, Below.refl _ _⟩
    case round =>
      obtain ⟨i, q1, c1, q2, c2, hin, rfl, hL, ho1, ho2, hb⟩ := hrel
      obtain ⟨e1, e2⟩ := lightK_len b V B i (by rw [← HN.out]; exact hin) (by rw [← HM.out]; omega)
      have hE1 := Lib.hid e1; have hE2 := Lib.hid e2
      unfold lanC at hL
      rw [e1, e2] at hL
      have HLB := Lib.hid hL; have HO1 := Lib.hid ho1; have HO2 := Lib.hid ho2; have HB := Lib.hid hb
      have hgr : gl < wr.heap.size := HLB.out.lt
      have HBR := Lib.hid (HBY.out.later HB.out (by omega))
      clear hL ho1 ho2 hb e1 e2 HBL
      by_cases hlt : i < n
      · have hd : decide ((i : Int) < (n : Int)) = true := by simp; omega
        obtain ⟨v, hv⟩ : ∃ v, V[i]? = some v := ⟨_, List.getElem?_eq_getElem (by rw [← HN.out]; exact hlt)⟩
        obtain ⟨p, hp⟩ : ∃ p, B[i]? = some p := ⟨_, List.getElem?_eq_getElem (by rw [← HM.out]; omega)⟩
        have HST := Lib.hid (lightK_succ b V B i v p hv hp)
        have hwr := HW12.out.trans HB.out
        obtain ⟨hrr, hvr, hbr⟩ := HGL.out wr hwr
        obtain ⟨A, hqA, hA, hcc⟩ := hvr i v hv
        obtain ⟨A', hqA', _, _, _⟩ := hbr.cs hp
        have HPP := Lib.hid hp
        subst hqA hqA'
        have HRR := Lib.hid hrr
        have x0 : wr.cell? (A.add (i * 12)) = some (.bool v.rd) := hcc 0 _ rfl
        have x1 : wr.cell? ⟨(A.add (i * 12)).block, (A.add (i * 12)).off + 1, none⟩ = some (.bool v.sv) := by rw [← addr_one]; exact hcc 1 _ rfl
        have x2 : wr.cell? ⟨(A.add (i * 12)).block, (A.add (i * 12)).off + 2, none⟩ = some (.bool v.lg) := by rw [← addr_one]; exact hcc 2 _ rfl
        have x3 : wr.cell? ⟨(A.add (i * 12)).block, (A.add (i * 12)).off + 3, none⟩ = some (.bool v.lo) := by rw [← addr_one]; exact hcc 3 _ rfl
        have x4 : wr.cell? ⟨(A.add (i * 12)).block, (A.add (i * 12)).off + 4, none⟩ = some (.int .i64 v.fl) := by rw [← addr_one]; exact hcc 4 _ rfl
        have x5 : wr.cell? ⟨(A.add (i * 12)).block, (A.add (i * 12)).off + 5, none⟩ = some (.int .i64 v.dir) := by rw [← addr_one]; exact hcc 5 _ rfl
        have x6 : wr.cell? ⟨(A.add (i * 12)).block, (A.add (i * 12)).off + 6, none⟩ = some (.int .i64 v.ld) := by rw [← addr_one]; exact hcc 6 _ rfl
        have x7 : wr.cell? ⟨(A.add (i * 12)).block, (A.add (i * 12)).off + 7, none⟩ = some (.int .u32 (v.sh.1.toNat : Int)) := by rw [← addr_one]; exact hcc 7 _ rfl
        have x8 : wr.cell? ⟨(A.add (i * 12)).block, (A.add (i * 12)).off + 8, none⟩ = some (.int .u32 (v.sh.2.toNat : Int)) := by rw [← addr_one]; exact hcc 8 _ rfl
        have x9 : wr.cell? ⟨(A.add (i * 12)).block, (A.add (i * 12)).off + 9, none⟩ = some (.int .u32 v.car) := by rw [← addr_one]; exact hcc 9 _ rfl
        have x10 : wr.cell? ⟨(A.add (i * 12)).block, (A.add (i * 12)).off + 10, none⟩ = some (.int .u32 v.hu) := by rw [← addr_one]; exact hcc 10 _ rfl
        have x11 : wr.cell? ⟨(A.add (i * 12)).block, (A.add (i * 12)).off + 11, none⟩ = some (.int .u32 v.hd) := by rw [← addr_one]; exact hcc 11 _ rfl
        have hk0 : (0 : Int) ≤ (i : Int) := by omega
        have hk1 : (i : Int) < (n : Int) := by omega
        clear hcc hA hv hp hrr hvr hbr hwr
        generalize lightK b V B i = s at *
        have X0 : Blk (wr.alloc (.cells #[.bool v.rd, .bool v.sv, .bool v.lg, .bool v.lo, .int .i64 v.fl, .int .i64 v.dir, .int .i64 v.ld, .int .u32 (v.sh.1.toNat : Int), .int .u32 (v.sh.2.toNat : Int), .int .u32 v.car, .int .u32 v.hu, .int .u32 v.hd] 50)) wr.heap.size [.bool v.rd, .bool v.sv, .bool v.lg, .bool v.lo, .int .i64 v.fl, .int .i64 v.dir, .int .i64 v.ld, .int .u32 (v.sh.1.toNat : Int), .int .u32 (v.sh.2.toNat : Int), .int .u32 v.car, .int .u32 v.hu, .int .u32 v.hd] := by
          have hx := Blk.new wr [.bool v.rd, .bool v.sv, .bool v.lg, .bool v.lo, .int .i64 v.fl, .int .i64 v.dir, .int .i64 v.ld, .int .u32 (v.sh.1.toNat : Int), .int .u32 (v.sh.2.toNat : Int), .int .u32 v.car, .int .u32 v.hu, .int .u32 v.hd] 50
          exact hx
        have XW : Below wr.heap.size wr (wr.alloc (.cells #[.bool v.rd, .bool v.sv, .bool v.lg, .bool v.lo, .int .i64 v.fl, .int .i64 v.dir, .int .i64 v.ld, .int .u32 (v.sh.1.toNat : Int), .int .u32 (v.sh.2.toNat : Int), .int .u32 v.car, .int .u32 v.hu, .int .u32 v.hd] 50)) := below1' wr _
        have HWW := Lib.hid XW; have HX0 := Lib.hid X0
        clear XW X0
        go_upto_region 7 with fail
        generalize (wr.alloc (.cells #[.bool v.rd, .bool v.sv, .bool v.lg, .bool v.lo, .int .i64 v.fl, .int .i64 v.dir, .int .i64 v.ld, .int .u32 (v.sh.1.toNat : Int), .int .u32 (v.sh.2.toNat : Int), .int .u32 v.car, .int .u32 v.hu, .int .u32 v.hd] 50)) = w6 at *
        have HW := Lib.hid (Below.refl w6.heap.size w6)
        have hz0 := HX0.out.lt
        have HL6 := Lib.hid (HLB.out.next HWW.out); have HO16 := Lib.hid (rowLater HO1.out HWW.out); have HO26 := Lib.hid (rowLater HO2.out HWW.out)
        have HB6 := Lib.hid (HB.out.trans (HWW.out.mono (Nat.le_of_lt hgr)))
        have HBX := Lib.hid (HBR.out.next HWW.out)
        have HRR6 := Lib.hid (HRR.out.next HWW.out)
        clear HLB HO1 HO2 HB HBR HRR x0 x1 x2 x3 x4 x5 x6 x7 x8 x9 x10 x11 hd HW hz0
        have t0 := (HBX.out).reg 0 _ rfl
        have t1 := (HBX.out).reg 1 _ rfl
        have t2 := (HBX.out).reg 2 _ rfl
        have t3 := (HBX.out).reg 3 _ rfl
        have t4 := (HBX.out).reg 4 _ rfl
        have t5 := (HBX.out).reg 5 _ rfl
        have t6 := (HBX.out).reg 6 _ rfl
        have t7 := (HBX.out).reg 7 _ rfl
        have u0 := (HX0.out).reg 0 _ rfl
        have u1 := (HX0.out).reg 1 _ rfl
        have u2 := (HX0.out).reg 2 _ rfl
        have u3 := (HX0.out).reg 3 _ rfl
        have u4 := (HX0.out).reg 4 _ rfl
        have u5 := (HX0.out).reg 5 _ rfl
        have u6 := (HX0.out).reg 6 _ rfl
        have u7 := (HX0.out).reg 7 _ rfl
        have u8 := (HX0.out).reg 8 _ rfl
        have u9 := (HX0.out).reg 9 _ rfl
        have u10 := (HX0.out).reg 10 _ rfl
        have u11 := (HX0.out).reg 11 _ rfl
        have z2 := (HL6.out).reg 2 _ rfl
        have z3 := (HL6.out).reg 3 _ rfl
        have hlo : w6.heap.size ≤ w6.drew.heap.size := Nat.le_refl _
        refine Grow.wp_region_tail 7 (mkPlan 6 ptrS w6.heap.size [.int .u32 0, .int .u32 0]) (mkPlan_stable _ _ _ _) (by kernel_rfl) (by kernel_rfl) ?_
        intro opsq Hopsq
        simp only [List.take_succ_cons, List.take_zero, List.drop_succ_cons, List.drop_zero]
        repeat (first | (refine Grow.lex_move rfl ?_ rfl ?_; (· first | exact Grow.wanted_none | (rw [Hopsq.out]; rfl)); intro K hK; simp only [Grow.put_lit, Grow.setAt, Grow.eval_lit, Grow.ev]; refine hK _ _ ?_; clear hK K) | (refine Grow.lex_assign rfl ?_ rfl ?_; (· first | exact Grow.wanted_none | (rw [Hopsq.out]; rfl)); intro K hK; simp only [Grow.put_lit, Grow.setAt, Grow.eval_lit, Grow.ev]; refine hK _ _ ?_; clear hK K) | (refine Grow.lex_plain rfl rfl ?_ rfl ?_; (· first | exact Grow.wanted_none | (rw [Hopsq.out]; rfl)); apply Exists.intro; refine ⟨fun wq hCq _ => ?_, ?_⟩; (· (go_wp2_with fail; refine ⟨rfl, Below.refl _ _, ?_⟩; simp only [Grow.getD_lit, Grow.nth]; rfl)); intro K hK; simp only [Grow.put_lit, Grow.setAt]; refine hK _ _ ?_; clear hK K) | (refine Grow.lex_nilCheck rfl rfl ?_ rfl ?_; (· first | exact Grow.wanted_none | (rw [Hopsq.out]; rfl)); intro K hK; simp only [Grow.put_lit, Grow.setAt]; refine hK _ _ ?_; clear hK K) | (refine Grow.lex_skip ?_ ?_; (· (rw [Hopsq.out]; rfl)); intro K hK; simp only [Grow.put_lit, Grow.setAt]; refine hK _ _ ?_; clear hK K))
        (refine Grow.lex_call ?_ rfl ?_; (· first | exact Grow.wanted_none | (rw [Hopsq.out]; rfl)); apply Exists.intro; apply Exists.intro; refine ⟨fun wq => ?_, ?_⟩; (· (go_simp; exact ⟨rfl, rfl⟩)); apply Exists.intro; refine ⟨fun wq hCq hKq => ?_, ?_⟩; (· exact called_any b q cap v _ HL.out HSL.out (HRR6.out.next (Grow.Cl.base hCq))); intro K hK; simp only [Grow.put_lit, Grow.setAt]; refine hK _ _ ?_; clear hK K)
        repeat (first | (refine Grow.lex_move rfl ?_ rfl ?_; (· first | exact Grow.wanted_none | (rw [Hopsq.out]; rfl)); intro K hK; simp only [Grow.put_lit, Grow.setAt, Grow.eval_lit, Grow.ev]; refine hK _ _ ?_; clear hK K) | (refine Grow.lex_assign rfl ?_ rfl ?_; (· first | exact Grow.wanted_none | (rw [Hopsq.out]; rfl)); intro K hK; simp only [Grow.put_lit, Grow.setAt, Grow.eval_lit, Grow.ev]; refine hK _ _ ?_; clear hK K) | (refine Grow.lex_plain rfl rfl ?_ rfl ?_; (· first | exact Grow.wanted_none | (rw [Hopsq.out]; rfl)); apply Exists.intro; refine ⟨fun wq hCq _ => ?_, ?_⟩; (· (go_wp2_with fail; refine ⟨rfl, Below.refl _ _, ?_⟩; simp only [Grow.getD_lit, Grow.nth]; rfl)); intro K hK; simp only [Grow.put_lit, Grow.setAt]; refine hK _ _ ?_; clear hK K) | (refine Grow.lex_nilCheck rfl rfl ?_ rfl ?_; (· first | exact Grow.wanted_none | (rw [Hopsq.out]; rfl)); intro K hK; simp only [Grow.put_lit, Grow.setAt]; refine hK _ _ ?_; clear hK K) | (refine Grow.lex_skip ?_ ?_; (· (rw [Hopsq.out]; rfl)); intro K hK; simp only [Grow.put_lit, Grow.setAt]; refine hK _ _ ?_; clear hK K))
        (refine Grow.lex_call ?_ rfl ?_; (· first | exact Grow.wanted_none | (rw [Hopsq.out]; rfl)); apply Exists.intro; apply Exists.intro; refine ⟨fun wq => ?_, ?_⟩; (· (go_simp; exact ⟨rfl, rfl⟩)); apply Exists.intro; refine ⟨fun wq hCq hKq => ?_, ?_⟩; (· exact minus_any (calledC b v) s.clr _); intro K hK; simp only [Grow.put_lit, Grow.setAt]; refine hK _ _ ?_; clear hK K)
        refine lex_mk 6 ptrS w6.heap.size [.int .u32 0, .int .u32 0] 33 ?_ (fun wq => ?_) hlo ?_
        · first | exact Grow.wanted_none | (rw [Hopsq.out]; rfl)
        · go_simp
          first | rfl | exact ⟨rfl, rfl⟩
        intro gc hgc
        simp only [Grow.put_lit, Grow.setAt, ptrS]
        refine Grow.lex_nil ?_
        intro w7 hb7 hTq
        have hcc := mk_blk ptrS_inj hTq
        replace hb7 := Grow.Cl.base hb7
        clear hTq Hopsq opsq t0 t1 t2 t3 t4 t5 t6 t7 u0 u1 u2 u3 u4 u5 u6 u7 u8 u9 u10 u11 z2 z3 hlo
        have hgg := hcc.lt
        have HC7 := Lib.hid hcc
        have HL7 := Lib.hid (HL6.out.next hb7); have HO17 := Lib.hid (rowLater HO16.out hb7); have HO27 := Lib.hid (rowLater HO26.out hb7)
        have hg6 : gl ≤ w6.heap.size := Nat.le_of_lt HL6.out.lt
        have hgc6 : gl < gc := by have := HL6.out.lt; omega
        have HB7 := Lib.hid (HB6.out.trans (hb7.mono hg6))
        have HN1 := Lib.hid (row_nelt HO16.out hgc); have HN2 := Lib.hid (row_nelt HO26.out hgc)
        have hne : gl ≠ gc := by omega
        clear hcc hb7 HL6 HO16 HO26 HB6 HBX HRR6 HX0 HWW
        obtain ⟨c, hc⟩ : ∃ c, minus (calledC b v) s.clr = c := ⟨_, rfl⟩
        rw [hc]
        have HCQ := Lib.hid hc
        clear hc
        have c0 := (HC7.out).cell 0 _ rfl
        have c1 := (HC7.out).cell 1 _ rfl
        have f0 := HC7.out.fr 0; have f1 := HC7.out.fr 1
        go_upto_region 8 with fail
        have HC8 := Lib.hid ((HC7.out.set 0 (.int .u32 (c.1.toNat : Int))).set 1 (.int .u32 (c.2.toNat : Int)))
        have HL8 := Lib.hid ((HL7.out.other (i := 0) hne (.int .u32 (c.1.toNat : Int))).other (i := 1) hne (.int .u32 (c.2.toNat : Int)))
        have HO18 := Lib.hid (row_set (i := 1) (u := .int .u32 (c.2.toNat : Int)) (row_set (i := 0) (u := .int .u32 (c.1.toNat : Int)) HO17.out HN1.out) HN1.out)
        have HO28 := Lib.hid (row_set (i := 1) (u := .int .u32 (c.2.toNat : Int)) (row_set (i := 0) (u := .int .u32 (c.1.toNat : Int)) HO27.out HN2.out) HN2.out)
        have HB8 := Lib.hid ((HB7.out.setCell (p := ⟨gc, 0, none⟩) (by show gl ≤ gc; omega) (.int .u32 (c.1.toNat : Int))).setCell (p := ⟨gc, 1, none⟩) (by show gl ≤ gc; omega) (.int .u32 (c.2.toNat : Int)))
        clear HC7 HL7 HO17 HO27 HB7 c0 c1 f0 f1
        change Hid (Blk _ gc [.int .u32 (c.1.toNat : Int), .int .u32 (c.2.toNat : Int)]) at HC8
        generalize (w7.setCell ⟨gc, 0, none⟩ (.int .u32 (c.1.toNat : Int))).setCell ⟨gc, 1, none⟩ (.int .u32 (c.2.toNat : Int)) = w8 at *
        have hgl8 : gl < w8.heap.size := HL8.out.lt
        have HN18 := Lib.hid (row_nelt HO18.out (Nat.le_refl _))
        have c0 := (HC8.out).cell 0 _ rfl
        have c1 := (HC8.out).cell 1 _ rfl
        have l0 := (HL8.out).cell 0 _ rfl
        have HBN := Lib.hid (blk_news (Blk.new w8 [.int .u32 (c.1.toNat : Int), .int .u32 (c.2.toNat : Int)] 33))
        go_upto_region 9 with ((at_builtin; refine wpList_append_own _ rfl _ _ 30 rfl (gl + 1) 33 i0 (.agg #[.int .u32 0, .int .u32 0]) 2 8 Try.underlying30 Hi.out Hz0.out Hz1.out Hz2.out rfl (by decide) _ _ _ rfl (HO18.out.alloc _) ⟨w8.heap.size, 0, none⟩ 1 1 [.int .u32 (c.1.toNat : Int), .int .u32 (c.2.toNat : Int)] rfl rfl HBN.out (cs_one _) (by unfold maxLen; omega) (by omega) (by simp; omega) ?_; intro u' w9 hown2 hgr hiff; clear hiff; obtain ⟨q3, c3, rfl⟩ := row_form hown2; have HO19 := Lib.hid hown2; have HL9 := Lib.hid ((HL8.out.next (below1' w8 (.cells #[.int .u32 (c.1.toNat : Int), .int .u32 (c.2.toNat : Int)] 33))).grown hgr (row_ne HO18.out (by omega))); have HG9 := Lib.hid hgr; clear hown2 hgr l0 c0 c1; have l0 := HL9.out.cell 0 _ rfl; have f0 := HL9.out.fr 0))
        clear l0 f0
        have hal := below1' w8 (.cells #[.int .u32 (c.1.toNat : Int), .int .u32 (c.2.toNat : Int)] 33)
        have HL10 := Lib.hid (HL9.out.set 0 (.slice q3 ((i + 1 : Nat) : Nat) c3))
        have HC10 := Lib.hid (((HC8.out.next hal).grown HG9.out HN1.out).other (i := 0) (Ne.symm hne) (.slice q3 ((i + 1 : Nat) : Nat) c3))
        have HO110 := Lib.hid (row_set (i := 0) (u := .slice q3 ((i + 1 : Nat) : Nat) c3) HO19.out (row_ne HO19.out (by omega : gl < gl + 1)))
        have HO29 := Lib.hid ((rowLater HO28.out hal).kept HG9.out (rows_apart (by decide) HO28.out HO18.out))
        have HO210 := Lib.hid (row_set (i := 0) (u := .slice q3 ((i + 1 : Nat) : Nat) c3) HO29.out (row_ne HO29.out (by omega : gl < gl + 1)))
        have HB10 := Lib.hid (((HB8.out.trans (hal.mono (Nat.le_of_lt hgl8))).grown HG9.out (by simp; omega) (fun k hk => by have := row_ge HO18.out (Nat.le_refl _) hk; omega)).setCell (p := ⟨gl, 0, none⟩) (Nat.le_refl _) (.slice q3 ((i + 1 : Nat) : Nat) c3))
        clear hal HL9 HC8 HO19 HO29 HB8 HO18 HO28 HL8 HN18 HN1 HBN HG9
        change Hid (Blk _ gl [.slice q3 ((i + 1 : Nat) : Nat) c3, .slice q2 i c2, .int .u32 (s.clr.1.toNat : Int), .int .u32 (s.clr.2.toNat : Int)]) at HL10
        generalize w9.setCell ⟨gl, 0, none⟩ (.slice q3 ((i + 1 : Nat) : Nat) c3) = w10 at *
        obtain ⟨_, _, hbr⟩ := HGL.out w10 (HW12.out.trans HB10.out)
        obtain ⟨A2, hA2, _, y0, y1⟩ := hbr.cs HPP.out
        obtain rfl : A' = A2 := by simpa using hA2
        clear hbr hA2
        have t0 : ∀ W, Grow.Cl w10.drew W → W.cell? (A'.add (i * 2)) = some (.int .u32 (p.1.toNat : Int)) := fun W h => cell_later (Grow.Cl.base h) y0
        have t1 : ∀ W, Grow.Cl w10.drew W → W.cell? ⟨(A'.add (i * 2)).block, (A'.add (i * 2)).off + 1, none⟩ = some (.int .u32 (p.2.toNat : Int)) := fun W h => cell_later (Grow.Cl.base h) y1
        have u0 := (HC10.out).reg 0 _ rfl
        have u1 := (HC10.out).reg 1 _ rfl
        have z1 := (HL10.out).reg 1 _ rfl
        have hlo : w10.heap.size ≤ w10.drew.heap.size := Nat.le_refl _
        have HNB : Hid (newB c p = (!(((minus c p).1.toNat : Int) == 0) || !(((minus c p).2.toNat : Int) == 0))) := Lib.hid rfl
        clear y0 y1
        refine Grow.wp_region_tail 11 (mkPlan 10 newS w10.heap.size [.bool (newB c p)]) (mkPlan_stable _ _ _ _) (by kernel_rfl) (by kernel_rfl) ?_
        intro opsq Hopsq
        simp only [List.take_succ_cons, List.take_zero, List.drop_succ_cons, List.drop_zero]
        repeat (first | (refine Grow.lex_move rfl ?_ rfl ?_; (· first | exact Grow.wanted_none | (rw [Hopsq.out]; rfl)); intro K hK; simp only [Grow.put_lit, Grow.setAt, Grow.eval_lit, Grow.ev]; refine hK _ _ ?_; clear hK K) | (refine Grow.lex_assign rfl ?_ rfl ?_; (· first | exact Grow.wanted_none | (rw [Hopsq.out]; rfl)); intro K hK; simp only [Grow.put_lit, Grow.setAt, Grow.eval_lit, Grow.ev]; refine hK _ _ ?_; clear hK K) | (refine Grow.lex_plain rfl rfl ?_ rfl ?_; (· first | exact Grow.wanted_none | (rw [Hopsq.out]; rfl)); apply Exists.intro; refine ⟨fun wq hCq _ => ?_, ?_⟩; (· (go_wp2_with fail; refine ⟨rfl, Below.refl _ _, ?_⟩; simp only [Grow.getD_lit, Grow.nth]; rfl)); intro K hK; simp only [Grow.put_lit, Grow.setAt]; refine hK _ _ ?_; clear hK K) | (refine Grow.lex_nilCheck rfl rfl ?_ rfl ?_; (· first | exact Grow.wanted_none | (rw [Hopsq.out]; rfl)); intro K hK; simp only [Grow.put_lit, Grow.setAt]; refine hK _ _ ?_; clear hK K) | (refine Grow.lex_skip ?_ ?_; (· (rw [Hopsq.out]; rfl)); intro K hK; simp only [Grow.put_lit, Grow.setAt]; refine hK _ _ ?_; clear hK K))
        (refine Grow.lex_call ?_ rfl ?_; (· first | exact Grow.wanted_none | (rw [Hopsq.out]; rfl)); apply Exists.intro; apply Exists.intro; refine ⟨fun wq => ?_, ?_⟩; (· (go_simp; exact ⟨rfl, rfl⟩)); apply Exists.intro; refine ⟨fun wq hCq hKq => ?_, ?_⟩; (· exact minus_any c p _); intro K hK; simp only [Grow.put_lit, Grow.setAt]; refine hK _ _ ?_; clear hK K)
        repeat (first | (refine Grow.lex_move rfl ?_ rfl ?_; (· first | exact Grow.wanted_none | (rw [Hopsq.out]; rfl)); intro K hK; simp only [Grow.put_lit, Grow.setAt, Grow.eval_lit, Grow.ev]; refine hK _ _ ?_; clear hK K) | (refine Grow.lex_assign rfl ?_ rfl ?_; (· first | exact Grow.wanted_none | (rw [Hopsq.out]; rfl)); intro K hK; simp only [Grow.put_lit, Grow.setAt, Grow.eval_lit, Grow.ev]; refine hK _ _ ?_; clear hK K) | (refine Grow.lex_plain rfl rfl ?_ rfl ?_; (· first | exact Grow.wanted_none | (rw [Hopsq.out]; rfl)); apply Exists.intro; refine ⟨fun wq hCq _ => ?_, ?_⟩; (· (go_wp2_with fail; refine ⟨rfl, Below.refl _ _, ?_⟩; simp only [Grow.getD_lit, Grow.nth]; rfl)); intro K hK; simp only [Grow.put_lit, Grow.setAt]; refine hK _ _ ?_; clear hK K) | (refine Grow.lex_nilCheck rfl rfl ?_ rfl ?_; (· first | exact Grow.wanted_none | (rw [Hopsq.out]; rfl)); intro K hK; simp only [Grow.put_lit, Grow.setAt]; refine hK _ _ ?_; clear hK K) | (refine Grow.lex_skip ?_ ?_; (· (rw [Hopsq.out]; rfl)); intro K hK; simp only [Grow.put_lit, Grow.setAt]; refine hK _ _ ?_; clear hK K))
        rw [← HNB.out]
        refine lex_mk 10 newS w10.heap.size [.bool (newB c p)] 4 ?_ (fun wq => ?_) hlo ?_
        · first | exact Grow.wanted_none | (rw [Hopsq.out]; rfl)
        · go_simp
          first | rfl | exact ⟨rfl, rfl⟩
        intro gb hgb
        simp only [Grow.put_lit, Grow.setAt, newS]
        refine Grow.lex_nil ?_
        intro w11 hb11 hTq
        have hbb := mk_blk newS_inj hTq
        replace hb11 := Grow.Cl.base hb11
        clear hTq Hopsq opsq t0 t1 u0 u1 z1 hlo
        have hl10 : gl ≤ w10.heap.size := Nat.le_of_lt HL10.out.lt
        have HL11 := Lib.hid (HL10.out.next hb11); have HC11 := Lib.hid (HC10.out.next hb11)
        have HO111 := Lib.hid (rowLater HO110.out hb11); have HO211 := Lib.hid (rowLater HO210.out hb11)
        have HB11 := Lib.hid (HB10.out.trans (hb11.mono hl10))
        have HBN := Lib.hid (blk_news hbb)
        clear hbb hb11 HL10 HC10 HO110 HO210 HB10
        have hgl11 : gl < w11.heap.size := HL11.out.lt
        have l1 := (HL11.out).cell 1 _ rfl
        go_upto_region 10 with ((at_builtin; refine wpList_append_own _ rfl _ _ 38 rfl (gl + 1) 4 j0 (.bool false) 1 1 Try.underlying38 Hj.out Hj0.out Hj1.out Hj2.out rfl (by decide) _ _ _ rfl HO211.out ⟨gb, 0, none⟩ 1 1 [.bool (newB c p)] rfl rfl HBN.out (bool_one _) (by unfold maxLen; omega) (by omega) (by omega) ?_; intro u' w12 hown2 hgr hiff; clear hiff; obtain ⟨q4, c4, rfl⟩ := row_form hown2; have HO212 := Lib.hid hown2; have HL12 := Lib.hid (HL11.out.grown hgr (row_ne HO211.out (by omega))); have HG12 := Lib.hid hgr; clear hown2 hgr l1; have l1 := HL12.out.cell 1 _ rfl; have f1 := HL12.out.fr 1))
        clear l1 f1
        have HL13 := Lib.hid (HL12.out.set 1 (.slice q4 ((i + 1 : Nat) : Nat) c4))
        have HC13 := Lib.hid ((HC11.out.grown HG12.out HN2.out).other (i := 1) (Ne.symm hne) (.slice q4 ((i + 1 : Nat) : Nat) c4))
        have HO112 := Lib.hid (HO111.out.kept HG12.out (rows_apart (by decide) HO111.out HO211.out))
        have HO113 := Lib.hid (row_set (i := 1) (u := .slice q4 ((i + 1 : Nat) : Nat) c4) HO112.out (row_ne HO112.out (by omega : gl < gl + 1)))
        have HO213 := Lib.hid (row_set (i := 1) (u := .slice q4 ((i + 1 : Nat) : Nat) c4) HO212.out (row_ne HO212.out (by omega : gl < gl + 1)))
        have HB13 := Lib.hid ((HB11.out.grown HG12.out (by omega) (fun k hk => by have := row_ge HO211.out (Nat.le_refl _) hk; omega)).setCell (p := ⟨gl, 1, none⟩) (Nat.le_refl _) (.slice q4 ((i + 1 : Nat) : Nat) c4))
        clear HL12 HC11 HO111 HO112 HO212 HB11 HO211 HL11 HN2 HBN HG12
        change Hid (Blk _ gl [.slice q3 ((i + 1 : Nat) : Nat) c3, .slice q4 ((i + 1 : Nat) : Nat) c4, .int .u32 (s.clr.1.toNat : Int), .int .u32 (s.clr.2.toNat : Int)]) at HL13
        generalize w12.setCell ⟨gl, 1, none⟩ (.slice q4 ((i + 1 : Nat) : Nat) c4) = w13 at *
        have c0 := (HC13.out).cell 0 _ rfl
        have c1 := (HC13.out).cell 1 _ rfl
        have l2 := (HL13.out).cell 2 _ rfl
        have l3 := (HL13.out).cell 3 _ rfl
        go_wp2_with fail
        refine (union_any s.clr c _).mono ?_
        rintro e w14 ⟨rfl, hb14⟩
        have hl13 : gl ≤ w13.heap.size := Nat.le_of_lt HL13.out.lt
        have HL14 := Lib.hid (HL13.out.next hb14)
        have HO114 := Lib.hid (rowLater HO113.out hb14); have HO214 := Lib.hid (rowLater HO213.out hb14)
        have HB14 := Lib.hid (HB13.out.trans (hb14.mono hl13))
        clear hb14 HL13 HC13 HO113 HO213 HB13 c0 c1 l2 l3
        have l2 := (HL14.out).cell 2 _ rfl
        have l3 := (HL14.out).cell 3 _ rfl
        have f2 := HL14.out.fr 2; have f3 := HL14.out.fr 3
        go_wp2_with fail
        have HLI : Hid (lanC (lightK b V B (i + 1)) q3 c3 q4 c4 = [.slice q3 ((i + 1 : Nat) : Nat) c3, .slice q4 ((i + 1 : Nat) : Nat) c4, .int .u32 ((union s.clr c).1.toNat : Int), .int .u32 ((union s.clr c).2.toNat : Int)]) := Lib.hid (by
          rw [HST.out]; unfold lanC stepL; rw [HCQ.out]
          simp only [List.length_append, List.length_cons, List.length_nil, hE1.out, hE2.out])
        refine ⟨⟨i + 1, q3, c3, q4, c4, by omega, by go_num, ?_, ?_, ?_, (HB14.out.setCell (p := ⟨gl, 2, none⟩) (Nat.le_refl _) _).setCell (p := ⟨gl, 3, none⟩) (Nat.le_refl _) _⟩, by simp [intOf]; omega⟩
        · rw [HLI.out]; exact (HL14.out.set 2 _).set 3 _
        · rw [HST.out]; unfold stepL; rw [HCQ.out, csCells_snoc]
          exact row_set (row_set HO114.out (row_ne HO114.out (by omega))) (row_ne HO114.out (by omega))
        · rw [HST.out]; unfold stepL; rw [HCQ.out, boolCells_snoc]
          exact row_set (row_set HO214.out (row_ne HO214.out (by omega))) (row_ne HO214.out (by omega))
      · have hd : decide ((i : Int) < (n : Int)) = false := by simp; omega
        obtain rfl : i = n := by omega
        have HRR := Lib.hid (HRY.out.later HB.out (by omega))
        obtain ⟨s, hs⟩ : ∃ s, lightK b V B i = s := ⟨_, rfl⟩
        rw [hs] at HLB HO1 HO2 hE1 hE2
        have HSE := Lib.hid hs
        clear hs
        have z0 := HRR.out.fr 0; have z1 := HRR.out.fr 1; have z2 := HRR.out.fr 2; have z3 := HRR.out.fr 3
        have y0 := (HRR.out).cell 0 _ rfl
        have y1 := (HRR.out).cell 1 _ rfl
        have y2 := (HRR.out).cell 2 _ rfl
        have y3 := (HRR.out).cell 3 _ rfl
        have l0 := (HLB.out).cell 0 _ rfl
        have l1 := (HLB.out).cell 1 _ rfl
        have l2 := (HLB.out).cell 2 _ rfl
        have l3 := (HLB.out).cell 3 _ rfl
        go_wp2_with fail
        have R3 := (((HRR.out.set 0 (.slice q1 i c1)).set 1 (.slice q2 i c2)).set 2 (.int .u32 (s.clr.1.toNat : Int))).set 3 (.int .u32 (s.clr.2.toNat : Int))
        have hx : w.heap.size ≤ gl + 1 := by omega
        have hg1 : g1 < gl + 1 := by omega
        have hw := ((((HW2.out.trans (HB.out.mono (by omega))).setCell (p := ⟨g1, 0, none⟩) (by show w.heap.size ≤ g1; omega) (.slice q1 i c1)).setCell (p := ⟨g1, 1, none⟩) (by show w.heap.size ≤ g1; omega) (.slice q2 i c2)).setCell (p := ⟨g1, 2, none⟩) (by show w.heap.size ≤ g1; omega) (.int .u32 (s.clr.1.toNat : Int))).setCell (p := ⟨g1, 3, none⟩) (by show w.heap.size ≤ g1; omega) (.int .u32 (s.clr.2.toNat : Int))
        have ho1 := row_base (row_set (i := 3) (u := .int .u32 (s.clr.2.toNat : Int)) (row_set (i := 2) (u := .int .u32 (s.clr.1.toNat : Int)) (row_set (i := 1) (u := .slice q2 i c2) (row_set (i := 0) (u := .slice q1 i c1) HO1.out (row_ne HO1.out hg1)) (row_ne HO1.out hg1)) (row_ne HO1.out hg1)) (row_ne HO1.out hg1)) hx
        have ho2 := row_base (row_set (i := 3) (u := .int .u32 (s.clr.2.toNat : Int)) (row_set (i := 2) (u := .int .u32 (s.clr.1.toNat : Int)) (row_set (i := 1) (u := .slice q2 i c2) (row_set (i := 0) (u := .slice q1 i c1) HO2.out (row_ne HO2.out hg1)) (row_ne HO2.out hg1)) (row_ne HO2.out hg1)) (row_ne HO2.out hg1)) hx
        have HF : Hid (lightF b V B = s ∧ lightE b V B = 0) := Lib.hid (by
          rw [lightF, lightE, if_pos HE.out, if_pos HE.out, ← HN.out]; exact ⟨HSE.out, rfl⟩)
        generalize (((wr.setCell ⟨g1, 0, none⟩ (.slice q1 i c1)).setCell ⟨g1, 1, none⟩ (.slice q2 i c2)).setCell ⟨g1, 2, none⟩ (.int .u32 (s.clr.1.toNat : Int))).setCell ⟨g1, 3, none⟩ (.int .u32 (s.clr.2.toNat : Int)) = w4 at *
        have r0 := (R3).cell 0 _ rfl
        have r1 := (R3).cell 1 _ rfl
        have r2 := (R3).cell 2 _ rfl
        have r3 := (R3).cell 3 _ rfl
        refine bodyPost_ret (v := .tuple #[.agg #[.slice q1 i c1, .slice q2 i c2, .int .u32 (s.clr.1.toNat : Int), .int .u32 (s.clr.2.toNat : Int)], .int .i64 0]) (by simp [results, Try.results12, go_sem, r0, r1, r2, r3]) rfl ⟨q1, c1, q2, c2, ?_⟩
        rw [HF.out.1, HF.out.2, cvL, hE1.out, hE2.out]
        exact ⟨rfl, ho1, ho2, hw⟩
end Go.Proofs.Ytpgcpalemnnbaaa
