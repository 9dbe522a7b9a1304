/- The walks over lantern.Same and its reference. Conditions: lanterns that can be read, at most 1000 of the first. -/
import Derived.Test.YtpgcpalemnnbaaaZEqualL
namespace Go.Proofs.Ytpgcpalemnnbaaa
open Go.RowKit
attribute [local go_sem ↓] run_neq_cs run_eql_cs
def clrB (a b : CS) : Bool := ((a.1.toNat : Int) == (b.1.toNat : Int)) && ((a.2.toNat : Int) == (b.2.toNat : Int))
def lanB (s u : LanV) : Bool := decide (s.lit = u.lit) && decide (s.gong = u.gong) && clrB s.clr u.clr
theorem clrB_iff (a b : CS) : clrB a b = true ↔ a = b := by
  constructor
  · intro h
    simp [clrB] at h
    exact Prod.ext (BitVec.eq_of_toNat_eq (by omega)) (BitVec.eq_of_toNat_eq (by omega))
  · rintro rfl
    simp [clrB]
set_option maxHeartbeats 4000000 in
set_option maxRecDepth 100000 in
theorem lanSame_any (s : LanV) (q1 : Option Addr) (c1 : Nat) (q2 : Option Addr) (c2 : Nat) (u : LanV) (q3 : Option Addr) (c3 : Nat) (q4 : Option Addr) (c4 : Nat) (w : World) (hl : s.lit.length ≤ 1000) (hg : s.gong.length ≤ 1000)
    (h1 : RdX w q1 (csCells s.lit)) (h2 : RdX w q2 (boolCells s.gong)) (h3 : RdX w q3 (csCells u.lit)) (h4 : RdX w q4 (boolCells u.gong)) :
    Calls Try.prog 15 #[cvL s q1 c1 q2 c2, cvL u q3 c3 q4 c4] w fun e w' => e = .returned (.bool (lanB s u)) ∧ Below w.heap.size w w' := by
  have X0 : Blk (w.alloc (.cells #[.slice q1 s.lit.length c1, .slice q2 s.gong.length c2, .int .u32 (s.clr.1.toNat : Int), .int .u32 (s.clr.2.toNat : Int)] 40)) w.heap.size [.slice q1 s.lit.length c1, .slice q2 s.gong.length c2, .int .u32 (s.clr.1.toNat : Int), .int .u32 (s.clr.2.toNat : Int)] := by
    have hx := Blk.new w [.slice q1 s.lit.length c1, .slice q2 s.gong.length c2, .int .u32 (s.clr.1.toNat : Int), .int .u32 (s.clr.2.toNat : Int)] 40
    exact hx
  replace X0 : Blk ((w.alloc (.cells #[.slice q1 s.lit.length c1, .slice q2 s.gong.length c2, .int .u32 (s.clr.1.toNat : Int), .int .u32 (s.clr.2.toNat : Int)] 40)).alloc (.cells #[.slice q3 u.lit.length c3, .slice q4 u.gong.length c4, .int .u32 (u.clr.1.toNat : Int), .int .u32 (u.clr.2.toNat : Int)] 40)) w.heap.size [.slice q1 s.lit.length c1, .slice q2 s.gong.length c2, .int .u32 (s.clr.1.toNat : Int), .int .u32 (s.clr.2.toNat : Int)] := X0.next (below1' _ _)
  have X1 : Blk ((w.alloc (.cells #[.slice q1 s.lit.length c1, .slice q2 s.gong.length c2, .int .u32 (s.clr.1.toNat : Int), .int .u32 (s.clr.2.toNat : Int)] 40)).alloc (.cells #[.slice q3 u.lit.length c3, .slice q4 u.gong.length c4, .int .u32 (u.clr.1.toNat : Int), .int .u32 (u.clr.2.toNat : Int)] 40)) (w.heap.size + 1) [.slice q3 u.lit.length c3, .slice q4 u.gong.length c4, .int .u32 (u.clr.1.toNat : Int), .int .u32 (u.clr.2.toNat : Int)] := by
    have hx := Blk.new (w.alloc (.cells #[.slice q1 s.lit.length c1, .slice q2 s.gong.length c2, .int .u32 (s.clr.1.toNat : Int), .int .u32 (s.clr.2.toNat : Int)] 40)) [.slice q3 u.lit.length c3, .slice q4 u.gong.length c4, .int .u32 (u.clr.1.toNat : Int), .int .u32 (u.clr.2.toNat : Int)] 40
    rw [World.size_alloc] at hx
    exact hx
  have XW : Below w.heap.size w (w.alloc (.cells #[.slice q1 s.lit.length c1, .slice q2 s.gong.length c2, .int .u32 (s.clr.1.toNat : Int), .int .u32 (s.clr.2.toNat : Int)] 40)) := below1' w _
  replace XW : Below w.heap.size w ((w.alloc (.cells #[.slice q1 s.lit.length c1, .slice q2 s.gong.length c2, .int .u32 (s.clr.1.toNat : Int), .int .u32 (s.clr.2.toNat : Int)] 40)).alloc (.cells #[.slice q3 u.lit.length c3, .slice q4 u.gong.length c4, .int .u32 (u.clr.1.toNat : Int), .int .u32 (u.clr.2.toNat : Int)] 40)) := XW.trans ((below1' _ _).mono XW.size)
  have HWW := Lib.hid XW; have HX0 := Lib.hid X0; have HX1 := Lib.hid X1
  clear XW X0 X1
  have H1 := Lib.hid (h1.next HWW.out); have H2 := Lib.hid (h2.next HWW.out); have H3 := Lib.hid (h3.next HWW.out); have H4 := Lib.hid (h4.next HWW.out)
  have HL := Lib.hid hl; have HG := Lib.hid hg
  clear h1 h2 h3 h4 hl hg
  go_enter Try.func15, Try.ntmps15
  go_upto_region 1 with fail
  generalize ((w.alloc (.cells #[.slice q1 s.lit.length c1, .slice q2 s.gong.length c2, .int .u32 (s.clr.1.toNat : Int), .int .u32 (s.clr.2.toNat : Int)] 40)).alloc (.cells #[.slice q3 u.lit.length c3, .slice q4 u.gong.length c4, .int .u32 (u.clr.1.toNat : Int), .int .u32 (u.clr.2.toNat : Int)] 40)) = w0 at *
  generalize hg1 : w.heap.size + 1 = g1 at *
  have HG1 := Lib.hid hg1; have hq1 : w.heap.size + 1 ≤ g1 := by omega
  clear hg1
  have HW := Lib.hid (Below.refl w0.heap.size w0)
  have hz0 := HX0.out.lt; have hz1 := HX1.out.lt
  have j0 := (HX0.out).cell 0 _ rfl
  have j1 := (HX0.out).cell 1 _ rfl
  have j2 := (HX0.out).cell 2 _ rfl
  have j3 := (HX0.out).cell 3 _ rfl
  have y0 := (HX1.out).cell 0 _ rfl
  have y1 := (HX1.out).cell 1 _ rfl
  have y2 := (HX1.out).cell 2 _ rfl
  have y3 := (HX1.out).cell 3 _ rfl
  go_wp2_with fail
  refine (equalC_any s.lit q1 c1 u.lit q3 c3 _ HL.out H1.out H3.out).mono ?_
  rintro e w1 ⟨rfl, hb1⟩
  obtain ⟨t, ht⟩ : ∃ t, decide (s.lit = u.lit) = t := ⟨_, rfl⟩
  rw [ht]
  have HT := Lib.hid ht
  have HB1 := Lib.hid hb1
  clear ht hb1 j0 j1 j2 j3 y0 y1 y2 y3
  have HY0 := Lib.hid (HX0.out.next HB1.out); have HY1 := Lib.hid (HX1.out.next HB1.out)
  have j0 := (HY0.out).cell 0 _ rfl
  have j1 := (HY0.out).cell 1 _ rfl
  have j2 := (HY0.out).cell 2 _ rfl
  have j3 := (HY0.out).cell 3 _ rfl
  have y0 := (HY1.out).cell 0 _ rfl
  have y1 := (HY1.out).cell 1 _ rfl
  have y2 := (HY1.out).cell 2 _ rfl
  have y3 := (HY1.out).cell 3 _ rfl
  cases t
  · go_wp2_with fail
    go_ret
    exact ⟨by rw [lanB, HT.out]; rfl, HWW.out.trans (HB1.out.mono HWW.out.size)⟩
  · go_wp2_with fail
    refine (equalB_any s.gong q2 c2 u.gong q4 c4 _ HG.out (H2.out.next HB1.out) (H4.out.next HB1.out)).mono ?_
    rintro e w2 ⟨rfl, hb2⟩
    obtain ⟨t, ht⟩ : ∃ t, decide (s.gong = u.gong) = t := ⟨_, rfl⟩
    rw [ht]
    have HT2 := Lib.hid ht
    have HB2 := Lib.hid hb2
    clear ht hb2 j0 j1 j2 j3 y0 y1 y2 y3
    have HW2 := Lib.hid ((HWW.out.trans (HB1.out.mono HWW.out.size)).trans (HB2.out.mono (Nat.le_trans HWW.out.size HB1.out.size)))
    have HZ0 := Lib.hid (HY0.out.next HB2.out); have HZ1 := Lib.hid (HY1.out.next HB2.out)
    have j0 := (HZ0.out).cell 0 _ rfl
    have j1 := (HZ0.out).cell 1 _ rfl
    have j2 := (HZ0.out).cell 2 _ rfl
    have j3 := (HZ0.out).cell 3 _ rfl
    have y0 := (HZ1.out).cell 0 _ rfl
    have y1 := (HZ1.out).cell 1 _ rfl
    have y2 := (HZ1.out).cell 2 _ rfl
    have y3 := (HZ1.out).cell 3 _ rfl
    cases t
    · go_wp2_with fail
      go_ret
      exact ⟨by rw [lanB, HT.out, HT2.out]; rfl, HW2.out⟩
    · go_wp2_with fail
      go_ret
      exact ⟨by rw [lanB, HT.out, HT2.out]; rfl, HW2.out⟩
set_option maxHeartbeats 4000000 in
set_option maxRecDepth 100000 in
theorem refLanSame_any (s : LanV) (q1 : Option Addr) (c1 : Nat) (q2 : Option Addr) (c2 : Nat) (u : LanV) (q3 : Option Addr) (c3 : Nat) (q4 : Option Addr) (c4 : Nat) (w : World) (hl : s.lit.length ≤ 1000) (hg : s.gong.length ≤ 1000)
    (h1 : RdX w q1 (csCells s.lit)) (h2 : RdX w q2 (boolCells s.gong)) (h3 : RdX w q3 (csCells u.lit)) (h4 : RdX w q4 (boolCells u.gong)) :
    Calls Try.prog 14 #[cvL s q1 c1 q2 c2, cvL u q3 c3 q4 c4] w fun e w' => e = .returned (.bool (lanB s u)) ∧ Below w.heap.size w w' := by
  have X0 : Blk (w.alloc (.cells #[.slice q1 s.lit.length c1, .slice q2 s.gong.length c2, .int .u32 (s.clr.1.toNat : Int), .int .u32 (s.clr.2.toNat : Int)] 40)) w.heap.size [.slice q1 s.lit.length c1, .slice q2 s.gong.length c2, .int .u32 (s.clr.1.toNat : Int), .int .u32 (s.clr.2.toNat : Int)] := by
    have hx := Blk.new w [.slice q1 s.lit.length c1, .slice q2 s.gong.length c2, .int .u32 (s.clr.1.toNat : Int), .int .u32 (s.clr.2.toNat : Int)] 40
    exact hx
  replace X0 : Blk ((w.alloc (.cells #[.slice q1 s.lit.length c1, .slice q2 s.gong.length c2, .int .u32 (s.clr.1.toNat : Int), .int .u32 (s.clr.2.toNat : Int)] 40)).alloc (.cells #[.slice q3 u.lit.length c3, .slice q4 u.gong.length c4, .int .u32 (u.clr.1.toNat : Int), .int .u32 (u.clr.2.toNat : Int)] 40)) w.heap.size [.slice q1 s.lit.length c1, .slice q2 s.gong.length c2, .int .u32 (s.clr.1.toNat : Int), .int .u32 (s.clr.2.toNat : Int)] := X0.next (below1' _ _)
  have X1 : Blk ((w.alloc (.cells #[.slice q1 s.lit.length c1, .slice q2 s.gong.length c2, .int .u32 (s.clr.1.toNat : Int), .int .u32 (s.clr.2.toNat : Int)] 40)).alloc (.cells #[.slice q3 u.lit.length c3, .slice q4 u.gong.length c4, .int .u32 (u.clr.1.toNat : Int), .int .u32 (u.clr.2.toNat : Int)] 40)) (w.heap.size + 1) [.slice q3 u.lit.length c3, .slice q4 u.gong.length c4, .int .u32 (u.clr.1.toNat : Int), .int .u32 (u.clr.2.toNat : Int)] := by
    have hx := Blk.new (w.alloc (.cells #[.slice q1 s.lit.length c1, .slice q2 s.gong.length c2, .int .u32 (s.clr.1.toNat : Int), .int .u32 (s.clr.2.toNat : Int)] 40)) [.slice q3 u.lit.length c3, .slice q4 u.gong.length c4, .int .u32 (u.clr.1.toNat : Int), .int .u32 (u.clr.2.toNat : Int)] 40
    rw [World.size_alloc] at hx
    exact hx
  have XW : Below w.heap.size w (w.alloc (.cells #[.slice q1 s.lit.length c1, .slice q2 s.gong.length c2, .int .u32 (s.clr.1.toNat : Int), .int .u32 (s.clr.2.toNat : Int)] 40)) := below1' w _
  replace XW : Below w.heap.size w ((w.alloc (.cells #[.slice q1 s.lit.length c1, .slice q2 s.gong.length c2, .int .u32 (s.clr.1.toNat : Int), .int .u32 (s.clr.2.toNat : Int)] 40)).alloc (.cells #[.slice q3 u.lit.length c3, .slice q4 u.gong.length c4, .int .u32 (u.clr.1.toNat : Int), .int .u32 (u.clr.2.toNat : Int)] 40)) := XW.trans ((below1' _ _).mono XW.size)
  have HWW := Lib.hid XW; have HX0 := Lib.hid X0; have HX1 := Lib.hid X1
  clear XW X0 X1
  have H1 := Lib.hid (h1.next HWW.out); have H2 := Lib.hid (h2.next HWW.out); have H3 := Lib.hid (h3.next HWW.out); have H4 := Lib.hid (h4.next HWW.out)
  clear h1 h2 h3 h4
  obtain ⟨n, hn⟩ : ∃ n, n = s.lit.length := ⟨_, rfl⟩
  obtain ⟨n', hn'⟩ : ∃ n, n = u.lit.length := ⟨_, rfl⟩
  obtain ⟨m, hm⟩ : ∃ n, n = s.gong.length := ⟨_, rfl⟩
  obtain ⟨m', hm'⟩ : ∃ n, n = u.gong.length := ⟨_, rfl⟩
  have HN := Lib.hid hn; have HN' := Lib.hid hn'; have HM := Lib.hid hm; have HM' := Lib.hid hm'
  rw [← hn] at hl; rw [← hm] at hg
  clear hn hn' hm hm'
  go_enter Try.func14, Try.ntmps14
  go_upto_region 1 with fail
  generalize ((w.alloc (.cells #[.slice q1 s.lit.length c1, .slice q2 s.gong.length c2, .int .u32 (s.clr.1.toNat : Int), .int .u32 (s.clr.2.toNat : Int)] 40)).alloc (.cells #[.slice q3 u.lit.length c3, .slice q4 u.gong.length c4, .int .u32 (u.clr.1.toNat : Int), .int .u32 (u.clr.2.toNat : Int)] 40)) = w0 at *
  generalize hg1 : w.heap.size + 1 = g1 at *
  have HG1 := Lib.hid hg1; have hq1 : w.heap.size + 1 ≤ g1 := by omega
  clear hg1
  have HW := Lib.hid (Below.refl w0.heap.size w0)
  have hz0 := HX0.out.lt; have hz1 := HX1.out.lt
  have j0 := (HX0.out).cell 0 _ rfl
  have j1 := (HX0.out).cell 1 _ rfl
  have j2 := (HX0.out).cell 2 _ rfl
  have j3 := (HX0.out).cell 3 _ rfl
  have y0 := (HX1.out).cell 0 _ rfl
  have y1 := (HX1.out).cell 1 _ rfl
  have y2 := (HX1.out).cell 2 _ rfl
  have y3 := (HX1.out).cell 3 _ rfl
  rw [← HN.out] at j0
  rw [← HM.out] at j1
  rw [← HN'.out] at y0
  rw [← HM'.out] at y1
  cases d0 : (!((s.clr.1.toNat : Int) == (u.clr.1.toNat : Int)) || !((s.clr.2.toNat : Int) == (u.clr.2.toNat : Int)))
  rotate_left 1
  · have HD := Lib.hid d0
    go_wp2_with fail
    go_ret
    exact ⟨by have h := HD.out; rw [lanB, clrB]; revert h; cases ((s.clr.1.toNat : Int) == (u.clr.1.toNat : Int)) <;> cases ((s.clr.2.toNat : Int) == (u.clr.2.toNat : Int)) <;> simp, HWW.out⟩
  have HC : Hid (clrB s.clr u.clr = true) := Lib.hid (by rw [clrB]; revert d0; cases ((s.clr.1.toNat : Int) == (u.clr.1.toNat : Int)) <;> cases ((s.clr.2.toNat : Int) == (u.clr.2.toNat : Int)) <;> simp)
  by_cases hnn : n = n'
  rotate_left 1
  · have c1 : ((n : Int) != (n' : Int)) = true := by simp; omega
    have hne : ¬ s.lit = u.lit := fun h => hnn (by rw [HN.out, HN'.out, h])
    have HNE := Lib.hid hne
    clear hnn hne
    go_wp2_with fail
    go_ret
    exact ⟨by rw [lanB, decide_eq_false HNE.out]; rfl, HWW.out⟩
  subst hnn
  by_cases hmm : m = m'
  rotate_left 1
  · have c1 : ((m : Int) != (m' : Int)) = true := by simp; omega
    have hne : ¬ s.gong = u.gong := fun h => hmm (by rw [HM.out, HM'.out, h])
    have HNE := Lib.hid hne
    clear hmm hne
    go_wp2_with fail
    go_ret
    exact ⟨by rw [lanB, decide_eq_false HNE.out]; simp, HWW.out⟩
  subst hmm
  have HJ0 : Hid (∀ W, Below w0.heap.size w0 W → W.cell? ⟨w.heap.size, 0, none⟩ = some (.slice q1 n c1)) := Lib.hid fun W h => cell_later h j0
  have HJ1 : Hid (∀ W, Below w0.heap.size w0 W → W.cell? ⟨w.heap.size, 1, none⟩ = some (.slice q2 m c2)) := Lib.hid fun W h => cell_later h j1
  have HY0 : Hid (∀ W, Below w0.heap.size w0 W → W.cell? ⟨g1, 0, none⟩ = some (.slice q3 n c3)) := Lib.hid fun W h => cell_later h y0
  have HY1 : Hid (∀ W, Below w0.heap.size w0 W → W.cell? ⟨g1, 1, none⟩ = some (.slice q4 m c4)) := Lib.hid fun W h => cell_later h y1
  go_wp2_with fail
  clear d0 j0 j1 j2 j3 y0 y1 y2 y3
  go_loopw [5] (fun v wr => ∃ i : Nat, i ≤ n ∧ v = .int .i64 i ∧ (∀ (t : Nat) x y, s.lit[t]? = some x → u.lit[t]? = some y → t < i → x = y) ∧ Below w0.heap.size w0 wr) (fun v _ => n - (intOf v).toNat)
  case atStart => exact ⟨0, by omega, rfl, fun t x y _ _ h => absurd h (Nat.not_lt_zero _), HW.out⟩
  case round =>
    clear HW
    obtain ⟨i, hi, rfl, hall, hb⟩ := hrel
    have HW := Lib.hid hb; have HA := Lib.hid hall
    clear hb hall
    have k0 := HJ0.out wr HW.out
    by_cases hlt : i < n
    · have hd : decide ((i : Int) < (n : Int)) = true := by simp; omega
      obtain ⟨x, hx⟩ : ∃ x, s.lit[i]? = some x := ⟨_, List.getElem?_eq_getElem (by rw [← HN.out]; exact hlt)⟩
      obtain ⟨y, hy⟩ : ∃ y, u.lit[i]? = some y := ⟨_, List.getElem?_eq_getElem (by rw [← HN'.out]; exact hlt)⟩
      obtain ⟨A, hq, hA, p0, p1⟩ := (H1.out.next HW.out).cs hx
      obtain ⟨A', hq', hA', o0, o1⟩ := (H3.out.next HW.out).cs hy
      subst hq hq'
      have HX := Lib.hid hx; have HY := Lib.hid hy
      have hiw : (0 : Int) ≤ (i : Int) := by omega
      have hiw' : (i : Int) < (n : Int) := by omega
      clear hx hy hA hA'
      go_upto_region 6 with fail
      clear hd k0
      have t0 : ∀ W, Grow.Cl wr.drew W → W.cell? ⟨w.heap.size, 0, none⟩ = some (.slice (some A) n c1) := fun W h => HJ0.out W (HW.out.trans ((Grow.Cl.base h).mono HW.out.size))
      have t1 : ∀ W, Grow.Cl wr.drew W → W.cell? ⟨g1, 0, none⟩ = some (.slice (some A') n c3) := fun W h => HY0.out W (HW.out.trans ((Grow.Cl.base h).mono HW.out.size))
      have r0 : ∀ W, Grow.Cl wr.drew W → W.cell? (A.add (i * 2)) = some (.int .u32 (x.1.toNat : Int)) := fun W h => cell_later (Grow.Cl.base h) p0
      have r1 : ∀ W, Grow.Cl wr.drew W → W.cell? ⟨(A.add (i * 2)).block, (A.add (i * 2)).off + 1, none⟩ = some (.int .u32 (x.2.toNat : Int)) := fun W h => cell_later (Grow.Cl.base h) p1
      have s0 : ∀ W, Grow.Cl wr.drew W → W.cell? (A'.add (i * 2)) = some (.int .u32 (y.1.toNat : Int)) := fun W h => cell_later (Grow.Cl.base h) o0
      have s1 : ∀ W, Grow.Cl wr.drew W → W.cell? ⟨(A'.add (i * 2)).block, (A'.add (i * 2)).off + 1, none⟩ = some (.int .u32 (y.2.toNat : Int)) := fun W h => cell_later (Grow.Cl.base h) o1
      clear p0 p1 o0 o1
      (refine Grow.wp_region Grow.noPlan Grow.noPlan_stable (by kernel_rfl) (by kernel_rfl) ?_; intro opsq Hopsq)
      repeat (first | (refine Grow.lex_move rfl ?_ rfl ?_; (· first | exact Grow.wanted_none | (rw [Hopsq.out]; rfl)); intro K hK; simp only [Grow.put_lit, Grow.setAt, Grow.eval_lit, Grow.ev]; refine hK _ _ ?_; clear hK K) | (refine Grow.lex_assign rfl ?_ rfl ?_; (· first | exact Grow.wanted_none | (rw [Hopsq.out]; rfl)); intro K hK; simp only [Grow.put_lit, Grow.setAt, Grow.eval_lit, Grow.ev]; refine hK _ _ ?_; clear hK K) | (refine Grow.lex_plain rfl rfl ?_ rfl ?_; (· first | exact Grow.wanted_none | (rw [Hopsq.out]; rfl)); apply Exists.intro; refine ⟨fun wq hCq _ => ?_, ?_⟩; (· (go_wp2_with fail; refine ⟨rfl, Below.refl _ _, ?_⟩; simp only [Grow.getD_lit, Grow.nth]; rfl)); intro K hK; simp only [Grow.put_lit, Grow.setAt]; refine hK _ _ ?_; clear hK K) | (refine Grow.lex_nilCheck rfl rfl ?_ rfl ?_; (· first | exact Grow.wanted_none | (rw [Hopsq.out]; rfl)); intro K hK; simp only [Grow.put_lit, Grow.setAt]; refine hK _ _ ?_; clear hK K) | (refine Grow.lex_skip ?_ ?_; (· (rw [Hopsq.out]; rfl)); intro K hK; simp only [Grow.put_lit, Grow.setAt]; refine hK _ _ ?_; clear hK K))
      (refine Grow.lex_nil ?_; intro w7 hb7 _; replace hb7 := Grow.Cl.base hb7; clear Hopsq opsq)
      cases hc : (!((x.1.toNat : Int) == (y.1.toNat : Int)) || !((x.2.toNat : Int) == (y.2.toNat : Int)))
      · have hxy : x = y := by simp at hc; exact Prod.ext (BitVec.eq_of_toNat_eq (by omega)) (BitVec.eq_of_toNat_eq (by omega))
        have HXY := Lib.hid hxy
        clear hxy
        go_wp2_with fail
        refine ⟨⟨i + 1, by omega, by go_num, fun t a b ha hb ht => ?_, HW.out.trans (hb7.mono HW.out.size)⟩, by simp [intOf]; omega⟩
        by_cases h : t < i
        · exact HA.out t a b ha hb h
        · obtain rfl : t = i := by omega
          rw [HX.out] at ha; rw [HY.out] at hb
          cases ha; cases hb; exact HXY.out
      · have hne : ¬ s.lit = u.lit := fun h => by
          have h1 := HX.out; rw [h, HY.out] at h1
          obtain rfl : y = x := by simpa using h1
          simp at hc
        have HNE := Lib.hid hne
        clear hne
        go_wp2_with fail
        go_ret
        refine ⟨?_, HWW.out.trans ((HW.out.trans (hb7.mono HW.out.size)).mono HWW.out.size)⟩
        rw [lanB, decide_eq_false HNE.out]
        rfl
    · obtain rfl : i = n := by omega
      have hd : decide ((i : Int) < (i : Int)) = false := by simp
      have he : s.lit = u.lit := same_uptoG _ _ (by rw [← HN.out, ← HN'.out]) fun t x y hx hy => HA.out t x y hx hy (by have := (List.getElem?_eq_some_iff.1 hx).1; have := HN.out; omega)
      have HE := Lib.hid he
      clear he HA
      go_wp2_with fail
      clear k0 hd
      generalize wr = wz at *
      go_loopw [6] (fun v wr => ∃ i : Nat, i ≤ m ∧ v = .int .i64 i ∧ (∀ (t : Nat) x y, s.gong[t]? = some x → u.gong[t]? = some y → t < i → x = y) ∧ Below w0.heap.size w0 wr) (fun v _ => m - (intOf v).toNat)
      case atStart => exact ⟨0, by omega, rfl, fun t x y _ _ h => absurd h (Nat.not_lt_zero _), HW.out⟩
      case round =>
        clear HW
        obtain ⟨i, hi, rfl, hall, hb⟩ := hrel
        have HW := Lib.hid hb; have HA := Lib.hid hall
        clear hb hall
        have k1 := HJ1.out wr HW.out
        by_cases hlt : i < m
        · have hd : decide ((i : Int) < (m : Int)) = true := by simp; omega
          obtain ⟨x, hx⟩ : ∃ x, s.gong[i]? = some x := ⟨_, List.getElem?_eq_getElem (by rw [← HM.out]; exact hlt)⟩
          obtain ⟨y, hy⟩ : ∃ y, u.gong[i]? = some y := ⟨_, List.getElem?_eq_getElem (by rw [← HM'.out]; exact hlt)⟩
          obtain ⟨A, hq, hA, p0⟩ := (H2.out.next HW.out).bl hx
          obtain ⟨A', hq', hA', o0⟩ := (H4.out.next HW.out).bl hy
          subst hq hq'
          have HX := Lib.hid hx; have HY := Lib.hid hy
          have hiw : (0 : Int) ≤ (i : Int) := by omega
          have hiw' : (i : Int) < (m : Int) := by omega
          clear hx hy hA hA'
          go_upto_region 11 with fail
          clear hd k1
          have t0 : ∀ W, Grow.Cl wr.drew W → W.cell? ⟨w.heap.size, 1, none⟩ = some (.slice (some A) m c2) := fun W h => HJ1.out W (HW.out.trans ((Grow.Cl.base h).mono HW.out.size))
          have t1 : ∀ W, Grow.Cl wr.drew W → W.cell? ⟨g1, 1, none⟩ = some (.slice (some A') m c4) := fun W h => HY1.out W (HW.out.trans ((Grow.Cl.base h).mono HW.out.size))
          have r0 : ∀ W, Grow.Cl wr.drew W → W.cell? (A.add i) = some (.bool x) := fun W h => cell_later (Grow.Cl.base h) p0
          have s0 : ∀ W, Grow.Cl wr.drew W → W.cell? (A'.add i) = some (.bool y) := fun W h => cell_later (Grow.Cl.base h) o0
          clear p0 o0
          (refine Grow.wp_region Grow.noPlan Grow.noPlan_stable (by kernel_rfl) (by kernel_rfl) ?_; intro opsq Hopsq)
          repeat (first | (refine Grow.lex_move rfl ?_ rfl ?_; (· first | exact Grow.wanted_none | (rw [Hopsq.out]; rfl)); intro K hK; simp only [Grow.put_lit, Grow.setAt, Grow.eval_lit, Grow.ev]; refine hK _ _ ?_; clear hK K) | (refine Grow.lex_assign rfl ?_ rfl ?_; (· first | exact Grow.wanted_none | (rw [Hopsq.out]; rfl)); intro K hK; simp only [Grow.put_lit, Grow.setAt, Grow.eval_lit, Grow.ev]; refine hK _ _ ?_; clear hK K) | (refine Grow.lex_plain rfl rfl ?_ rfl ?_; (· first | exact Grow.wanted_none | (rw [Hopsq.out]; rfl)); apply Exists.intro; refine ⟨fun wq hCq _ => ?_, ?_⟩; (· (go_wp2_with fail; refine ⟨rfl, Below.refl _ _, ?_⟩; simp only [Grow.getD_lit, Grow.nth]; rfl)); intro K hK; simp only [Grow.put_lit, Grow.setAt]; refine hK _ _ ?_; clear hK K) | (refine Grow.lex_nilCheck rfl rfl ?_ rfl ?_; (· first | exact Grow.wanted_none | (rw [Hopsq.out]; rfl)); intro K hK; simp only [Grow.put_lit, Grow.setAt]; refine hK _ _ ?_; clear hK K) | (refine Grow.lex_skip ?_ ?_; (· (rw [Hopsq.out]; rfl)); intro K hK; simp only [Grow.put_lit, Grow.setAt]; refine hK _ _ ?_; clear hK K))
          (refine Grow.lex_nil ?_; intro w7 hb7 _; replace hb7 := Grow.Cl.base hb7; clear Hopsq opsq)
          cases x <;> cases y
          all_goals
            have HW7 := Lib.hid (HW.out.trans (hb7.mono HW.out.size))
            go_wp2_with fail
            first
              | (refine ⟨⟨i + 1, by omega, by go_num, fun t a b ha hb ht => ?_, HW7.out⟩, by simp [intOf]; omega⟩
                 by_cases h : t < i
                 · exact HA.out t a b ha hb h
                 · obtain rfl : t = i := by omega
                   rw [HX.out] at ha; rw [HY.out] at hb
                   cases ha; cases hb; rfl)
              | (go_ret
                 refine ⟨?_, HWW.out.trans (HW7.out.mono HWW.out.size)⟩
                 rw [lanB, decide_eq_false (show ¬ s.gong = u.gong from fun h => by have h1 := HX.out; rw [h, HY.out] at h1; simp at h1)]
                 simp)
        · obtain rfl : i = m := by omega
          have hd : decide ((i : Int) < (i : Int)) = false := by simp
          have he : s.gong = u.gong := same_uptoG _ _ (by rw [← HM.out, ← HM'.out]) fun t x y hx hy => HA.out t x y hx hy (by have := (List.getElem?_eq_some_iff.1 hx).1; have := HM.out; omega)
          have HE2 := Lib.hid he
          clear he HA
          go_wp2_with fail
          go_ret
          refine ⟨?_, HWW.out.trans (HW.out.mono HWW.out.size)⟩
          rw [lanB, decide_eq_true HE.out, decide_eq_true HE2.out, HC.out]
          rfl
end Go.Proofs.Ytpgcpalemnnbaaa
