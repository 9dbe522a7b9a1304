/- The walk over overlaylaw09.Records. Conditions: a building of 2 to 32 floors with 1 to 100 cars; bytes that can be read. -/
import Derived.Test.YtgoojlfpngmdlaaZRec
import Derived.Test.YtgoojlfpngmdlaaZU8
import Derived.Test.YtgoojlfpngmdlaaZSample
import Derived.IntWalk
import Derived.Deep.CutBlock
namespace Go.Proofs.Ytgoojlfpngmdlaa
open Go.RowKit
/-- The record that two bytes make. -/
def recAt (fl c n v : Int) : R5 :=
  if n % 7 = 3 then (4, 0, 0, n / 7 % c, v % 5)
  else if n % 7 = 4 ∨ n % 7 = 5 then (1 + n % 7, 0, 0, n / 7 % c, v % 2)
  else (1 + n % 7, if v % 2 = 1 then v / 2 % (fl - 1) + 1 else v / 2 % (fl - 1), 1 + v % 2, if n % 7 = 2 then n / 7 % (c + 2) - 2 else if n % 7 = 6 then n / 7 % 2 else 0, if n % 7 = 6 then n / 14 else 0)
def recM (fl c n v : Int) : R5 :=
  if n % 7 = 3 then (4, 0, 0, n / 7 % c, v % 5)
  else if n % 7 = 4 ∨ n % 7 = 5 then (1 + n % 7, 0, 0, n / 7 % c, v % 2)
  else (1 + n % 7, if v % 2 = 1 then v / 2 % (fl - 1) + 1 else v / 2 % (fl - 1), 1 + v % 2, 0, 0)
theorem recAt_3 (fl c n v : Int) (h : n % 7 = 2) : (recM fl c n v).1 = 3 ∧ (recM fl c n v).2.2.2 = (0, 0) ∧ recAt fl c n v = (3, (recM fl c n v).2.1, (recM fl c n v).2.2.1, n / 7 % (c + 2) - 2, 0) := by
  simp [recAt, recM, h]
theorem recAt_7 (fl c n v : Int) (h : n % 7 = 6) : (recM fl c n v).1 = 7 ∧ (recM fl c n v).2.2.2 = (0, 0) ∧ recAt fl c n v = (7, (recM fl c n v).2.1, (recM fl c n v).2.2.1, n / 7 % 2, n / 14) := by
  simp [recAt, recM, h]
theorem recAt_M (fl c n v : Int) (h : n % 7 ≠ 2) (h' : n % 7 ≠ 6) : (recM fl c n v).1 ≠ 3 ∧ (recM fl c n v).1 ≠ 7 ∧ recAt fl c n v = recM fl c n v := by
  unfold recAt recM
  by_cases h3 : n % 7 = 3
  · rw [if_pos h3, if_pos h3]; exact ⟨by show ¬ ((4 : Int) = 3); decide, by show ¬ ((4 : Int) = 7); decide, rfl⟩
  · rw [if_neg h3, if_neg h3]
    by_cases h4 : n % 7 = 4 ∨ n % 7 = 5
    · rw [if_pos h4, if_pos h4]; exact ⟨by show ¬ (1 + n % 7 = 3); omega, by show ¬ (1 + n % 7 = 7); omega, rfl⟩
    · rw [if_neg h4, if_neg h4, if_neg h, if_neg h', if_neg h']; exact ⟨by show ¬ (1 + n % 7 = 3); omega, by show ¬ (1 + n % 7 = 7); omega, rfl⟩
def byteAt (l : List Nat) (i : Nat) : Int := ((l[i]?).getD 0 : Nat)
def recT (fl c : Int) (l : List Nat) (k : Nat) : List R5 := (List.range k).map fun j => recAt fl c (byteAt l (2 * j)) (byteAt l (2 * j + 1))
theorem recT_succ (fl c : Int) (l : List Nat) (k : Nat) : recT fl c l (k + 1) = recT fl c l k ++ [recAt fl c (byteAt l (2 * k)) (byteAt l (2 * k + 1))] := by
  unfold recT
  rw [List.range_succ, List.map_append]; rfl
theorem recT_len (fl c : Int) (l : List Nat) (k : Nat) : (recT fl c l k).length = k := by simp [recT]
def recL (b : BldV) (l : List Nat) (most : Nat) : List R5 := recT b.fl b.cars.length l (min (l.length / 2) most)
set_option maxHeartbeats 8000000 in
set_option maxRecDepth 100000 in
theorem records_any (b : BldV) (q : Option Addr) (cap : Nat) (l : List Nat) (ql : Option Addr) (capl most : Nat) (w : World) (hc0 : 1 ≤ b.cars.length) (hlen : b.cars.length ≤ 100) (hl : l.length ≤ maxLen) (h2 : 2 ≤ b.fl) (h32 : b.fl ≤ 32) (hmo : most ≤ 1000) (hu : RdU w ql l) :
    Calls Try.prog 30 #[cvB b q cap, .slice ql l.length capl, .int .i64 most] w fun e w' => ∃ v, e = .returned v ∧ w'.ownsRow w.heap.size 47 5 v (recL b l most).length (recCells (recL b l most)) ∧ Below w.heap.size w w' := by
  obtain ⟨i0, hi, hy0, hy1, hy2⟩ := info_parts infoR
  have Hi := Lib.hid hi; have Hz0 := Lib.hid hy0; have Hz1 := Lib.hid hy1; have Hz2 := Lib.hid hy2
  clear hi hy0 hy1 hy2
  unfold maxLen at hl
  obtain ⟨n, hn⟩ : ∃ n, n = l.length := ⟨_, rfl⟩
  obtain ⟨c, hc⟩ : ∃ c, c = b.cars.length := ⟨_, rfl⟩
  have HRL : Hid (recL b l most = recT b.fl c l (min (n / 2) most)) := Lib.hid (by rw [recL, hn, hc])
  have X0 : Blk (w.alloc (.cells #[.int .i64 b.fl, .int .i64 b.deb, .int .i64 b.room, .int .i64 b.park, .float .f64 b.em, .float .f64 b.fu, .float .f64 b.ov, .slice q b.cars.length cap] 29)) w.heap.size [.int .i64 b.fl, .int .i64 b.deb, .int .i64 b.room, .int .i64 b.park, .float .f64 b.em, .float .f64 b.fu, .float .f64 b.ov, .slice q b.cars.length cap] := by
    have hx := Blk.new w [.int .i64 b.fl, .int .i64 b.deb, .int .i64 b.room, .int .i64 b.park, .float .f64 b.em, .float .f64 b.fu, .float .f64 b.ov, .slice q b.cars.length cap] 29
    exact hx
  have XW : Below w.heap.size w (w.alloc (.cells #[.int .i64 b.fl, .int .i64 b.deb, .int .i64 b.room, .int .i64 b.park, .float .f64 b.em, .float .f64 b.fu, .float .f64 b.ov, .slice q b.cars.length cap] 29)) := below1' w _
  have HWW := Lib.hid XW; have HX0 := Lib.hid X0
  clear XW X0
  have HU := Lib.hid (hu.next HWW.out)
  rw [← hn] at hl ⊢
  rw [← hc] at hc0 hlen
  have HN := Lib.hid hn; have HC := Lib.hid hc
  clear hn hu hc
  go_enter Try.func30, Try.ntmps30
  go_upto_region 2 with fail
  generalize (w.alloc (.cells #[.int .i64 b.fl, .int .i64 b.deb, .int .i64 b.room, .int .i64 b.park, .float .f64 b.em, .float .f64 b.fu, .float .f64 b.ov, .slice q b.cars.length cap] 29)) = w0 at *
  have HW := Lib.hid (Below.refl w0.heap.size w0)
  have hz0 := HX0.out.lt
  have k0 := (HX0.out).reg 0 _ rfl
  have k1 := (HX0.out).reg 1 _ rfl
  have k2 := (HX0.out).reg 2 _ rfl
  have k3 := (HX0.out).reg 3 _ rfl
  have k4 := (HX0.out).reg 4 _ rfl
  have k5 := (HX0.out).reg 5 _ rfl
  have k6 := (HX0.out).reg 6 _ rfl
  have k7 := (HX0.out).reg 7 _ rfl
  rw [← HC.out] at k7
  (refine Grow.wp_region Grow.noPlan Grow.noPlan_stable (by kernel_rfl) (by kernel_rfl) ?_; intro opsq Hopsq)
  repeat (first | (refine Grow.lex_move rfl ?_ rfl ?_; (· first | exact Grow.wanted_none | (rw [Hopsq.out]; rfl)); intro K hK; simp only [Grow.put_lit, Grow.setAt, Grow.eval_lit, Grow.ev]; refine hK _ _ ?_; clear hK K) | (refine Grow.lex_assign rfl ?_ rfl ?_; (· first | exact Grow.wanted_none | (rw [Hopsq.out]; rfl)); intro K hK; simp only [Grow.put_lit, Grow.setAt, Grow.eval_lit, Grow.ev]; refine hK _ _ ?_; clear hK K) | (refine Grow.lex_plain rfl rfl ?_ rfl ?_; (· first | exact Grow.wanted_none | (rw [Hopsq.out]; rfl)); apply Exists.intro; refine ⟨fun wq hCq _ => ?_, ?_⟩; (· (go_wp2_with fail; refine ⟨rfl, Below.refl _ _, ?_⟩; simp only [Grow.getD_lit, Grow.nth]; rfl)); intro K hK; simp only [Grow.put_lit, Grow.setAt]; refine hK _ _ ?_; clear hK K) | (refine Grow.lex_nilCheck rfl rfl ?_ rfl ?_; (· first | exact Grow.wanted_none | (rw [Hopsq.out]; rfl)); intro K hK; simp only [Grow.put_lit, Grow.setAt]; refine hK _ _ ?_; clear hK K) | (refine Grow.lex_skip ?_ ?_; (· (rw [Hopsq.out]; rfl)); intro K hK; simp only [Grow.put_lit, Grow.setAt]; refine hK _ _ ?_; clear hK K))
  (refine Grow.lex_nil ?_; intro w1 hb1 _; replace hb1 := Grow.Cl.base hb1; clear Hopsq opsq)
  have HU1 := Lib.hid (HU.out.next hb1)
  have HW1 := Lib.hid (HWW.out.trans (hb1.mono HWW.out.size))
  have hz1 : w.heap.size + 1 ≤ w1.heap.size := by have := hb1.size; omega
  clear HU HWW HW HX0 hb1 hz0 k0 k1 k2 k3 k4 k5 k6 k7
  go_wp2_with fail
  go_loopw [7, 10] (fun v7 v10 wr => ∃ k : Nat, k ≤ most ∧ 2 * k ≤ n ∧ v10 = .int .i64 ((2 * k : Nat) : Int) ∧ wr.ownsRow w1.heap.size 47 5 v7 k (recCells (recT b.fl c l k)) ∧ Below w1.heap.size w1 wr) (fun _ v _ => n - (intOf v).toNat)
  case atStart => exact ⟨0, by omega, by omega, rfl, World.ownsRow_nil _ _ _ _, Below.refl _ _⟩
  case round =>
    obtain ⟨k, hk, hkn, rfl, hown, hb⟩ := hrel
    have HO := Lib.hid hown; have HB := Lib.hid hb
    clear hown hb
    obtain ⟨i, hi⟩ : ∃ i, i = 2 * k := ⟨_, rfl⟩
    rw [← hi]
    have HI := Lib.hid hi
    obtain ⟨qo, co, rfl⟩ := row_form HO.out
    by_cases hlt : i + 1 < n ∧ k < most
    · obtain ⟨h1, h2'⟩ := hlt
      have d1 : decide ((i : Int) + 1 < (n : Int)) = true := by simp; omega
      have d2 : decide ((k : Int) < (most : Int)) = true := by simp; omega
      obtain ⟨x, hx⟩ : ∃ x, l[i]? = some x := ⟨_, List.getElem?_eq_getElem (by rw [← HN.out]; omega)⟩
      obtain ⟨y, hy⟩ : ∃ y, l[i + 1]? = some y := ⟨_, List.getElem?_eq_getElem (by rw [← HN.out]; omega)⟩
      obtain ⟨hx256, A, hqA, _, hcx⟩ := (HU1.out.next HB.out) i x hx
      obtain ⟨hy256, A', hqA', _, hcy⟩ := (HU1.out.next HB.out) (i + 1) y hy
      subst hqA
      obtain rfl : A = A' := by simpa using hqA'
      have HT : Hid (recT b.fl c l (k + 1) = recT b.fl c l k ++ [recAt b.fl c x y]) := Lib.hid (by
        rw [recT_succ, ← hi]; simp only [byteAt, hx, hy]; rfl)
      have hx0 : (0 : Int) ≤ (x : Int) := by omega
      have hx1 : (x : Int) < 256 := by omega
      have hy0 : (0 : Int) ≤ (y : Int) := by omega
      have hy1 : (y : Int) < 256 := by omega
      have hi0 : (0 : Int) ≤ (i : Int) := by omega
      have hin : (i : Int) < (n : Int) := by omega
      have hi1 : (i : Int) + 1 < (n : Int) := by omega
      have hj1 : IntKind.i64.wrap ((i : Int) + 1) = (i : Int) + 1 := IntWalk.i64_in _ (by omega)
      have hj2 : ((i : Int) + 1).toNat = i + 1 := by omega
      have hj0 : (0 : Int) ≤ (i : Int) + 1 := by omega
      have tx : ∀ W, Grow.Cl wr.drew W → W.cell? (A.add i) = some (.int .u8 x) := fun W h => cell_later (Grow.Cl.base h) hcx
      rw [Addr.add_succ'] at hcy
      have ty : ∀ W, Grow.Cl wr.drew W → W.cell? ⟨A.block, A.off + (i + 1), none⟩ = some (.int .u8 y) := fun W h => cell_later (Grow.Cl.base h) hcy
      clear hx hy hqA' hcx hcy hi
      go_upto_region 6 with fail
      clear d1 d2
      (refine Grow.wp_region Grow.noPlan Grow.noPlan_stable (by kernel_rfl) (by kernel_rfl) ?_; intro opsq Hopsq)
      repeat (first | (refine Grow.lex_move rfl ?_ rfl ?_; (· first | exact Grow.wanted_none | (rw [Hopsq.out]; rfl)); intro K hK; simp only [Grow.put_lit, Grow.setAt, Grow.eval_lit, Grow.ev]; refine hK _ _ ?_; clear hK K) | (refine Grow.lex_assign rfl ?_ rfl ?_; (· first | exact Grow.wanted_none | (rw [Hopsq.out]; rfl)); intro K hK; simp only [Grow.put_lit, Grow.setAt, Grow.eval_lit, Grow.ev]; refine hK _ _ ?_; clear hK K) | (refine Grow.lex_plain rfl rfl ?_ rfl ?_; (· first | exact Grow.wanted_none | (rw [Hopsq.out]; rfl)); apply Exists.intro; refine ⟨fun wq hCq _ => ?_, ?_⟩; (· (go_wp2_with fail; refine ⟨rfl, Below.refl _ _, ?_⟩; simp only [Grow.getD_lit, Grow.nth]; rfl)); intro K hK; simp only [Grow.put_lit, Grow.setAt]; refine hK _ _ ?_; clear hK K) | (refine Grow.lex_nilCheck rfl rfl ?_ rfl ?_; (· first | exact Grow.wanted_none | (rw [Hopsq.out]; rfl)); intro K hK; simp only [Grow.put_lit, Grow.setAt]; refine hK _ _ ?_; clear hK K) | (refine Grow.lex_skip ?_ ?_; (· (rw [Hopsq.out]; rfl)); intro K hK; simp only [Grow.put_lit, Grow.setAt]; refine hK _ _ ?_; clear hK K))
      (refine Grow.lex_nil ?_; intro w2 hb2 _; replace hb2 := Grow.Cl.base hb2; clear Hopsq opsq)
      clear tx ty hj1 hj2 hj0
      have HO2 := Lib.hid (rowLater HO.out hb2)
      have HB2 := Lib.hid (HB.out.trans (hb2.mono HB.out.size))
      clear HO HB hb2
      go_upto_region 8 with fail
      have BG := Blk.new w2 [.int .i64 (1 + (x : Int) % 7), .int .i64 0, .int .i64 0, .int .i64 0, .int .i64 0] 47
      have hbg := below1' w2 (.cells #[.int .i64 (1 + (x : Int) % 7), .int .i64 0, .int .i64 0, .int .i64 0, .int .i64 0] 47)
      change Blk (w2.alloc (.cells #[.int .i64 (1 + (x : Int) % 7), .int .i64 0, .int .i64 0, .int .i64 0, .int .i64 0] 47)) _ _ at BG
      have HG := Lib.hid BG
      have HB3 : Hid (Below w2.heap.size w2 (w2.alloc (.cells #[.int .i64 (1 + (x : Int) % 7), .int .i64 0, .int .i64 0, .int .i64 0, .int .i64 0] 47))) := Lib.hid hbg
      have hgr : w1.heap.size ≤ w2.heap.size := HB2.out.size
      obtain ⟨gr, hge⟩ : ∃ gr, w2.heap.size = gr := ⟨_, rfl⟩
      have HGE := Lib.hid hge
      clear BG hbg
      generalize w2.alloc (.cells #[.int .i64 (1 + (x : Int) % 7), .int .i64 0, .int .i64 0, .int .i64 0, .int .i64 0] 47) = w3 at *
      rw [hge] at HG HB3 hgr ⊢
      clear hge
      have hc0' : (1 : Int) ≤ (c : Int) := by omega
      have hcz : ¬ (c : Int) = 0 := by omega
      have hfz : ¬ b.fl - 1 = 0 := by omega
      have hm0 : 0 ≤ (x : Int) / 7 % (c : Int) := Int.emod_nonneg _ (by omega)
      have hm1 : (x : Int) / 7 % (c : Int) < (c : Int) := Int.emod_lt_of_pos _ (by omega)
      have hm2 : 0 ≤ (x : Int) / 7 % ((c : Int) + 2) := Int.emod_nonneg _ (by omega)
      have hm3 : (x : Int) / 7 % ((c : Int) + 2) < (c : Int) + 2 := Int.emod_lt_of_pos _ (by omega)
      have hm4 : 0 ≤ (y : Int) / 2 % (b.fl - 1) := Int.emod_nonneg _ (by omega)
      have hm5 : (y : Int) / 2 % (b.fl - 1) < b.fl - 1 := Int.emod_lt_of_pos _ (by omega)
      have h7 : (x : Int) % 7 = 3 ∨ (x : Int) % 7 = 4 ∨ (x : Int) % 7 = 5 ∨ (x : Int) % 7 = 0 ∨ (x : Int) % 7 = 1 ∨ (x : Int) % 7 = 2 ∨ (x : Int) % 7 = 6 := by omega
      have h8 : (y : Int) % 2 = 0 ∨ (y : Int) % 2 = 1 := by omega
      have H7 := Lib.hid h7; have H8 := Lib.hid h8
      clear h7 h8
      have g0 := HG.out.cell 0 _ rfl
      go_upto_block 2 with fail
      clear g0
      go_cut [] from 49 to 106 (fun wx => Blk wx gr (recM b.fl c x y).cell ∧ Below gr w3 wx)
      case first =>
        have f1 := HG.out.fr 1; have f2 := HG.out.fr 2; have f3 := HG.out.fr 3; have f4 := HG.out.fr 4
        rcases H7.out with h | h | h | h | h | h | h
        · have HX := Lib.hid h
          rw [h] at HG
          have g0 : w3.cell? ⟨gr, 0, none⟩ = some (.int .i64 4) := HG.out.cell 0 _ rfl
          have g1 := (HG.out).cell 1 _ rfl
          have g2 := (HG.out).cell 2 _ rfl
          have g3 := (HG.out).cell 3 _ rfl
          have g4 := (HG.out).cell 4 _ rfl
          have HE : Hid (recM b.fl c x y = (4, 0, 0, (x : Int) / 7 % (c : Int), (y : Int) % 5)) := Lib.hid (by unfold recM; exact (by rw [if_pos HX.out]))
          have HGA : Hid (Blk w3 gr [.int .i64 4, .int .i64 0, .int .i64 0, .int .i64 0, .int .i64 0]) := Lib.hid HG.out
          clear HG
          go_wp2_with fail
          go_meet
          rw [HE.out]
          exact ⟨(HGA.out.set 3 _).set 4 _, ((Below.refl _ _).setCell (p := ⟨gr, 3, none⟩) (Nat.le_refl _) _).setCell (p := ⟨gr, 4, none⟩) (Nat.le_refl _) _⟩
        · have HX := Lib.hid h
          rw [h] at HG
          have g0 : w3.cell? ⟨gr, 0, none⟩ = some (.int .i64 5) := HG.out.cell 0 _ rfl
          have g1 := (HG.out).cell 1 _ rfl
          have g2 := (HG.out).cell 2 _ rfl
          have g3 := (HG.out).cell 3 _ rfl
          have g4 := (HG.out).cell 4 _ rfl
          have HE : Hid (recM b.fl c x y = (5, 0, 0, (x : Int) / 7 % (c : Int), (y : Int) % 2)) := Lib.hid (by unfold recM; exact (by rw [if_neg (by rw [HX.out]; decide), if_pos (.inl HX.out), HX.out]; rfl))
          have HGA : Hid (Blk w3 gr [.int .i64 5, .int .i64 0, .int .i64 0, .int .i64 0, .int .i64 0]) := Lib.hid HG.out
          clear HG
          go_wp2_with fail
          go_meet
          rw [HE.out]
          exact ⟨(HGA.out.set 3 _).set 4 _, ((Below.refl _ _).setCell (p := ⟨gr, 3, none⟩) (Nat.le_refl _) _).setCell (p := ⟨gr, 4, none⟩) (Nat.le_refl _) _⟩
        · have HX := Lib.hid h
          rw [h] at HG
          have g0 : w3.cell? ⟨gr, 0, none⟩ = some (.int .i64 6) := HG.out.cell 0 _ rfl
          have g1 := (HG.out).cell 1 _ rfl
          have g2 := (HG.out).cell 2 _ rfl
          have g3 := (HG.out).cell 3 _ rfl
          have g4 := (HG.out).cell 4 _ rfl
          have HE : Hid (recM b.fl c x y = (6, 0, 0, (x : Int) / 7 % (c : Int), (y : Int) % 2)) := Lib.hid (by unfold recM; exact (by rw [if_neg (by rw [HX.out]; decide), if_pos (.inr HX.out), HX.out]; rfl))
          have HGA : Hid (Blk w3 gr [.int .i64 6, .int .i64 0, .int .i64 0, .int .i64 0, .int .i64 0]) := Lib.hid HG.out
          clear HG
          go_wp2_with fail
          go_meet
          rw [HE.out]
          exact ⟨(HGA.out.set 3 _).set 4 _, ((Below.refl _ _).setCell (p := ⟨gr, 3, none⟩) (Nat.le_refl _) _).setCell (p := ⟨gr, 4, none⟩) (Nat.le_refl _) _⟩
        · have HX := Lib.hid h
          rw [h] at HG
          have g0 : w3.cell? ⟨gr, 0, none⟩ = some (.int .i64 1) := HG.out.cell 0 _ rfl
          have HGA : Hid (Blk w3 gr [.int .i64 1, .int .i64 0, .int .i64 0, .int .i64 0, .int .i64 0]) := Lib.hid HG.out
          have g1 := (HG.out).cell 1 _ rfl
          have g2 := (HG.out).cell 2 _ rfl
          have g3 := (HG.out).cell 3 _ rfl
          have g4 := (HG.out).cell 4 _ rfl
          clear HG
          go_wp2_with fail
          clear h
          go_region
          rcases H8.out with h8 | h8
          · have HY := Lib.hid h8
            have HE : Hid (recM b.fl c x y = (1, (y : Int) / 2 % (b.fl - 1), 1, 0, 0)) := Lib.hid (by
              unfold recM
              rw [if_neg (by rw [HX.out]; decide), if_neg (by rw [HX.out]; decide), HX.out, HY.out]; rfl)
            go_wp2_with fail
            go_meet
            rw [HE.out]
            exact ⟨((HGA.out.set 2 _).set 1 _).next (Below.refl _ _).drew, (((Below.refl _ _).setCell (p := ⟨gr, 2, none⟩) (Nat.le_refl _) _).setCell (p := ⟨gr, 1, none⟩) (Nat.le_refl _) _).drew⟩
          · have HY := Lib.hid h8
            have HE : Hid (recM b.fl c x y = (1, (y : Int) / 2 % (b.fl - 1) + 1, 2, 0, 0)) := Lib.hid (by
              unfold recM
              rw [if_neg (by rw [HX.out]; decide), if_neg (by rw [HX.out]; decide), HX.out, HY.out]; rfl)
            go_wp2_with fail
            go_meet
            rw [HE.out]
            exact ⟨(((HGA.out.set 2 _).set 1 _).set 1 _).next (Below.refl _ _).drew, ((((Below.refl _ _).setCell (p := ⟨gr, 2, none⟩) (Nat.le_refl _) _).setCell (p := ⟨gr, 1, none⟩) (Nat.le_refl _) _).setCell (p := ⟨gr, 1, none⟩) (Nat.le_refl _) _).drew⟩
        · have HX := Lib.hid h
          rw [h] at HG
          have g0 : w3.cell? ⟨gr, 0, none⟩ = some (.int .i64 2) := HG.out.cell 0 _ rfl
          have HGA : Hid (Blk w3 gr [.int .i64 2, .int .i64 0, .int .i64 0, .int .i64 0, .int .i64 0]) := Lib.hid HG.out
          have g1 := (HG.out).cell 1 _ rfl
          have g2 := (HG.out).cell 2 _ rfl
          have g3 := (HG.out).cell 3 _ rfl
          have g4 := (HG.out).cell 4 _ rfl
          clear HG
          go_wp2_with fail
          clear h
          go_region
          rcases H8.out with h8 | h8
          · have HY := Lib.hid h8
            have HE : Hid (recM b.fl c x y = (2, (y : Int) / 2 % (b.fl - 1), 1, 0, 0)) := Lib.hid (by
              unfold recM
              rw [if_neg (by rw [HX.out]; decide), if_neg (by rw [HX.out]; decide), HX.out, HY.out]; rfl)
            go_wp2_with fail
            go_meet
            rw [HE.out]
            exact ⟨((HGA.out.set 2 _).set 1 _).next (Below.refl _ _).drew, (((Below.refl _ _).setCell (p := ⟨gr, 2, none⟩) (Nat.le_refl _) _).setCell (p := ⟨gr, 1, none⟩) (Nat.le_refl _) _).drew⟩
          · have HY := Lib.hid h8
            have HE : Hid (recM b.fl c x y = (2, (y : Int) / 2 % (b.fl - 1) + 1, 2, 0, 0)) := Lib.hid (by
              unfold recM
              rw [if_neg (by rw [HX.out]; decide), if_neg (by rw [HX.out]; decide), HX.out, HY.out]; rfl)
            go_wp2_with fail
            go_meet
            rw [HE.out]
            exact ⟨(((HGA.out.set 2 _).set 1 _).set 1 _).next (Below.refl _ _).drew, ((((Below.refl _ _).setCell (p := ⟨gr, 2, none⟩) (Nat.le_refl _) _).setCell (p := ⟨gr, 1, none⟩) (Nat.le_refl _) _).setCell (p := ⟨gr, 1, none⟩) (Nat.le_refl _) _).drew⟩
        · have HX := Lib.hid h
          rw [h] at HG
          have g0 : w3.cell? ⟨gr, 0, none⟩ = some (.int .i64 3) := HG.out.cell 0 _ rfl
          have HGA : Hid (Blk w3 gr [.int .i64 3, .int .i64 0, .int .i64 0, .int .i64 0, .int .i64 0]) := Lib.hid HG.out
          have g1 := (HG.out).cell 1 _ rfl
          have g2 := (HG.out).cell 2 _ rfl
          have g3 := (HG.out).cell 3 _ rfl
          have g4 := (HG.out).cell 4 _ rfl
          clear HG
          go_wp2_with fail
          clear h
          go_region
          rcases H8.out with h8 | h8
          · have HY := Lib.hid h8
            have HE : Hid (recM b.fl c x y = (3, (y : Int) / 2 % (b.fl - 1), 1, 0, 0)) := Lib.hid (by
              unfold recM
              rw [if_neg (by rw [HX.out]; decide), if_neg (by rw [HX.out]; decide), HX.out, HY.out]; rfl)
            go_wp2_with fail
            go_meet
            rw [HE.out]
            exact ⟨((HGA.out.set 2 _).set 1 _).next (Below.refl _ _).drew, (((Below.refl _ _).setCell (p := ⟨gr, 2, none⟩) (Nat.le_refl _) _).setCell (p := ⟨gr, 1, none⟩) (Nat.le_refl _) _).drew⟩
          · have HY := Lib.hid h8
            have HE : Hid (recM b.fl c x y = (3, (y : Int) / 2 % (b.fl - 1) + 1, 2, 0, 0)) := Lib.hid (by
              unfold recM
              rw [if_neg (by rw [HX.out]; decide), if_neg (by rw [HX.out]; decide), HX.out, HY.out]; rfl)
            go_wp2_with fail
            go_meet
            rw [HE.out]
            exact ⟨(((HGA.out.set 2 _).set 1 _).set 1 _).next (Below.refl _ _).drew, ((((Below.refl _ _).setCell (p := ⟨gr, 2, none⟩) (Nat.le_refl _) _).setCell (p := ⟨gr, 1, none⟩) (Nat.le_refl _) _).setCell (p := ⟨gr, 1, none⟩) (Nat.le_refl _) _).drew⟩
        · have HX := Lib.hid h
          rw [h] at HG
          have g0 : w3.cell? ⟨gr, 0, none⟩ = some (.int .i64 7) := HG.out.cell 0 _ rfl
          have HGA : Hid (Blk w3 gr [.int .i64 7, .int .i64 0, .int .i64 0, .int .i64 0, .int .i64 0]) := Lib.hid HG.out
          have g1 := (HG.out).cell 1 _ rfl
          have g2 := (HG.out).cell 2 _ rfl
          have g3 := (HG.out).cell 3 _ rfl
          have g4 := (HG.out).cell 4 _ rfl
          clear HG
          go_wp2_with fail
          clear h
          go_region
          rcases H8.out with h8 | h8
          · have HY := Lib.hid h8
            have HE : Hid (recM b.fl c x y = (7, (y : Int) / 2 % (b.fl - 1), 1, 0, 0)) := Lib.hid (by
              unfold recM
              rw [if_neg (by rw [HX.out]; decide), if_neg (by rw [HX.out]; decide), HX.out, HY.out]; rfl)
            go_wp2_with fail
            go_meet
            rw [HE.out]
            exact ⟨((HGA.out.set 2 _).set 1 _).next (Below.refl _ _).drew, (((Below.refl _ _).setCell (p := ⟨gr, 2, none⟩) (Nat.le_refl _) _).setCell (p := ⟨gr, 1, none⟩) (Nat.le_refl _) _).drew⟩
          · have HY := Lib.hid h8
            have HE : Hid (recM b.fl c x y = (7, (y : Int) / 2 % (b.fl - 1) + 1, 2, 0, 0)) := Lib.hid (by
              unfold recM
              rw [if_neg (by rw [HX.out]; decide), if_neg (by rw [HX.out]; decide), HX.out, HY.out]; rfl)
            go_wp2_with fail
            go_meet
            rw [HE.out]
            exact ⟨(((HGA.out.set 2 _).set 1 _).set 1 _).next (Below.refl _ _).drew, ((((Below.refl _ _).setCell (p := ⟨gr, 2, none⟩) (Nat.le_refl _) _).setCell (p := ⟨gr, 1, none⟩) (Nat.le_refl _) _).setCell (p := ⟨gr, 1, none⟩) (Nat.le_refl _) _).drew⟩
      case rest =>
        obtain ⟨hg5, hb5⟩ := hcut
        have HG5 := Lib.hid hg5
        have HB5 : Hid (Below gr w2 wc) := Lib.hid (HB3.out.trans hb5)
        have hgl5 : gr < wc.heap.size := HG5.out.lt
        generalize hwc : wc = w5 at *
        clear hg5 hb5 HG HB3 hwc
        have HO5 := Lib.hid (rowLater HO2.out (by rw [HGE.out]; exact HB5.out))
        have HB55 := Lib.hid (HB2.out.trans (HB5.out.mono hgr))
        have HNE := Lib.hid (row_nelt HO2.out (Nat.le_of_eq HGE.out))
        have H3 := Lib.hid (recAt_3 b.fl c x y); have H7' := Lib.hid (recAt_7 b.fl c x y); have HM := Lib.hid (recAt_M b.fl c x y)
        clear HO2 HB2 HB5
        obtain ⟨r, hr⟩ : ∃ r, recM b.fl c x y = r := ⟨_, rfl⟩
        rw [hr] at HG5 H3 H7' HM
        clear hr
        obtain ⟨km, fm, dm, cm, vm⟩ := r
        change Hid (Blk w5 gr [.int .i64 km, .int .i64 fm, .int .i64 dm, .int .i64 cm, .int .i64 vm]) at HG5
        have f3 := HG5.out.fr 3; have f4 := HG5.out.fr 4
        have g1 := (HG5.out).cell 1 _ rfl
        have g2 := (HG5.out).cell 2 _ rfl
        have g3 := (HG5.out).cell 3 _ rfl
        have g4 := (HG5.out).cell 4 _ rfl
        by_cases h2 : (x : Int) % 7 = 2
        · skip
          obtain ⟨hk1, hk3, hk2⟩ := H3.out h2
          obtain rfl : km = 3 := hk1
          obtain ⟨rfl, rfl⟩ : cm = 0 ∧ vm = 0 := by simpa using hk3
          have HE6 : Hid (recAt b.fl c x y = (3, fm, dm, (x : Int) / 7 % ((c : Int) + 2) - 2, 0)) := Lib.hid hk2
          have g0 : w5.cell? ⟨gr, 0, none⟩ = some (.int .i64 3) := HG5.out.cell 0 _ rfl
          clear hk2 H3 H7' HM h2
          go_upto_region 21 with fail
          clear g0 g1 g2 g3 g4 f3 f4
          have HG6 := Lib.hid (HG5.out.set 3 (.int .i64 ((x : Int) / 7 % ((c : Int) + 2) - 2)))
          have HO6 := Lib.hid (row_set (i := 3) (u := .int .i64 ((x : Int) / 7 % ((c : Int) + 2) - 2)) HO5.out HNE.out)
          have HB6 := Lib.hid (HB55.out.setCell (p := ⟨gr, 3, none⟩) hgr (.int .i64 ((x : Int) / 7 % ((c : Int) + 2) - 2)))
          clear HG5 HO5 HB55 HNE
          change Hid (Blk _ gr [.int .i64 (3), .int .i64 (fm), .int .i64 (dm), .int .i64 ((x : Int) / 7 % ((c : Int) + 2) - 2), .int .i64 (0)]) at HG6
          generalize (w5.setCell ⟨gr, 3, none⟩ (.int .i64 ((x : Int) / 7 % ((c : Int) + 2) - 2))) = w6 at *
          have r0 := (HG6.out).cell 0 _ rfl
          have r1 := (HG6.out).cell 1 _ rfl
          have r2 := (HG6.out).cell 2 _ rfl
          have r3 := (HG6.out).cell 3 _ rfl
          have r4 := (HG6.out).cell 4 _ rfl
          have hgl6 : gr < w6.heap.size := HG6.out.lt
          go_wp2_with ((at_builtin; refine wpList_append_own _ rfl _ _ 41 rfl w1.heap.size 47 i0 (.agg #[.int .i64 0, .int .i64 0, .int .i64 0, .int .i64 0, .int .i64 0]) 5 40 Try.underlying41 Hi.out Hz0.out Hz1.out Hz2.out rfl (by decide) _ _ _ rfl (HO6.out.alloc _) ⟨w6.heap.size, 0, none⟩ 1 1 (R5.cell ((3, fm, dm, (x : Int) / 7 % ((c : Int) + 2) - 2, 0) : R5)) rfl rfl (rec_new _ ((3, fm, dm, (x : Int) / 7 % ((c : Int) + 2) - 2, 0) : R5) _) (rec_one _) (by unfold maxLen; omega) (by omega) (by simp; omega) ?_))
          intro v' w9 hown2 hg _
          have hal2 := below1' w6 (.cells #[.int .i64 (3), .int .i64 (fm), .int .i64 (dm), .int .i64 ((x : Int) / 7 % ((c : Int) + 2) - 2), .int .i64 (0)] 47)
          have hb3 : Below w1.heap.size w1 w9 := (HB6.out.trans (hal2.mono (by omega))).grown hg (by simp; omega) (fun q hq => (HO6.out.lt q hq).1)
          have hown3 : w9.ownsRow w1.heap.size 47 5 v' (k + 1) (recCells (recT b.fl c l (k + 1))) := by
            rw [HT.out, HE6.out, recCells_snoc]; exact hown2
          clear hown2 hg r0 r1 r2 r3 r4
          go_wp2_with fail
          exact ⟨⟨k + 1, by omega, by have := HI.out; omega, by rw [HI.out]; go_num, hown3, hb3⟩, by simp [intOf]; omega⟩
        by_cases h6 : (x : Int) % 7 = 6
        · skip
          obtain ⟨hk1, hk3, hk2⟩ := H7'.out h6
          obtain rfl : km = 7 := hk1
          obtain ⟨rfl, rfl⟩ : cm = 0 ∧ vm = 0 := by simpa using hk3
          have HE6 : Hid (recAt b.fl c x y = (7, fm, dm, (x : Int) / 7 % 2, (x : Int) / 14)) := Lib.hid hk2
          have g0 : w5.cell? ⟨gr, 0, none⟩ = some (.int .i64 7) := HG5.out.cell 0 _ rfl
          clear hk2 H3 H7' HM h6
          go_upto_region 21 with fail
          clear g0 g1 g2 g3 g4 f3 f4
          have HG6 := Lib.hid ((HG5.out.set 3 (.int .i64 ((x : Int) / 7 % 2))).set 4 (.int .i64 ((x : Int) / 14)))
          have HO6 := Lib.hid (row_set (i := 4) (u := .int .i64 ((x : Int) / 14)) (row_set (i := 3) (u := .int .i64 ((x : Int) / 7 % 2)) HO5.out HNE.out) HNE.out)
          have HB6 := Lib.hid ((HB55.out.setCell (p := ⟨gr, 3, none⟩) hgr (.int .i64 ((x : Int) / 7 % 2))).setCell (p := ⟨gr, 4, none⟩) hgr (.int .i64 ((x : Int) / 14)))
          clear HG5 HO5 HB55 HNE
          change Hid (Blk _ gr [.int .i64 (7), .int .i64 (fm), .int .i64 (dm), .int .i64 ((x : Int) / 7 % 2), .int .i64 ((x : Int) / 14)]) at HG6
          generalize ((w5.setCell ⟨gr, 3, none⟩ (.int .i64 ((x : Int) / 7 % 2))).setCell ⟨gr, 4, none⟩ (.int .i64 ((x : Int) / 14))) = w6 at *
          have r0 := (HG6.out).cell 0 _ rfl
          have r1 := (HG6.out).cell 1 _ rfl
          have r2 := (HG6.out).cell 2 _ rfl
          have r3 := (HG6.out).cell 3 _ rfl
          have r4 := (HG6.out).cell 4 _ rfl
          have hgl6 : gr < w6.heap.size := HG6.out.lt
          go_wp2_with ((at_builtin; refine wpList_append_own _ rfl _ _ 41 rfl w1.heap.size 47 i0 (.agg #[.int .i64 0, .int .i64 0, .int .i64 0, .int .i64 0, .int .i64 0]) 5 40 Try.underlying41 Hi.out Hz0.out Hz1.out Hz2.out rfl (by decide) _ _ _ rfl (HO6.out.alloc _) ⟨w6.heap.size, 0, none⟩ 1 1 (R5.cell ((7, fm, dm, (x : Int) / 7 % 2, (x : Int) / 14) : R5)) rfl rfl (rec_new _ ((7, fm, dm, (x : Int) / 7 % 2, (x : Int) / 14) : R5) _) (rec_one _) (by unfold maxLen; omega) (by omega) (by simp; omega) ?_))
          intro v' w9 hown2 hg _
          have hal2 := below1' w6 (.cells #[.int .i64 (7), .int .i64 (fm), .int .i64 (dm), .int .i64 ((x : Int) / 7 % 2), .int .i64 ((x : Int) / 14)] 47)
          have hb3 : Below w1.heap.size w1 w9 := (HB6.out.trans (hal2.mono (by omega))).grown hg (by simp; omega) (fun q hq => (HO6.out.lt q hq).1)
          have hown3 : w9.ownsRow w1.heap.size 47 5 v' (k + 1) (recCells (recT b.fl c l (k + 1))) := by
            rw [HT.out, HE6.out, recCells_snoc]; exact hown2
          clear hown2 hg r0 r1 r2 r3 r4
          go_wp2_with fail
          exact ⟨⟨k + 1, by omega, by have := HI.out; omega, by rw [HI.out]; go_num, hown3, hb3⟩, by simp [intOf]; omega⟩
        · obtain ⟨hk1, hk3, hk2⟩ := HM.out h2 h6
          have e1 : (km == 3) = false := by simpa using hk1
          have e2 : (km == 7) = false := by simpa using hk3
          have HE6 : Hid (recAt b.fl c x y = (km, fm, dm, cm, vm)) := Lib.hid hk2
          have g0 : w5.cell? ⟨gr, 0, none⟩ = some (.int .i64 km) := HG5.out.cell 0 _ rfl
          clear hk1 hk2 hk3 H3 H7' HM h2 h6
          go_upto_region 21 with fail
          clear g0 g1 g2 g3 g4 f3 f4 e1 e2
          have HG6 := HG5; have HO6 := HO5; have HB6 := HB55
          clear HG5 HO5 HB55 HNE
          generalize w5 = w6 at *
          have r0 := (HG6.out).cell 0 _ rfl
          have r1 := (HG6.out).cell 1 _ rfl
          have r2 := (HG6.out).cell 2 _ rfl
          have r3 := (HG6.out).cell 3 _ rfl
          have r4 := (HG6.out).cell 4 _ rfl
          have hgl6 : gr < w6.heap.size := HG6.out.lt
          go_wp2_with ((at_builtin; refine wpList_append_own _ rfl _ _ 41 rfl w1.heap.size 47 i0 (.agg #[.int .i64 0, .int .i64 0, .int .i64 0, .int .i64 0, .int .i64 0]) 5 40 Try.underlying41 Hi.out Hz0.out Hz1.out Hz2.out rfl (by decide) _ _ _ rfl (HO6.out.alloc _) ⟨w6.heap.size, 0, none⟩ 1 1 (R5.cell ((km, fm, dm, cm, vm) : R5)) rfl rfl (rec_new _ ((km, fm, dm, cm, vm) : R5) _) (rec_one _) (by unfold maxLen; omega) (by omega) (by simp; omega) ?_))
          intro v' w9 hown2 hg _
          have hal2 := below1' w6 (.cells #[.int .i64 (km), .int .i64 (fm), .int .i64 (dm), .int .i64 (cm), .int .i64 (vm)] 47)
          have hb3 : Below w1.heap.size w1 w9 := (HB6.out.trans (hal2.mono (by omega))).grown hg (by simp; omega) (fun q hq => (HO6.out.lt q hq).1)
          have hown3 : w9.ownsRow w1.heap.size 47 5 v' (k + 1) (recCells (recT b.fl c l (k + 1))) := by
            rw [HT.out, HE6.out, recCells_snoc]; exact hown2
          clear hown2 hg r0 r1 r2 r3 r4
          go_wp2_with fail
          exact ⟨⟨k + 1, by omega, by have := HI.out; omega, by rw [HI.out]; go_num, hown3, hb3⟩, by simp [intOf]; omega⟩
    · have hm : k = min (n / 2) most := by omega
      have HF : Hid (recL b l most = recT b.fl c l k) := Lib.hid (by rw [HRL.out, ← hm])
      have HLN := Lib.hid (recT_len b.fl c l k)
      have hle : w.heap.size ≤ w1.heap.size := by omega
      have d3 : (n : Int) ≤ (i : Int) + 1 ∨ ((i : Int) + 1 < (n : Int) ∧ (most : Int) ≤ (k : Int)) := by omega
      clear hlt hm
      rcases d3 with d1 | ⟨d1, d2⟩
      all_goals
        go_wp2_with fail
        go_ret
        exact ⟨_, rfl, by rw [HF.out, HLN.out]; exact row_base HO.out hle, HW1.out.trans (HB.out.mono hle)⟩
end Go.Proofs.Ytgoojlfpngmdlaa
