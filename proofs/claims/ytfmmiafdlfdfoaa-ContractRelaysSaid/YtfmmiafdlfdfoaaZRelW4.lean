/- The walk over overlayref11's look. Conditions: those of the theorem. -/
import Derived.Test.YtfmmiafdlfdfoaaZRelW3
import Derived.Test.YtfmmiafdlfdfoaaZTrace
import Derived.Deep.CutBlock
namespace Go.Proofs.Ytfmmiafdlfdfoaa
namespace Rel
open Go.RowKit
theorem set6 {w : World} {g : Nat} {x0 x1 x2 x3 x4 x5 : Value} (h : Blk w g [x0, x1, x2, x3, x4, x5]) (a b c d e f : Value) : Blk ((((((w.setCell ⟨g, 0, none⟩ a).setCell ⟨g, 1, none⟩ b).setCell ⟨g, 2, none⟩ c).setCell ⟨g, 3, none⟩ d).setCell ⟨g, 4, none⟩ e).setCell ⟨g, 5, none⟩ f) g [a, b, c, d, e, f] :=
  (((((h.set 0 a).set 1 b).set 2 c).set 3 d).set 4 e).set 5 f
theorem keep6 {w : World} {k g : Nat} {xs : List Value} (h : Blk w k xs) (hne : k ≠ g) (a b c d e f : Value) : Blk ((((((w.setCell ⟨g, 0, none⟩ a).setCell ⟨g, 1, none⟩ b).setCell ⟨g, 2, none⟩ c).setCell ⟨g, 3, none⟩ d).setCell ⟨g, 4, none⟩ e).setCell ⟨g, 5, none⟩ f) k xs :=
  (((((h.other hne (i := 0) a).other hne (i := 1) b).other hne (i := 2) c).other hne (i := 3) d).other hne (i := 4) e).other hne (i := 5) f
theorem low6 {n : Nat} {w w' : World} {g : Nat} (h : Below n w w') (hg : n ≤ g) (a b c d e f : Value) : Below n w ((((((w'.setCell ⟨g, 0, none⟩ a).setCell ⟨g, 1, none⟩ b).setCell ⟨g, 2, none⟩ c).setCell ⟨g, 3, none⟩ d).setCell ⟨g, 4, none⟩ e).setCell ⟨g, 5, none⟩ f) :=
  (((((h.setCell (p := ⟨g, 0, none⟩) hg a).setCell (p := ⟨g, 1, none⟩) hg b).setCell (p := ⟨g, 2, none⟩) hg c).setCell (p := ⟨g, 3, none⟩) hg d).setCell (p := ⟨g, 4, none⟩) hg e).setCell (p := ⟨g, 5, none⟩) hg f
set_option maxHeartbeats 4000000 in
set_option maxRecDepth 100000 in
theorem look_any (n r o p : Int) (s : StV) (w : World) (hn : 2 ≤ n ∧ n ≤ 31) (hp : 0 ≤ p ∧ p < n) (hr : 0 ≤ r ∧ r ≤ 2) (ho : 0 ≤ o ∧ o ≤ 7) :
    Calls Try.prog 67 #[.int .i64 n, cvSw r o, .int .i64 p, cvSt s] w fun e w' => e = .returned (.agg #[.bool (has (liveV s (spentV n r o p s)).2 p 1), .bool (has (liveV s (spentV n r o p s)).2 p 2), .bool ((liveV s (spentV n r o p s)).1.getLsbD p.toNat), .bool (aboveV s p).1, .bool (belowV s p).1, .int .i64 (nearV (aboveV s p) (belowV s p))]) ∧ Below w.heap.size w w' := by
  obtain ⟨x, hx⟩ : ∃ x, spentV n r o p s = x := ⟨_, rfl⟩
  have HSP : Hid (∀ W, Calls Try.prog 82 #[.int .i64 n, cvSw r o, .int .i64 p, cvSt s] W fun e w' => e = .returned (cvSt x) ∧ Below W.heap.size W w') := Lib.hid fun W => by rw [← hx]; exact spent_any n r o p s W hn hp hr ho
  rw [hx]
  clear hx
  obtain ⟨L, hL⟩ : ∃ L, liveV s x = L := ⟨_, rfl⟩
  have hL1 : L.1 = s.1 &&& ~~~x.1 := by rw [← hL]; rfl
  have hL2 : L.2 = minus s.2 x.2 := by rw [← hL]; rfl
  have hAN := andNot32 s.1 x.1
  rw [← hL1] at hAN
  have HMI : Hid (∀ W, Calls Try.prog 50 #[cv s.2, cv x.2] W fun e w' => e = .returned (cv L.2) ∧ Below W.heap.size W w') := Lib.hid fun W => by rw [hL2]; exact refMinus_any s.2 x.2 W
  rw [hL]
  clear hL hL1 hL2
  obtain ⟨u, hu⟩ : ∃ u, has L.2 p 1 = u := ⟨_, rfl⟩
  obtain ⟨d, hd⟩ : ∃ d, has L.2 p 2 = d := ⟨_, rfl⟩
  obtain ⟨c, hc⟩ : ∃ c, L.1.getLsbD p.toNat = c := ⟨_, rfl⟩
  have HH1 : Hid (∀ W, Calls Try.prog 21 #[cv L.2, .int .i64 p, .int .i64 1] W fun e w' => e = .returned (.bool u) ∧ Below W.heap.size W w') := Lib.hid fun W => by rw [← hu]; exact refHas_any L.2 p 1 W
  have HH2 : Hid (∀ W, Calls Try.prog 21 #[cv L.2, .int .i64 p, .int .i64 2] W fun e w' => e = .returned (.bool d) ∧ Below W.heap.size W w') := Lib.hid fun W => by rw [← hd]; exact refHas_any L.2 p 2 W
  have hsh := shr_bit L.1 p.toNat
  rw [hu, hd]
  rw [hc] at hsh ⊢
  clear hu hd hc
  obtain ⟨ab, hab⟩ : ∃ ab, aboveV s p = ab := ⟨_, rfl⟩
  obtain ⟨be, hbe⟩ : ∃ be, belowV s p = be := ⟨_, rfl⟩
  have HAB : Hid (∀ W, Calls Try.prog 83 #[cvSt s, .int .i64 p] W fun e w' => e = .returned (.tuple #[.bool ab.1, .int .i64 ab.2]) ∧ Below W.heap.size W w') := Lib.hid fun W => by rw [← hab]; exact above_any s p W (by omega)
  have HBE : Hid (∀ W, Calls Try.prog 84 #[cvSt s, .int .i64 p] W fun e w' => e = .returned (.tuple #[.bool be.1, .int .i64 be.2]) ∧ Below W.heap.size W w') := Lib.hid fun W => by rw [← hbe]; exact below_any s p W (by omega)
  rw [hab, hbe]
  clear hab hbe
  have hp0 : 0 ≤ p := hp.1
  have hp31 : p < 32 := by omega
  clear hn hp hr ho
  obtain ⟨s1, s2, s3⟩ := s
  obtain ⟨x1, x2, x3⟩ := x
  obtain ⟨L1, L2, L3⟩ := L
  simp only at *
  obtain ⟨A, na⟩ := ab
  obtain ⟨B, nb⟩ := be
  have HN : Hid (nearV (A, na) (B, nb) = if A && (!B || decide (na ≤ nb)) then 1 else if B then 2 else 0) := Lib.hid rfl
  obtain ⟨nr, hnr⟩ : ∃ nr, nearV (A, na) (B, nb) = nr := ⟨_, rfl⟩
  rw [hnr] at HN ⊢
  clear hnr
  have X0 : Blk (w.alloc (.cells #[.int .i64 r, .int .i64 o] 98)) w.heap.size [.int .i64 r, .int .i64 o] := by
    have hx := Blk.new w [.int .i64 r, .int .i64 o] 98
    exact hx
  replace X0 : Blk ((w.alloc (.cells #[.int .i64 r, .int .i64 o] 98)).alloc (.cells #[.int .u32 (s1.toNat : Int), .int .u32 (s2.toNat : Int), .int .u32 (s3.toNat : Int)] 100)) w.heap.size [.int .i64 r, .int .i64 o] := X0.next (below1' _ _)
  replace X0 : Blk (((w.alloc (.cells #[.int .i64 r, .int .i64 o] 98)).alloc (.cells #[.int .u32 (s1.toNat : Int), .int .u32 (s2.toNat : Int), .int .u32 (s3.toNat : Int)] 100)).alloc (.cells #[.bool false, .bool false, .bool false, .bool false, .bool false, .int .i64 0] 116)) w.heap.size [.int .i64 r, .int .i64 o] := X0.next (below1' _ _)
  have X1 : Blk ((w.alloc (.cells #[.int .i64 r, .int .i64 o] 98)).alloc (.cells #[.int .u32 (s1.toNat : Int), .int .u32 (s2.toNat : Int), .int .u32 (s3.toNat : Int)] 100)) (w.heap.size + 1) [.int .u32 (s1.toNat : Int), .int .u32 (s2.toNat : Int), .int .u32 (s3.toNat : Int)] := by
    have hx := Blk.new (w.alloc (.cells #[.int .i64 r, .int .i64 o] 98)) [.int .u32 (s1.toNat : Int), .int .u32 (s2.toNat : Int), .int .u32 (s3.toNat : Int)] 100
    rw [World.size_alloc] at hx
    exact hx
  replace X1 : Blk (((w.alloc (.cells #[.int .i64 r, .int .i64 o] 98)).alloc (.cells #[.int .u32 (s1.toNat : Int), .int .u32 (s2.toNat : Int), .int .u32 (s3.toNat : Int)] 100)).alloc (.cells #[.bool false, .bool false, .bool false, .bool false, .bool false, .int .i64 0] 116)) (w.heap.size + 1) [.int .u32 (s1.toNat : Int), .int .u32 (s2.toNat : Int), .int .u32 (s3.toNat : Int)] := X1.next (below1' _ _)
  have X2 : Blk (((w.alloc (.cells #[.int .i64 r, .int .i64 o] 98)).alloc (.cells #[.int .u32 (s1.toNat : Int), .int .u32 (s2.toNat : Int), .int .u32 (s3.toNat : Int)] 100)).alloc (.cells #[.bool false, .bool false, .bool false, .bool false, .bool false, .int .i64 0] 116)) (w.heap.size + 1 + 1) [.bool false, .bool false, .bool false, .bool false, .bool false, .int .i64 0] := by
    have hx := Blk.new ((w.alloc (.cells #[.int .i64 r, .int .i64 o] 98)).alloc (.cells #[.int .u32 (s1.toNat : Int), .int .u32 (s2.toNat : Int), .int .u32 (s3.toNat : Int)] 100)) [.bool false, .bool false, .bool false, .bool false, .bool false, .int .i64 0] 116
    rw [World.size_alloc, World.size_alloc] at hx
    exact hx
  have XW : Below w.heap.size w (w.alloc (.cells #[.int .i64 r, .int .i64 o] 98)) := below1' w _
  replace XW : Below w.heap.size w ((w.alloc (.cells #[.int .i64 r, .int .i64 o] 98)).alloc (.cells #[.int .u32 (s1.toNat : Int), .int .u32 (s2.toNat : Int), .int .u32 (s3.toNat : Int)] 100)) := XW.trans ((below1' _ _).mono XW.size)
  replace XW : Below w.heap.size w (((w.alloc (.cells #[.int .i64 r, .int .i64 o] 98)).alloc (.cells #[.int .u32 (s1.toNat : Int), .int .u32 (s2.toNat : Int), .int .u32 (s3.toNat : Int)] 100)).alloc (.cells #[.bool false, .bool false, .bool false, .bool false, .bool false, .int .i64 0] 116)) := XW.trans ((below1' _ _).mono XW.size)
  have HWW := Lib.hid XW; have HX0 := Lib.hid X0; have HX1 := Lib.hid X1; have HX2 := Lib.hid X2
  clear XW X0 X1 X2
  go_enter Try.func67, Try.ntmps67
  go_upto_region 1 with fail
  generalize (((w.alloc (.cells #[.int .i64 r, .int .i64 o] 98)).alloc (.cells #[.int .u32 (s1.toNat : Int), .int .u32 (s2.toNat : Int), .int .u32 (s3.toNat : Int)] 100)).alloc (.cells #[.bool false, .bool false, .bool false, .bool false, .bool false, .int .i64 0] 116)) = w0 at *
  generalize hg2 : w.heap.size + 1 + 1 = g2 at *
  generalize hg1 : w.heap.size + 1 = g1 at *
  have HG1 := Lib.hid hg1; have hq1 : w.heap.size + 1 ≤ g1 := by omega
  have HG2 := Lib.hid hg2; have hq2 : w.heap.size + 2 ≤ g2 := by omega
  clear hg1 hg2
  have HW := Lib.hid (Below.refl w0.heap.size w0)
  have hz0 := HX0.out.lt; have hz1 := HX1.out.lt; have hz2 := HX2.out.lt
  have hg01 : w.heap.size ≤ g1 := by omega
  have hg02 : w.heap.size ≤ g2 := by omega
  have k0 := (HX0.out).cell 0 _ rfl
  have k1 := (HX0.out).cell 1 _ rfl
  have y0 := (HX1.out).cell 0 _ rfl
  have y1 := (HX1.out).cell 1 _ rfl
  have y2 := (HX1.out).cell 2 _ rfl
  go_wp2_with fail
  refine (HSP.out w0).mono ?_
  rintro e w1 ⟨rfl, hb1⟩
  have HW1 := Lib.hid (HWW.out.trans (hb1.mono HWW.out.size))
  have HB1 := Lib.hid (HX1.out.next hb1); have HC1 := Lib.hid (HX2.out.next hb1)
  clear k0 k1 y0 y1 y2 hb1 HX0 HX1 HX2 HWW HW hz0 hz1 hz2
  go_upto_region 2 with fail
  have BX := Blk.new w1 [.int .u32 (x1.toNat : Int), .int .u32 (x2.toNat : Int), .int .u32 (x3.toNat : Int)] 100
  have hbx := below1' w1 (.cells #[.int .u32 (x1.toNat : Int), .int .u32 (x2.toNat : Int), .int .u32 (x3.toNat : Int)] 100)
  change Blk (w1.alloc (.cells #[.int .u32 (x1.toNat : Int), .int .u32 (x2.toNat : Int), .int .u32 (x3.toNat : Int)] 100)) _ _ at BX
  have HX := Lib.hid BX; have HB2 := Lib.hid (HB1.out.next hbx); have HC2 := Lib.hid (HC1.out.next hbx); have HW2 := Lib.hid (HW1.out.trans (hbx.mono HW1.out.size))
  clear BX hbx HB1 HC1 HW1
  generalize w1.alloc (.cells #[.int .u32 (x1.toNat : Int), .int .u32 (x2.toNat : Int), .int .u32 (x3.toNat : Int)] 100) = w2 at *
  generalize w1.heap.size = gx at *
  have y0 := (HB2.out).reg 0 _ rfl
  have y1 := (HB2.out).reg 1 _ rfl
  have y2 := (HB2.out).reg 2 _ rfl
  have z0 := (HX.out).reg 0 _ rfl
  have z1 := (HX.out).reg 1 _ rfl
  have z2 := (HX.out).reg 2 _ rfl
  have hlo : w2.heap.size ≤ w2.drew.heap.size := Nat.le_refl _
  refine Grow.wp_region_tail 12 (mkPlan 11 ptrS w2.heap.size [.int .u32 0, .int .u32 0, .int .u32 0]) (mkPlan_stable _ _ _ _) (by kernel_rfl) (by kernel_rfl) ?_
  intro opsq Hopsq
  simp only [List.take_succ_cons, List.take_zero, List.drop_succ_cons, List.drop_zero]
  repeat (first | (refine Grow.lex_move rfl ?_ rfl ?_; (· first | exact Grow.wanted_none | (rw [Hopsq.out]; rfl)); intro K hK; simp only [Grow.put_lit, Grow.setAt, Grow.eval_lit, Grow.ev]; refine hK _ _ ?_; clear hK K) | (refine Grow.lex_assign rfl ?_ rfl ?_; (· first | exact Grow.wanted_none | (rw [Hopsq.out]; rfl)); intro K hK; simp only [Grow.put_lit, Grow.setAt, Grow.eval_lit, Grow.ev]; refine hK _ _ ?_; clear hK K) | (refine Grow.lex_plain rfl rfl ?_ rfl ?_; (· first | exact Grow.wanted_none | (rw [Hopsq.out]; rfl)); apply Exists.intro; refine ⟨fun wq hCq _ => ?_, ?_⟩; (· (go_wp2_with fail; refine ⟨rfl, Below.refl _ _, ?_⟩; simp only [Grow.getD_lit, Grow.nth]; rfl)); intro K hK; simp only [Grow.put_lit, Grow.setAt]; refine hK _ _ ?_; clear hK K) | (refine Grow.lex_nilCheck rfl rfl ?_ rfl ?_; (· first | exact Grow.wanted_none | (rw [Hopsq.out]; rfl)); intro K hK; simp only [Grow.put_lit, Grow.setAt]; refine hK _ _ ?_; clear hK K) | (refine Grow.lex_skip ?_ ?_; (· (rw [Hopsq.out]; rfl)); intro K hK; simp only [Grow.put_lit, Grow.setAt]; refine hK _ _ ?_; clear hK K))
  (refine Grow.lex_call ?_ rfl ?_; (· first | exact Grow.wanted_none | (rw [Hopsq.out]; rfl)); apply Exists.intro; apply Exists.intro; refine ⟨fun wq => ?_, ?_⟩; (· (go_simp; exact ⟨rfl, rfl⟩)); apply Exists.intro; refine ⟨fun wq hCq hKq => ?_, ?_⟩; (· exact HMI.out _); intro K hK; simp only [Grow.put_lit, Grow.setAt]; refine hK _ _ ?_; clear hK K)
  repeat (first | (refine Grow.lex_move rfl ?_ rfl ?_; (· first | exact Grow.wanted_none | (rw [Hopsq.out]; rfl)); intro K hK; simp only [Grow.put_lit, Grow.setAt, Grow.eval_lit, Grow.ev]; refine hK _ _ ?_; clear hK K) | (refine Grow.lex_assign rfl ?_ rfl ?_; (· first | exact Grow.wanted_none | (rw [Hopsq.out]; rfl)); intro K hK; simp only [Grow.put_lit, Grow.setAt, Grow.eval_lit, Grow.ev]; refine hK _ _ ?_; clear hK K) | (refine Grow.lex_plain rfl rfl ?_ rfl ?_; (· first | exact Grow.wanted_none | (rw [Hopsq.out]; rfl)); apply Exists.intro; refine ⟨fun wq hCq _ => ?_, ?_⟩; (· (go_wp2_with fail; refine ⟨rfl, Below.refl _ _, ?_⟩; simp only [Grow.getD_lit, Grow.nth]; rfl)); intro K hK; simp only [Grow.put_lit, Grow.setAt]; refine hK _ _ ?_; clear hK K) | (refine Grow.lex_nilCheck rfl rfl ?_ rfl ?_; (· first | exact Grow.wanted_none | (rw [Hopsq.out]; rfl)); intro K hK; simp only [Grow.put_lit, Grow.setAt]; refine hK _ _ ?_; clear hK K) | (refine Grow.lex_skip ?_ ?_; (· (rw [Hopsq.out]; rfl)); intro K hK; simp only [Grow.put_lit, Grow.setAt]; refine hK _ _ ?_; clear hK K))
  refine lex_mk 11 ptrS w2.heap.size [.int .u32 0, .int .u32 0, .int .u32 0] 100 ?_ (fun wq => ?_) hlo ?_
  · first | exact Grow.wanted_none | (rw [Hopsq.out]; rfl)
  · go_simp
    first | rfl | exact ⟨rfl, rfl⟩
  intro gl hgl
  simp only [Grow.put_lit, Grow.setAt]
  refine Grow.lex_nil ?_
  intro w3 hb3 hTq
  have BG := mk_blk ptrS_inj hTq
  clear hTq
  replace hb3 := Grow.Cl.base hb3
  clear Hopsq opsq y0 y1 y2 z0 z1 z2 hlo
  have HB3 := Lib.hid (HB2.out.next hb3); have HC3 := Lib.hid (HC2.out.next hb3); have HW3 := Lib.hid (HW2.out.trans (hb3.mono HW2.out.size))
  have hglw : w.heap.size ≤ gl := Nat.le_trans HW2.out.size hgl
  have hglB : g1 ≠ gl := by have := HB2.out.lt; omega
  have hglC : g2 ≠ gl := by have := HC2.out.lt; omega
  have HG := Lib.hid BG
  clear BG hb3 HB2 HC2 HW2 HX
  have z0 := (HG.out).cell 0 _ rfl
  have z1 := (HG.out).cell 1 _ rfl
  have z2 := (HG.out).cell 2 _ rfl
  have f0 := HG.out.fr 0; have f1 := HG.out.fr 1; have f2 := HG.out.fr 2
  unfold ptrS
  go_upto_region 3 with fail
  have HL4 := Lib.hid (((HG.out.set 0 (.int .u32 (L1.toNat : Int))).set 1 (.int .u32 (L2.toNat : Int))).set 2 (.int .u32 (L3.toNat : Int)))
  have HB4 := Lib.hid (((HB3.out.other hglB (i := 0) (.int .u32 (L1.toNat : Int))).other hglB (i := 1) (.int .u32 (L2.toNat : Int))).other hglB (i := 2) (.int .u32 (L3.toNat : Int)))
  have HC4 := Lib.hid (((HC3.out.other hglC (i := 0) (.int .u32 (L1.toNat : Int))).other hglC (i := 1) (.int .u32 (L2.toNat : Int))).other hglC (i := 2) (.int .u32 (L3.toNat : Int)))
  have HW4 := Lib.hid (((HW3.out.setCell (p := ⟨gl, 0, none⟩) hglw (.int .u32 (L1.toNat : Int))).setCell (p := ⟨gl, 1, none⟩) hglw (.int .u32 (L2.toNat : Int))).setCell (p := ⟨gl, 2, none⟩) hglw (.int .u32 (L3.toNat : Int)))
  clear z0 z1 z2 f0 f1 f2 HG HB3 HC3 HW3
  generalize ((w3.setCell ⟨gl, 0, none⟩ (.int .u32 (L1.toNat : Int))).setCell ⟨gl, 1, none⟩ (.int .u32 (L2.toNat : Int))).setCell ⟨gl, 2, none⟩ (.int .u32 (L3.toNat : Int)) = w4 at *
  have HL4' : Hid (Blk w4 gl [.int .u32 (L1.toNat : Int), .int .u32 (L2.toNat : Int), .int .u32 (L3.toNat : Int)]) := HL4
  clear HL4
  have z0 := (HL4'.out).reg 0 _ rfl
  have z1 := (HL4'.out).reg 1 _ rfl
  have z2 := (HL4'.out).reg 2 _ rfl
  have hlo : w4.heap.size ≤ w4.drew.heap.size := Nat.le_refl _
  refine Grow.wp_region_tail 17 (mkPlan 16 ptrS w4.heap.size [.bool false, .bool false, .bool false, .bool false, .bool false, .int .i64 0]) (mkPlan_stable _ _ _ _) (by kernel_rfl) (by kernel_rfl) ?_
  intro opsq Hopsq
  simp only [List.take_succ_cons, List.take_zero, List.drop_succ_cons, List.drop_zero]
  repeat (first | (refine Grow.lex_move rfl ?_ rfl ?_; (· first | exact Grow.wanted_none | (rw [Hopsq.out]; rfl)); intro K hK; simp only [Grow.put_lit, Grow.setAt, Grow.eval_lit, Grow.ev]; refine hK _ _ ?_; clear hK K) | (refine Grow.lex_assign rfl ?_ rfl ?_; (· first | exact Grow.wanted_none | (rw [Hopsq.out]; rfl)); intro K hK; simp only [Grow.put_lit, Grow.setAt, Grow.eval_lit, Grow.ev]; refine hK _ _ ?_; clear hK K) | (refine Grow.lex_plain rfl rfl ?_ rfl ?_; (· first | exact Grow.wanted_none | (rw [Hopsq.out]; rfl)); apply Exists.intro; refine ⟨fun wq hCq _ => ?_, ?_⟩; (· (go_wp2_with fail; refine ⟨rfl, Below.refl _ _, ?_⟩; simp only [Grow.getD_lit, Grow.nth]; rfl)); intro K hK; simp only [Grow.put_lit, Grow.setAt]; refine hK _ _ ?_; clear hK K) | (refine Grow.lex_nilCheck rfl rfl ?_ rfl ?_; (· first | exact Grow.wanted_none | (rw [Hopsq.out]; rfl)); intro K hK; simp only [Grow.put_lit, Grow.setAt]; refine hK _ _ ?_; clear hK K) | (refine Grow.lex_skip ?_ ?_; (· (rw [Hopsq.out]; rfl)); intro K hK; simp only [Grow.put_lit, Grow.setAt]; refine hK _ _ ?_; clear hK K))
  (refine Grow.lex_call ?_ rfl ?_; (· first | exact Grow.wanted_none | (rw [Hopsq.out]; rfl)); apply Exists.intro; apply Exists.intro; refine ⟨fun wq => ?_, ?_⟩; (· (go_simp; exact ⟨rfl, rfl⟩)); apply Exists.intro; refine ⟨fun wq hCq hKq => ?_, ?_⟩; (· exact HH1.out _); intro K hK; simp only [Grow.put_lit, Grow.setAt]; refine hK _ _ ?_; clear hK K)
  repeat (first | (refine Grow.lex_move rfl ?_ rfl ?_; (· first | exact Grow.wanted_none | (rw [Hopsq.out]; rfl)); intro K hK; simp only [Grow.put_lit, Grow.setAt, Grow.eval_lit, Grow.ev]; refine hK _ _ ?_; clear hK K) | (refine Grow.lex_assign rfl ?_ rfl ?_; (· first | exact Grow.wanted_none | (rw [Hopsq.out]; rfl)); intro K hK; simp only [Grow.put_lit, Grow.setAt, Grow.eval_lit, Grow.ev]; refine hK _ _ ?_; clear hK K) | (refine Grow.lex_plain rfl rfl ?_ rfl ?_; (· first | exact Grow.wanted_none | (rw [Hopsq.out]; rfl)); apply Exists.intro; refine ⟨fun wq hCq _ => ?_, ?_⟩; (· (go_wp2_with fail; refine ⟨rfl, Below.refl _ _, ?_⟩; simp only [Grow.getD_lit, Grow.nth]; rfl)); intro K hK; simp only [Grow.put_lit, Grow.setAt]; refine hK _ _ ?_; clear hK K) | (refine Grow.lex_nilCheck rfl rfl ?_ rfl ?_; (· first | exact Grow.wanted_none | (rw [Hopsq.out]; rfl)); intro K hK; simp only [Grow.put_lit, Grow.setAt]; refine hK _ _ ?_; clear hK K) | (refine Grow.lex_skip ?_ ?_; (· (rw [Hopsq.out]; rfl)); intro K hK; simp only [Grow.put_lit, Grow.setAt]; refine hK _ _ ?_; clear hK K))
  (refine Grow.lex_call ?_ rfl ?_; (· first | exact Grow.wanted_none | (rw [Hopsq.out]; rfl)); apply Exists.intro; apply Exists.intro; refine ⟨fun wq => ?_, ?_⟩; (· (go_simp; exact ⟨rfl, rfl⟩)); apply Exists.intro; refine ⟨fun wq hCq hKq => ?_, ?_⟩; (· exact HH2.out _); intro K hK; simp only [Grow.put_lit, Grow.setAt]; refine hK _ _ ?_; clear hK K)
  repeat (first | (refine Grow.lex_move rfl ?_ rfl ?_; (· first | exact Grow.wanted_none | (rw [Hopsq.out]; rfl)); intro K hK; simp only [Grow.put_lit, Grow.setAt, Grow.eval_lit, Grow.ev]; refine hK _ _ ?_; clear hK K) | (refine Grow.lex_assign rfl ?_ rfl ?_; (· first | exact Grow.wanted_none | (rw [Hopsq.out]; rfl)); intro K hK; simp only [Grow.put_lit, Grow.setAt, Grow.eval_lit, Grow.ev]; refine hK _ _ ?_; clear hK K) | (refine Grow.lex_plain rfl rfl ?_ rfl ?_; (· first | exact Grow.wanted_none | (rw [Hopsq.out]; rfl)); apply Exists.intro; refine ⟨fun wq hCq _ => ?_, ?_⟩; (· (go_wp2_with fail; refine ⟨rfl, Below.refl _ _, ?_⟩; simp only [Grow.getD_lit, Grow.nth]; rfl)); intro K hK; simp only [Grow.put_lit, Grow.setAt]; refine hK _ _ ?_; clear hK K) | (refine Grow.lex_nilCheck rfl rfl ?_ rfl ?_; (· first | exact Grow.wanted_none | (rw [Hopsq.out]; rfl)); intro K hK; simp only [Grow.put_lit, Grow.setAt]; refine hK _ _ ?_; clear hK K) | (refine Grow.lex_skip ?_ ?_; (· (rw [Hopsq.out]; rfl)); intro K hK; simp only [Grow.put_lit, Grow.setAt]; refine hK _ _ ?_; clear hK K))
  refine lex_mk 16 ptrS w4.heap.size [.bool false, .bool false, .bool false, .bool false, .bool false, .int .i64 0] 116 ?_ (fun wq => ?_) hlo ?_
  · first | exact Grow.wanted_none | (rw [Hopsq.out]; rfl)
  · go_simp
    first | rfl | exact ⟨rfl, rfl⟩
  intro gs hgs
  simp only [Grow.put_lit, Grow.setAt]
  refine Grow.lex_nil ?_
  intro w5 hb5 hTq
  have BS := mk_blk ptrS_inj hTq
  clear hTq
  replace hb5 := Grow.Cl.base hb5
  clear Hopsq opsq z0 z1 z2 hlo
  have HB5 := Lib.hid (HB4.out.next hb5); have HC5 := Lib.hid (HC4.out.next hb5); have HW5 := Lib.hid (HW4.out.trans (hb5.mono HW4.out.size))
  have hgsw : w.heap.size ≤ gs := Nat.le_trans HW4.out.size hgs
  have hgsB : g1 ≠ gs := by have := HB4.out.lt; omega
  have hgsC : g2 ≠ gs := by have := HC4.out.lt; omega
  have HS5 := Lib.hid BS
  clear BS hb5 HB4 HC4 HW4 HL4'
  have z0 := (HS5.out).cell 0 _ rfl
  have z1 := (HS5.out).cell 1 _ rfl
  have z2 := (HS5.out).cell 2 _ rfl
  have z3 := (HS5.out).cell 3 _ rfl
  have z4 := (HS5.out).cell 4 _ rfl
  have z5 := (HS5.out).cell 5 _ rfl
  have f0 := HS5.out.fr 0; have f1 := HS5.out.fr 1; have f2 := HS5.out.fr 2; have f3 := HS5.out.fr 3; have f4 := HS5.out.fr 4; have f5 := HS5.out.fr 5
  unfold ptrS
  go_upto_region 4 with fail
  have HS6 := Lib.hid (set6 HS5.out (.bool u) (.bool d) (.bool c) (.bool false) (.bool false) (.int .i64 0))
  have HB6 := Lib.hid (keep6 HB5.out hgsB (.bool u) (.bool d) (.bool c) (.bool false) (.bool false) (.int .i64 0))
  have HC6 := Lib.hid (keep6 HC5.out hgsC (.bool u) (.bool d) (.bool c) (.bool false) (.bool false) (.int .i64 0))
  have HW6 := Lib.hid (low6 HW5.out hgsw (.bool u) (.bool d) (.bool c) (.bool false) (.bool false) (.int .i64 0))
  clear z0 z1 z2 z3 z4 z5 f0 f1 f2 f3 f4 f5 HS5 HB5 HC5 HW5
  generalize (((((w5.setCell ⟨gs, 0, none⟩ (.bool u)).setCell ⟨gs, 1, none⟩ (.bool d)).setCell ⟨gs, 2, none⟩ (.bool c)).setCell ⟨gs, 3, none⟩ (.bool false)).setCell ⟨gs, 4, none⟩ (.bool false)).setCell ⟨gs, 5, none⟩ (.int .i64 0) = w6 at *
  have y0 := (HB6.out).cell 0 _ rfl
  have y1 := (HB6.out).cell 1 _ rfl
  have y2 := (HB6.out).cell 2 _ rfl
  go_wp2_with fail
  refine (HAB.out w6).mono ?_
  rintro e w7 ⟨rfl, hb7⟩
  have HS7 := Lib.hid (HS6.out.next hb7); have HB7 := Lib.hid (HB6.out.next hb7); have HC7 := Lib.hid (HC6.out.next hb7); have HW7 := Lib.hid (HW6.out.trans (hb7.mono HW6.out.size))
  clear y0 y1 y2 hb7 HS6 HB6 HC6 HW6
  have y0 := (HB7.out).cell 0 _ rfl
  have y1 := (HB7.out).cell 1 _ rfl
  have y2 := (HB7.out).cell 2 _ rfl
  go_wp2_with fail
  refine (HBE.out w7).mono ?_
  rintro e w8 ⟨rfl, hb8⟩
  have HS8 := Lib.hid (HS7.out.next hb8); have HC8 := Lib.hid (HC7.out.next hb8); have HW8 := Lib.hid (HW7.out.trans (hb8.mono HW7.out.size))
  clear y0 y1 y2 hb8 HS7 HB7 HC7 HW7
  have z0 := (HS8.out).cell 0 _ rfl
  have z1 := (HS8.out).cell 1 _ rfl
  have z2 := (HS8.out).cell 2 _ rfl
  have z3 := (HS8.out).cell 3 _ rfl
  have z4 := (HS8.out).cell 4 _ rfl
  have z5 := (HS8.out).cell 5 _ rfl
  have f3 := HS8.out.fr 3; have f4 := HS8.out.fr 4
  go_upto_block 0 with fail
  have HS9 := Lib.hid ((HS8.out.set 3 (.bool A)).set 4 (.bool B))
  have HC9 := Lib.hid ((HC8.out.other hgsC (i := 3) (.bool A)).other hgsC (i := 4) (.bool B))
  have HW9 := Lib.hid ((HW8.out.setCell (p := ⟨gs, 3, none⟩) hgsw (.bool A)).setCell (p := ⟨gs, 4, none⟩) hgsw (.bool B))
  clear z0 z1 z2 z3 z4 z5 f3 f4 HS8 HC8 HW8
  generalize (w8.setCell ⟨gs, 3, none⟩ (.bool A)).setCell ⟨gs, 4, none⟩ (.bool B) = w9 at *
  have HS9' : Hid (Blk w9 gs [.bool u, .bool d, .bool c, .bool A, .bool B, .int .i64 0]) := HS9
  clear HS9
  go_cut [] from 65 to 78 (fun wx => Blk wx gs [.bool u, .bool d, .bool c, .bool A, .bool B, .int .i64 nr] ∧ Blk wx g2 [.bool false, .bool false, .bool false, .bool false, .bool false, .int .i64 0] ∧ Below w.heap.size w wx)
  case first =>
    have z5 := HS9'.out.cell 5 _ rfl
    have f5 := HS9'.out.fr 5
    cases A <;> cases B
    · have HNN : Hid (nr = 0) := Lib.hid (by rw [HN.out]; simp)
      go_wp2_with fail
      go_meet
      exact ⟨by rw [HNN.out]; exact HS9'.out, HC9.out, HW9.out⟩
    · have HNN : Hid (nr = 2) := Lib.hid (by rw [HN.out]; simp)
      go_wp2_with fail
      go_meet
      exact ⟨by rw [HNN.out]; exact HS9'.out.set 5 (.int .i64 2), HC9.out.other hgsC (i := 5) (.int .i64 2), HW9.out.setCell (p := ⟨gs, 5, none⟩) hgsw (.int .i64 2)⟩
    · have HNN : Hid (nr = 1) := Lib.hid (by rw [HN.out]; simp)
      go_wp2_with fail
      go_meet
      exact ⟨by rw [HNN.out]; exact HS9'.out.set 5 (.int .i64 1), HC9.out.other hgsC (i := 5) (.int .i64 1), HW9.out.setCell (p := ⟨gs, 5, none⟩) hgsw (.int .i64 1)⟩
    · by_cases hge : na ≤ nb
      · have HNN : Hid (nr = 1) := Lib.hid (by rw [HN.out]; simp [hge])
        have hgd : decide (na ≤ nb) = true := decide_eq_true hge
        clear hge
        go_wp2_with fail
        go_meet
        exact ⟨by rw [HNN.out]; exact HS9'.out.set 5 (.int .i64 1), HC9.out.other hgsC (i := 5) (.int .i64 1), HW9.out.setCell (p := ⟨gs, 5, none⟩) hgsw (.int .i64 1)⟩
      · have HNN : Hid (nr = 2) := Lib.hid (by rw [HN.out]; simp [hge])
        have hgd : decide (na ≤ nb) = false := decide_eq_false hge
        clear hge
        go_wp2_with fail
        go_meet
        exact ⟨by rw [HNN.out]; exact HS9'.out.set 5 (.int .i64 2), HC9.out.other hgsC (i := 5) (.int .i64 2), HW9.out.setCell (p := ⟨gs, 5, none⟩) hgsw (.int .i64 2)⟩
  case rest =>
  obtain ⟨hS, hC, hW⟩ := hcut
  generalize wc = wA at *
  have HSA := Lib.hid hS; have HCA := Lib.hid hC; have HWA := Lib.hid hW
  clear hS hC hW HS9' HC9 HW9
  have z0 := (HSA.out).cell 0 _ rfl
  have z1 := (HSA.out).cell 1 _ rfl
  have z2 := (HSA.out).cell 2 _ rfl
  have z3 := (HSA.out).cell 3 _ rfl
  have z4 := (HSA.out).cell 4 _ rfl
  have z5 := (HSA.out).cell 5 _ rfl
  have y0 := (HCA.out).cell 0 _ rfl
  have y1 := (HCA.out).cell 1 _ rfl
  have y2 := (HCA.out).cell 2 _ rfl
  have y3 := (HCA.out).cell 3 _ rfl
  have y4 := (HCA.out).cell 4 _ rfl
  have y5 := (HCA.out).cell 5 _ rfl
  have f0 := HCA.out.fr 0; have f1 := HCA.out.fr 1; have f2 := HCA.out.fr 2; have f3 := HCA.out.fr 3; have f4 := HCA.out.fr 4; have f5 := HCA.out.fr 5
  go_wp2_with fail
  have R6 := set6 HCA.out (.bool u) (.bool d) (.bool c) (.bool A) (.bool B) (.int .i64 nr)
  have r0 := (R6).cell 0 _ rfl
  have r1 := (R6).cell 1 _ rfl
  have r2 := (R6).cell 2 _ rfl
  have r3 := (R6).cell 3 _ rfl
  have r4 := (R6).cell 4 _ rfl
  have r5 := (R6).cell 5 _ rfl
  exact bodyPost_ret (v := .agg #[.bool u, .bool d, .bool c, .bool A, .bool B, .int .i64 nr]) (by simp [results, Try.results67, go_sem, r0, r1, r2, r3, r4, r5]) rfl ⟨rfl, low6 HWA.out hg02 _ _ _ _ _ _⟩
end Rel
end Go.Proofs.Ytfmmiafdlfdfoaa
