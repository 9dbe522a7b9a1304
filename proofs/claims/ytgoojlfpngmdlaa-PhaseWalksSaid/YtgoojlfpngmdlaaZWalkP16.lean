/- PhaseWalks: the loop over the records. Conditions: those of the theorem. -/
import Derived.Test.YtgoojlfpngmdlaaZWalkRes
import Derived.Test.YtgoojlfpngmdlaaZSane25
import Derived.Test.YtgoojlfpngmdlaaZFrame
import Derived.Test.YtgoojlfpngmdlaaZArgs25
import Derived.Test.YtgoojlfpngmdlaaZCallsOf
import Derived.Test.YtgoojlfpngmdlaaZObs
namespace Go.Proofs.Ytgoojlfpngmdlaa
open Go.ChangeShapes Go.WideShapes Go.ChangeAt Go.RowKit
attribute [local go_sem] run_store_float
set_option maxHeartbeats 2000000 in
set_option maxRecDepth 100000 in
theorem walk_p16 (b : BldV) (g cap k : Nat) (m : ImgV) (a : ImgA) (C : List Bool) (L : List R5) (n : Nat) (q14 : Option Addr) (c14 : Nat) (g5 g8 gx : Nat) (w14 w15 : World) (K : Act → World → Prop) (Q' : Exit → Act → World → Prop) (u0 u1 u2 u3 u4 u5 u6 u8 u9 u10 u11 u12 u14 u17 u18 u19 u20 u21 u22 u23 u24 u25 u26 u27 u28 u29 u30 u31 u32 u33 u34 u35 u36 u37 u38 u39 u40 u41 u42 u43 u44 u45 u46 u47 u48 u49 u50 u51 u52 u53 u54 u55 u56 u57 u58 u59 u60 u61 u62 u63 u64 u65 u66 u67 u68 u69 u70 u71 u72 u73 u74 u75 u76 u77 u78 u79 u80 u81 u82 u83 u84 u85 u86 u87 u88 u89 u90 u91 u92 u93 u94 u95 u96 u97 u98 u99 u100 u101 u102 u103 u104 u105 u106 u107 u108 u109 u110 u111 u112 u113 u114 u115 u116 u117 u118 u119 u120 u121 u122 u123 u124 u125 u126 u127 u128 u129 u130 u131 u132 u133 u134 u135 u136 u137 u138 u139 u140 u141 u142 u143 u144 u145 u146 u147 u148 u149 u150 u151 u152 u153 u154 u155 u156 u157 u158 u159 u160 u161 u162 u163 u164 u165 u166 u167 u168 u169 u170 u171 u172 u173 u174 u175 u176 u177 u178 u179 u180 u181 u182 u183 u184 u185 u186 u187 u188 u189 u190 u191 u192 u193 u194 u195 u196 u197 u198 u199 u200 u201 u202 u203 u204 u205 u206 u207 u208 u209 u210 u211 u212 u213 u214 u215 u216 u217 u218 u219 u220 u221 u222 u223 u224 u225 u226 u227 : Value)
    (HK : Hid (b.cars.length = k)) (hkr : 1 ≤ k ∧ k ≤ 3) (HSL : Hid (∀ c ∈ b.cars, -9223372036854775808 ≤ c.sl ∧ c.sl < 9223372036854775807)) (HRW : Hid (RecsW b m L C)) (HPL : Hid (m.ph.length ≤ 1000)) (HEL : Hid (m.en.length ≤ 1000)) (HNL : Hid (L.length = n)) (hn3 : n ≤ 3000)
    (HALX : Hid (∀ W, Below gx w14 W → Blk W g5 [.int .i64 b.fl, .int .i64 b.deb, .int .i64 b.room, .int .i64 b.park, .float .f64 b.em, .float .f64 b.fu, .float .f64 b.ov, .slice (some ⟨g, 0, none⟩) b.cars.length cap] ∧ RdC W (some ⟨g, 0, none⟩) b.cars ∧ RdX W q14 (recCells L)))
    (hg8x : g8 < gx) (HBX : Hid (Blk w15 gx [.slice a.p m.ph.length a.pc, .slice a.f m.fg.length a.fc, .slice a.l m.lv.length a.lc, .slice a.e m.en.length a.ec])) (HMX : Hid (RdM w15 m a)) (HFX2 : Hid (∀ g, gx ≤ g → NeM g a)) (HNE : Hid (NeM g8 a)) (HWX : Hid (Below gx w14 w15))
    (hK : ∀ (v6 v16 v108 v109 v110 v111 v112 v113 v114 v115 v116 v117 v118 v119 v120 v121 v122 v123 v124 v125 v126 v127 v128 v129 v130 v131 v132 v133 v134 v135 v136 v137 v138 v139 v140 v141 v142 v143 v144 v145 v146 v147 v148 v149 v150 v151 v152 v153 v154 : Value) (w' : World) (a' : ImgA), Blk w' gx [.slice a'.p (midW m L n).ph.length a'.pc, .slice a'.f (midW m L n).fg.length a'.fc, .slice a'.l (midW m L n).lv.length a'.lc, .slice a'.e (midW m L n).en.length a'.ec] → RdM w' (midW m L n) a' → NeM gx a' → NeM g8 a' → FarM w' a' → Below gx w14 w' →
      K ⟨#[u0, u1, u2, u3, u4, u5, v6, .pointer (some ⟨g5, 0, none⟩), u8, u9, u10, u11, u12, .slice q14 n c14, u14, .pointer (some ⟨gx, 0, none⟩), v16, u17, u18, u19, u20, u21, u22, u23, u24, u25, u26, u27, u28, u29, u30, u31, u32, u33, u34, u35, u36, u37, u38, u39, u40, u41, u42, u43, u44, u45, u46, u47, u48, u49, u50, u51, u52, u53, u54, u55, u56, u57, u58, u59, u60, u61, u62, u63, u64, u65, u66, u67, u68, u69, u70, u71, u72, u73, u74, u75, u76, u77, u78, u79, u80, u81, u82, u83, u84, u85, u86, u87, u88, u89, u90, u91, u92, u93, u94, u95, u96, u97, u98, u99, u100, u101, u102, u103, u104, u105, u106, u107, v108, v109, v110, v111, v112, v113, v114, v115, v116, v117, v118, v119, v120, v121, v122, v123, v124, v125, v126, v127, v128, v129, v130, v131, v132, v133, v134, v135, v136, v137, v138, v139, v140, v141, v142, v143, v144, v145, v146, v147, v148, v149, v150, v151, v152, v153, v154, u155, u156, u157, u158, u159, u160, u161, u162, u163, u164, u165, u166, u167, u168, u169, u170, u171, u172, u173, u174, u175, u176, u177, u178, u179, u180, u181, u182, u183, u184, u185, u186, u187, u188, u189, u190, u191, u192, u193, u194, u195, u196, u197, u198, u199, u200, u201, u202, u203, u204, u205, u206, u207, u208, u209, u210, u211, u212, u213, u214, u215, u216, u217, u218, u219, u220, u221, u222, u223, u224, u225, u226, u227], []⟩ w') :
    Code.wp Try.prog (rhsC (lhsC (rhsC (rhsC (rhsC (rhsC (rhsC (rhsC (lhsC (lhsC (rhsC (lhsC (lhsC (rhsC (lhsC (rhsC (rhsC (rhsC (rhsC ((Try.f4.body).getD .skip)))))))))))))))))))) (Exit.then K Q') ⟨#[u0, u1, u2, u3, u4, u5, u6, .pointer (some ⟨g5, 0, none⟩), u8, u9, u10, u11, u12, .slice q14 n c14, u14, .pointer (some ⟨gx, 0, none⟩), .int .i64 0, u17, u18, u19, u20, u21, u22, u23, u24, u25, u26, u27, u28, u29, u30, u31, u32, u33, u34, u35, u36, u37, u38, u39, u40, u41, u42, u43, u44, u45, u46, u47, u48, u49, u50, u51, u52, u53, u54, u55, u56, u57, u58, u59, u60, u61, u62, u63, u64, u65, u66, u67, u68, u69, u70, u71, u72, u73, u74, u75, u76, u77, u78, u79, u80, u81, u82, u83, u84, u85, u86, u87, u88, u89, u90, u91, u92, u93, u94, u95, u96, u97, u98, u99, u100, u101, u102, u103, u104, u105, u106, u107, u108, u109, u110, u111, u112, u113, u114, u115, u116, u117, u118, u119, u120, u121, u122, u123, u124, u125, u126, u127, u128, u129, u130, u131, u132, u133, u134, u135, u136, u137, u138, u139, u140, u141, u142, u143, u144, u145, u146, u147, u148, u149, u150, u151, u152, u153, u154, u155, u156, u157, u158, u159, u160, u161, u162, u163, u164, u165, u166, u167, u168, u169, u170, u171, u172, u173, u174, u175, u176, u177, u178, u179, u180, u181, u182, u183, u184, u185, u186, u187, u188, u189, u190, u191, u192, u193, u194, u195, u196, u197, u198, u199, u200, u201, u202, u203, u204, u205, u206, u207, u208, u209, u210, u211, u212, u213, u214, u215, u216, u217, u218, u219, u220, u221, u222, u223, u224, u225, u226, u227], []⟩ w15 := by
  have HKK := Lib.hid hK
  clear hK
  simp only [Try.f4, Option.getD, lhsC, rhsC]
  have hgx15 : gx < w15.heap.size := HBX.out.lt
  go_wp2_with fail
  go_loopw [16] (fun v wr => ∃ (j : Nat) (a' : ImgA), j ≤ n ∧ v = .int .i64 j ∧ Blk wr gx [.slice a'.p (midW m L j).ph.length a'.pc, .slice a'.f (midW m L j).fg.length a'.fc, .slice a'.l (midW m L j).lv.length a'.lc, .slice a'.e (midW m L j).en.length a'.ec] ∧ RdM wr (midW m L j) a' ∧ NeM gx a' ∧ NeM g8 a' ∧ FarM wr a' ∧ Below gx w14 wr) (fun v _ => n - (intOf v).toNat)
  case atStart => exact ⟨0, a, by omega, rfl, HBX.out, HMX.out, HFX2.out gx (Nat.le_refl _), HNE.out, fun g hg => HFX2.out g (by omega), HWX.out⟩
  case round =>
    clear HBX HMX HWX
    obtain ⟨j, a2, hj, rfl, hx, hrd, hn1, hn2', hfar, hbb⟩ := hrel
    have HX := Lib.hid hx; have HRD := Lib.hid hrd; have HN1 := Lib.hid hn1; have HN8 := Lib.hid hn2'; have HFR := Lib.hid hfar; have HBB := Lib.hid hbb
    clear hx hrd hn1 hn2' hfar hbb
    have hgxr : gx < wr.heap.size := HX.out.lt
    by_cases hlt : j < n
    · have hd : decide ((j : Int) < (n : Int)) = true := by simp; omega
      obtain ⟨r, hr⟩ : ∃ r, L[j]? = some r := ⟨_, List.getElem?_eq_getElem (by rw [HNL.out]; exact hlt)⟩
      obtain ⟨hkd, hok⟩ := HRW.out.kind r (List.mem_of_getElem? hr)
      have HST := Lib.hid (HRW.out.step j r hr)
      have HLE : Hid ((midW m L j).ph.length ≤ 1000 ∧ (midW m L j).en.length ≤ 1000) := Lib.hid (by
        rw [HRW.out.ph j (by rw [HNL.out]; exact hj), HRW.out.en j (by rw [HNL.out]; exact hj)]
        exact ⟨HPL.out, HEL.out⟩)
      obtain ⟨A, hqA, hA, x0, x1, x2, x3, x4⟩ := (HALX.out wr HBB.out).2.2.rc hr
      subst hqA
      have hj0 : (0 : Int) ≤ (j : Int) := by omega
      have hjn : (j : Int) < (n : Int) := by omega
      have HKD := Lib.hid hkd
      clear hr hA hkd
      generalize hmj : midW m L j = mj at *
      clear hmj
      go_upto_region 22 with fail
      clear hd
      go_cut [144] from 114 to 144 (fun v wx => v = .bool false ∧ Below wr.heap.size wr wx)
      case first =>
        have HVC : Hid (∀ W, Below wr.heap.size wr W → Calls Try.prog 15 #[cvB b (some ⟨g, 0, none⟩) cap, cvR r] W fun e w' => e = .returned (.bool true) ∧ Below W.heap.size W w') := Lib.hid fun W h => by
          have hh := valid9_any b (some ⟨g, 0, none⟩) cap r W (by rw [HK.out]; omega) HSL.out (HALX.out W (HBB.out.trans (h.mono (Nat.le_of_lt hgxr)))).2.1
          rw [hok] at hh
          exact hh
        obtain ⟨rk, rf, rd, rc, rv⟩ := r
        have hkd := HKD.out
        simp only at hkd x0 x1 x2 x3 x4
        clear HKD hok HST
        replace x0 : ∀ W, Grow.Cl wr.drew W → _ := fun W h => cell_later (Grow.Cl.base h) x0
        replace x1 : ∀ W, Grow.Cl wr.drew W → _ := fun W h => cell_later (Grow.Cl.base h) x1
        replace x2 : ∀ W, Grow.Cl wr.drew W → _ := fun W h => cell_later (Grow.Cl.base h) x2
        replace x3 : ∀ W, Grow.Cl wr.drew W → _ := fun W h => cell_later (Grow.Cl.base h) x3
        replace x4 : ∀ W, Grow.Cl wr.drew W → _ := fun W h => cell_later (Grow.Cl.base h) x4
        have k0 := ((HALX.out wr HBB.out).1).reg 0 _ rfl
        have k1 := ((HALX.out wr HBB.out).1).reg 1 _ rfl
        have k2 := ((HALX.out wr HBB.out).1).reg 2 _ rfl
        have k3 := ((HALX.out wr HBB.out).1).reg 3 _ rfl
        have k4 := ((HALX.out wr HBB.out).1).reg 4 _ rfl
        have k5 := ((HALX.out wr HBB.out).1).reg 5 _ rfl
        have k6 := ((HALX.out wr HBB.out).1).reg 6 _ rfl
        have k7 := ((HALX.out wr HBB.out).1).reg 7 _ rfl
        rcases hkd with rfl | rfl | rfl
        all_goals
          (refine Grow.wp_region Grow.noPlan Grow.noPlan_stable (by kernel_rfl) (by kernel_rfl) ?_; intro opsq Hopsq)
          repeat (first | (refine Grow.lex_move rfl ?_ rfl ?_; (· first | exact Grow.wanted_none | (rw [Hopsq.out]; rfl)); intro K hK; simp only [Grow.put_lit, Grow.setAt, Grow.eval_lit, Grow.ev]; refine hK _ _ ?_; clear hK K) | (refine Grow.lex_assign rfl ?_ rfl ?_; (· first | exact Grow.wanted_none | (rw [Hopsq.out]; rfl)); intro K hK; simp only [Grow.put_lit, Grow.setAt, Grow.eval_lit, Grow.ev]; refine hK _ _ ?_; clear hK K) | (refine Grow.lex_plain rfl rfl ?_ rfl ?_; (· first | exact Grow.wanted_none | (rw [Hopsq.out]; rfl)); apply Exists.intro; refine ⟨fun wq hCq _ => ?_, ?_⟩; (· (go_wp2_with fail; refine ⟨rfl, Below.refl _ _, ?_⟩; simp only [Grow.getD_lit, Grow.nth]; rfl)); intro K hK; simp only [Grow.put_lit, Grow.setAt]; refine hK _ _ ?_; clear hK K) | (refine Grow.lex_nilCheck rfl rfl ?_ rfl ?_; (· first | exact Grow.wanted_none | (rw [Hopsq.out]; rfl)); intro K hK; simp only [Grow.put_lit, Grow.setAt]; refine hK _ _ ?_; clear hK K) | (refine Grow.lex_skip ?_ ?_; (· (rw [Hopsq.out]; rfl)); intro K hK; simp only [Grow.put_lit, Grow.setAt]; refine hK _ _ ?_; clear hK K))
          (refine Grow.lex_call ?_ rfl ?_; (· first | exact Grow.wanted_none | (rw [Hopsq.out]; rfl)); apply Exists.intro; apply Exists.intro; refine ⟨fun wq => ?_, ?_⟩; (· (go_simp; exact ⟨rfl, rfl⟩)); apply Exists.intro; refine ⟨fun wq hCq hKq => ?_, ?_⟩; (· exact HVC.out _ (Grow.Cl.base hCq)); intro K hK; simp only [Grow.put_lit, Grow.setAt]; refine hK _ _ ?_; clear hK K)
          repeat (first | (refine Grow.lex_move rfl ?_ rfl ?_; (· first | exact Grow.wanted_none | (rw [Hopsq.out]; rfl)); intro K hK; simp only [Grow.put_lit, Grow.setAt, Grow.eval_lit, Grow.ev]; refine hK _ _ ?_; clear hK K) | (refine Grow.lex_assign rfl ?_ rfl ?_; (· first | exact Grow.wanted_none | (rw [Hopsq.out]; rfl)); intro K hK; simp only [Grow.put_lit, Grow.setAt, Grow.eval_lit, Grow.ev]; refine hK _ _ ?_; clear hK K) | (refine Grow.lex_plain rfl rfl ?_ rfl ?_; (· first | exact Grow.wanted_none | (rw [Hopsq.out]; rfl)); apply Exists.intro; refine ⟨fun wq hCq _ => ?_, ?_⟩; (· (go_wp2_with fail; refine ⟨rfl, Below.refl _ _, ?_⟩; simp only [Grow.getD_lit, Grow.nth]; rfl)); intro K hK; simp only [Grow.put_lit, Grow.setAt]; refine hK _ _ ?_; clear hK K) | (refine Grow.lex_nilCheck rfl rfl ?_ rfl ?_; (· first | exact Grow.wanted_none | (rw [Hopsq.out]; rfl)); intro K hK; simp only [Grow.put_lit, Grow.setAt]; refine hK _ _ ?_; clear hK K) | (refine Grow.lex_skip ?_ ?_; (· (rw [Hopsq.out]; rfl)); intro K hK; simp only [Grow.put_lit, Grow.setAt]; refine hK _ _ ?_; clear hK K))
          (refine Grow.lex_nil ?_; intro w16 hb16 _; replace hb16 := Grow.Cl.base hb16; clear Hopsq opsq)
          clear k0 k1 k2 k3 k4 k5 k6 k7 x0 x1 x2 x3 x4
          go_wp2_with fail
          go_meet
          exact ⟨by first | rfl | simp, hb16⟩
      case rest =>
      obtain ⟨rfl, hbc⟩ := hcut
      generalize wc = w16 at *
      have HX6 := Lib.hid (HX.out.next hbc); have HRD6 := Lib.hid (HRD.out.next hbc); have HBB6 := Lib.hid (HBB.out.trans (hbc.mono (Nat.le_of_lt hgxr)))
      have hs6 : wr.heap.size ≤ w16.heap.size := hbc.size
      replace x0 : ∀ W, Grow.Cl w16.drew W → _ := fun W h => cell_later (Grow.Cl.base h) (cell_later hbc x0)
      replace x1 : ∀ W, Grow.Cl w16.drew W → _ := fun W h => cell_later (Grow.Cl.base h) (cell_later hbc x1)
      replace x2 : ∀ W, Grow.Cl w16.drew W → _ := fun W h => cell_later (Grow.Cl.base h) (cell_later hbc x2)
      replace x3 : ∀ W, Grow.Cl w16.drew W → _ := fun W h => cell_later (Grow.Cl.base h) (cell_later hbc x3)
      replace x4 : ∀ W, Grow.Cl w16.drew W → _ := fun W h => cell_later (Grow.Cl.base h) (cell_later hbc x4)
      clear hbc HX HRD HBB HKD hok
      go_upto_region 24 with fail
      have t0 := ((HALX.out w16 HBB6.out).1).reg 0 _ rfl
      have t1 := ((HALX.out w16 HBB6.out).1).reg 1 _ rfl
      have t2 := ((HALX.out w16 HBB6.out).1).reg 2 _ rfl
      have t3 := ((HALX.out w16 HBB6.out).1).reg 3 _ rfl
      have t4 := ((HALX.out w16 HBB6.out).1).reg 4 _ rfl
      have t5 := ((HALX.out w16 HBB6.out).1).reg 5 _ rfl
      have t6 := ((HALX.out w16 HBB6.out).1).reg 6 _ rfl
      have t7 := ((HALX.out w16 HBB6.out).1).reg 7 _ rfl
      have u0 := (HX6.out).reg 0 _ rfl
      have u1 := (HX6.out).reg 1 _ rfl
      have u2 := (HX6.out).reg 2 _ rfl
      have u3 := (HX6.out).reg 3 _ rfl
      (refine Grow.wp_region_pair 7 (rPlan 6 (apR w16.heap.size (applyF b mj r) (applyE b mj r))) (rPlan_stable 6 _ (apR_stable w16.heap.size (applyF b mj r) (applyE b mj r))) (by kernel_rfl) (by kernel_rfl) rfl ⟨rfl, rfl, rfl, rfl, rfl⟩ (fun d h1 h2 => by cases h1; cases h2) ?_; intro opsq Hopsq; simp only [List.take_succ_cons, List.take_zero])
      repeat (first | (refine Grow.lex_move rfl ?_ rfl ?_; (· first | exact Grow.wanted_none | (rw [Hopsq.out]; rfl)); intro K hK; simp only [Grow.put_lit, Grow.setAt, Grow.eval_lit, Grow.ev]; refine hK _ _ ?_; clear hK K) | (refine Grow.lex_assign rfl ?_ rfl ?_; (· first | exact Grow.wanted_none | (rw [Hopsq.out]; rfl)); intro K hK; simp only [Grow.put_lit, Grow.setAt, Grow.eval_lit, Grow.ev]; refine hK _ _ ?_; clear hK K) | (refine Grow.lex_plain rfl rfl ?_ rfl ?_; (· first | exact Grow.wanted_none | (rw [Hopsq.out]; rfl)); apply Exists.intro; refine ⟨fun wq hCq _ => ?_, ?_⟩; (· (go_wp2_with fail; refine ⟨rfl, Below.refl _ _, ?_⟩; simp only [Grow.getD_lit, Grow.nth]; rfl)); intro K hK; simp only [Grow.put_lit, Grow.setAt]; refine hK _ _ ?_; clear hK K) | (refine Grow.lex_nilCheck rfl rfl ?_ rfl ?_; (· first | exact Grow.wanted_none | (rw [Hopsq.out]; rfl)); intro K hK; simp only [Grow.put_lit, Grow.setAt]; refine hK _ _ ?_; clear hK K) | (refine Grow.lex_skip ?_ ?_; (· (rw [Hopsq.out]; rfl)); intro K hK; simp only [Grow.put_lit, Grow.setAt]; refine hK _ _ ?_; clear hK K))
      (refine Grow.lex_callR (r := (fun _ v w => apR w16.heap.size (applyF b mj r) (applyE b mj r) v w)) ?_ rfl ?_; (· first | exact Grow.wanted_none | (rw [Hopsq.out]; rfl)); apply Exists.intro; apply Exists.intro; refine ⟨fun wq => ?_, ?_, ?_⟩; (· (go_simp; exact ⟨rfl, rfl⟩)); (· (intro wq hCq hKq; exact (apply_any b (some ⟨g, 0, none⟩) cap mj a2 r _ (by rw [HK.out]; omega) HSL.out HLE.out.1 HLE.out.2 (HALX.out _ (HBB6.out.trans ((Grow.Cl.base hCq).mono (by omega)))).2.1 (HRD6.out.next (Grow.Cl.base hCq))).mono (fun e w' ⟨a3, he, ho, hb⟩ => ⟨_, he, hb, a3, rfl, ho.base (Grow.Cl.base hCq).size⟩))); intro vq hWq; obtain ⟨_, _, hTT⟩ := hWq; obtain ⟨a3, hvq⟩ := apR_form (Grow.Holds.of_upd hTT).2; subst hvq; clear hTT; intro K hK; simp only [Grow.put_lit, Grow.setAt]; refine hK _ _ ?_; clear hK K)
      repeat (first | (refine Grow.lex_move rfl ?_ rfl ?_; (· first | exact Grow.wanted_none | (rw [Hopsq.out]; rfl)); intro K hK; simp only [Grow.put_lit, Grow.setAt, Grow.eval_lit, Grow.ev]; refine hK _ _ ?_; clear hK K) | (refine Grow.lex_assign rfl ?_ rfl ?_; (· first | exact Grow.wanted_none | (rw [Hopsq.out]; rfl)); intro K hK; simp only [Grow.put_lit, Grow.setAt, Grow.eval_lit, Grow.ev]; refine hK _ _ ?_; clear hK K) | (refine Grow.lex_plain rfl rfl ?_ rfl ?_; (· first | exact Grow.wanted_none | (rw [Hopsq.out]; rfl)); apply Exists.intro; refine ⟨fun wq hCq _ => ?_, ?_⟩; (· (go_wp2_with fail; refine ⟨rfl, Below.refl _ _, ?_⟩; simp only [Grow.getD_lit, Grow.nth]; rfl)); intro K hK; simp only [Grow.put_lit, Grow.setAt]; refine hK _ _ ?_; clear hK K) | (refine Grow.lex_nilCheck rfl rfl ?_ rfl ?_; (· first | exact Grow.wanted_none | (rw [Hopsq.out]; rfl)); intro K hK; simp only [Grow.put_lit, Grow.setAt]; refine hK _ _ ?_; clear hK K) | (refine Grow.lex_skip ?_ ?_; (· (rw [Hopsq.out]; rfl)); intro K hK; simp only [Grow.put_lit, Grow.setAt]; refine hK _ _ ?_; clear hK K))
      refine Grow.lex_nil ?_
      intro w17 hb17 hTq
      have hown17 := apR_out (Grow.Holds.of_upd hTq).2
      replace hb17 := Grow.Cl.base hb17
      clear hTq Hopsq opsq t0 t1 t2 t3 t4 t5 t6 t7 u0 u1 u2 u3 x0 x1 x2 x3 x4
      have HO7 := Lib.hid hown17; have HB7 := Lib.hid (HBB6.out.trans (hb17.mono (by omega))); have HX7 := Lib.hid (HX6.out.next hb17)
      clear hown17 hb17 HBB6 HX6 HRD6
      rw [HST.out] at HO7
      rw [HST.out]
      obtain ⟨m2, hm2⟩ : ∃ m2, midW m L (j + 1) = m2 := ⟨_, rfl⟩
      rw [hm2] at HO7 ⊢
      have HM2 := Lib.hid hm2
      clear hm2
      generalize applyE b mj r = e2 at *
      have y0 := (HX7.out).cell 0 _ rfl
      have y1 := (HX7.out).cell 1 _ rfl
      have y2 := (HX7.out).cell 2 _ rfl
      have y3 := (HX7.out).cell 3 _ rfl
      have f0 := HX7.out.fr 0; have f1 := HX7.out.fr 1; have f2 := HX7.out.fr 2; have f3 := HX7.out.fr 3
      refine ⟨⟨.tuple #[cvM m2 a3, .int .i64 e2], cvM m2 a3, .int .i64 e2, ((((w17.setCell ⟨gx, 0, none⟩ (.slice a3.p m2.ph.length a3.pc)).setCell ⟨gx, 1, none⟩ (.slice a3.f m2.fg.length a3.fc)).setCell ⟨gx, 2, none⟩ (.slice a3.l m2.lv.length a3.lc)).setCell ⟨gx, 3, none⟩ (.slice a3.e m2.en.length a3.ec)), ?_, ?_, ?_, ?_, ?_, ?_, ?_, ?_⟩⟩
      · first | rfl | (go_simp; done) | (go_simp; rfl)
      · (intro W; simp only [Grow.put_lit, Grow.setAt]; first | rfl | (go_simp; done) | (go_simp; rfl))
      · (intro W; simp only [Grow.put_lit, Grow.setAt]; first | rfl | (go_simp; done) | (go_simp; rfl))
      · (intro W; simp only [Grow.put_lit, Grow.setAt]; first | rfl | (go_simp; done) | (go_simp; rfl))
      · (intro W; simp only [Grow.put_lit, Grow.setAt]; first | rfl | (go_simp; done) | (go_simp; rfl))
      · (simp only [Grow.put_lit, Grow.setAt]; refine Grow.run_of_wp rfl ?_; go_wp2_with fail; try exact ⟨rfl, rfl⟩)
      · (simp only [Grow.put_lit, Grow.setAt]; refine Grow.run_of_wp rfl ?_; go_wp2_with fail; try exact ⟨rfl, rfl⟩)
      simp only [Grow.put_lit, Grow.setAt]
      clear y0 y1 y2 y3 f0 f1 f2 f3
      have hnx := HO7.out.ge (g := gx) (by omega)
      have hn8 := HO7.out.ge (g := g8) (by omega)
      have hO8 := OwnM.setNe (i := 3) (u := .slice a3.e m2.en.length a3.ec) (OwnM.setNe (i := 2) (u := .slice a3.l m2.lv.length a3.lc) (OwnM.setNe (i := 1) (u := .slice a3.f m2.fg.length a3.fc) (OwnM.setNe (i := 0) (u := .slice a3.p m2.ph.length a3.pc) HO7.out hnx) hnx) hnx) hnx
      have HO8 := Lib.hid hO8; have HNX := Lib.hid hnx; have HN8' := Lib.hid hn8
      clear hO8 hnx hn8
      go_wp2_with fail
      refine ⟨⟨j + 1, a3, by omega, by go_num, ?_, by rw [HM2.out]; exact HO8.out.rd, HNX.out, HN8'.out, fun g hg => HO8.out.le hg, ?_⟩, by simp [intOf]; omega⟩
      · rw [HM2.out]; exact (((HX7.out.set 0 _).set 1 _).set 2 _).set 3 _
      · exact (((HB7.out.setCell (p := ⟨gx, 0, none⟩) (Nat.le_refl _) _).setCell (p := ⟨gx, 1, none⟩) (Nat.le_refl _) _).setCell (p := ⟨gx, 2, none⟩) (Nat.le_refl _) _).setCell (p := ⟨gx, 3, none⟩) (Nat.le_refl _) _
    · have hd : decide ((j : Int) < (n : Int)) = false := by simp; omega
      obtain rfl : j = n := by omega
      clear hd
      go_wp2_with fail
      exact HKK.out _ _ _ _ _ _ _ _ _ _ _ _ _ _ _ _ _ _ _ _ _ _ _ _ _ _ _ _ _ _ _ _ _ _ _ _ _ _ _ _ _ _ _ _ _ _ _ _ _ _ a2 HX.out HRD.out HN1.out HN8.out HFR.out HBB.out
end Go.Proofs.Ytgoojlfpngmdlaa
