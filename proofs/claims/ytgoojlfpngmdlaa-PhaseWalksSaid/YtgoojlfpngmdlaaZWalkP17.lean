/- PhaseWalks: the loop over the cars. Conditions: those of the theorem. -/
import Derived.Test.YtgoojlfpngmdlaaZWalkRes
import Derived.Test.YtgoojlfpngmdlaaZSane25
import Derived.Test.YtgoojlfpngmdlaaZFrame
import Derived.Test.YtgoojlfpngmdlaaZArgs25
import Derived.Test.YtgoojlfpngmdlaaZCallsOf
import Derived.Test.YtgoojlfpngmdlaaZObs
namespace Go.Proofs.Ytgoojlfpngmdlaa
open Go.ChangeShapes Go.WideShapes Go.ChangeAt Go.RowKit
set_option maxHeartbeats 2000000 in
set_option maxRecDepth 100000 in
theorem walk_p17 (b : BldV) (m x : ImgV) (a ax : ImgA) (C : List Bool) (nC : Nat) (qc : Option Addr) (cc : Nat) (g8 gx : Nat) (ws : World) (K : Act → World → Prop) (Q' : Exit → Act → World → Prop) (u0 u1 u2 u3 u4 u5 u6 u7 u9 u10 u12 u13 u14 u16 u18 u19 u20 u21 u22 u23 u24 u25 u26 u27 u28 u29 u30 u31 u32 u33 u34 u35 u36 u37 u38 u39 u40 u41 u42 u43 u44 u45 u46 u47 u48 u49 u50 u51 u52 u53 u54 u55 u56 u57 u58 u59 u60 u61 u62 u63 u64 u65 u66 u67 u68 u69 u70 u71 u72 u73 u74 u75 u76 u77 u78 u79 u80 u81 u82 u83 u84 u85 u86 u87 u88 u89 u90 u91 u92 u93 u94 u95 u96 u97 u98 u99 u100 u101 u102 u103 u104 u105 u106 u107 u108 u109 u110 u111 u112 u113 u114 u115 u116 u117 u118 u119 u120 u121 u122 u123 u124 u125 u126 u127 u128 u129 u130 u131 u132 u133 u134 u135 u136 u137 u138 u139 u140 u141 u142 u143 u144 u145 u146 u147 u148 u149 u150 u151 u152 u153 u154 u155 u156 u157 u158 u159 u160 u161 u162 u163 u164 u165 u166 u167 u168 u169 u170 u171 u172 u173 u174 u175 u176 u177 u178 u179 u180 u181 u182 u183 u184 u185 u186 u187 u188 u189 u190 u191 u192 u193 u194 u195 u196 u197 u198 u199 u200 u201 u202 u203 u204 u205 u206 u207 u208 u209 u210 u211 u212 u213 u214 u215 u216 u217 u218 u219 u220 u221 u222 u223 u224 u225 u226 u227 : Value)
    (HCW : Hid (CarsW b m x C)) (HPL : Hid (m.ph.length ≤ 1000)) (HEL : Hid (m.en.length ≤ 1000)) (HCL : Hid (C.length = nC))
    (HALY : Hid (∀ W, Below ws.heap.size ws W → Blk W g8 [.slice a.p m.ph.length a.pc, .slice a.f m.fg.length a.fc, .slice a.l m.lv.length a.lc, .slice a.e m.en.length a.ec] ∧ RdM W m a ∧ Blk W gx [.slice ax.p x.ph.length ax.pc, .slice ax.f x.fg.length ax.fc, .slice ax.l x.lv.length ax.lc, .slice ax.e x.en.length ax.ec] ∧ RdM W x ax ∧ RdX W qc (boolCells C)))
    (hK : ∀ (v6 v17 v18 v19 v20 v155 v156 v157 v158 v159 v160 v161 v162 v163 v164 v165 v166 v167 v168 v169 v170 v171 v172 v173 v174 v175 v176 v177 v178 v179 v180 v181 v182 v183 v184 v185 v186 v187 v188 v189 v190 v191 v192 v193 v194 v195 v196 v197 v198 v199 v200 v201 v202 v203 v204 v205 v206 v207 v208 v209 v210 v211 v212 v213 v214 v215 v216 v217 v218 v219 v220 v221 v222 : Value) (w' : World), Below ws.heap.size ws w' →
      K ⟨#[u0, u1, u2, u3, u4, u5, v6, u7, .pointer (some ⟨g8, 0, none⟩), u9, u10, .slice qc nC cc, u12, u13, u14, .pointer (some ⟨gx, 0, none⟩), u16, v17, v18, v19, v20, u21, u22, u23, u24, u25, u26, u27, u28, u29, u30, u31, u32, u33, u34, u35, u36, u37, u38, u39, u40, u41, u42, u43, u44, u45, u46, u47, u48, u49, u50, u51, u52, u53, u54, u55, u56, u57, u58, u59, u60, u61, u62, u63, u64, u65, u66, u67, u68, u69, u70, u71, u72, u73, u74, u75, u76, u77, u78, u79, u80, u81, u82, u83, u84, u85, u86, u87, u88, u89, u90, u91, u92, u93, u94, u95, u96, u97, u98, u99, u100, u101, u102, u103, u104, u105, u106, u107, u108, u109, u110, u111, u112, u113, u114, u115, u116, u117, u118, u119, u120, u121, u122, u123, u124, u125, u126, u127, u128, u129, u130, u131, u132, u133, u134, u135, u136, u137, u138, u139, u140, u141, u142, u143, u144, u145, u146, u147, u148, u149, u150, u151, u152, u153, u154, v155, v156, v157, v158, v159, v160, v161, v162, v163, v164, v165, v166, v167, v168, v169, v170, v171, v172, v173, v174, v175, v176, v177, v178, v179, v180, v181, v182, v183, v184, v185, v186, v187, v188, v189, v190, v191, v192, v193, v194, v195, v196, v197, v198, v199, v200, v201, v202, v203, v204, v205, v206, v207, v208, v209, v210, v211, v212, v213, v214, v215, v216, v217, v218, v219, v220, v221, v222, u223, u224, u225, u226, u227], []⟩ w') :
    Code.wp Try.prog (rhsC (lhsC (rhsC (rhsC (rhsC (rhsC (rhsC (rhsC (rhsC (lhsC (lhsC (rhsC (lhsC (lhsC (rhsC (lhsC (rhsC (rhsC (rhsC (rhsC ((Try.f4.body).getD .skip))))))))))))))))))))) (Exit.then K Q') ⟨#[u0, u1, u2, u3, u4, u5, u6, u7, .pointer (some ⟨g8, 0, none⟩), u9, u10, .slice qc nC cc, u12, u13, u14, .pointer (some ⟨gx, 0, none⟩), u16, .int .i64 0, u18, u19, u20, u21, u22, u23, u24, u25, u26, u27, u28, u29, u30, u31, u32, u33, u34, u35, u36, u37, u38, u39, u40, u41, u42, u43, u44, u45, u46, u47, u48, u49, u50, u51, u52, u53, u54, u55, u56, u57, u58, u59, u60, u61, u62, u63, u64, u65, u66, u67, u68, u69, u70, u71, u72, u73, u74, u75, u76, u77, u78, u79, u80, u81, u82, u83, u84, u85, u86, u87, u88, u89, u90, u91, u92, u93, u94, u95, u96, u97, u98, u99, u100, u101, u102, u103, u104, u105, u106, u107, u108, u109, u110, u111, u112, u113, u114, u115, u116, u117, u118, u119, u120, u121, u122, u123, u124, u125, u126, u127, u128, u129, u130, u131, u132, u133, u134, u135, u136, u137, u138, u139, u140, u141, u142, u143, u144, u145, u146, u147, u148, u149, u150, u151, u152, u153, u154, u155, u156, u157, u158, u159, u160, u161, u162, u163, u164, u165, u166, u167, u168, u169, u170, u171, u172, u173, u174, u175, u176, u177, u178, u179, u180, u181, u182, u183, u184, u185, u186, u187, u188, u189, u190, u191, u192, u193, u194, u195, u196, u197, u198, u199, u200, u201, u202, u203, u204, u205, u206, u207, u208, u209, u210, u211, u212, u213, u214, u215, u216, u217, u218, u219, u220, u221, u222, u223, u224, u225, u226, u227], []⟩ ws := by
  have HKK := Lib.hid hK
  clear hK
  obtain ⟨N, hN⟩ : ∃ N, m.ph.length = N := ⟨_, rfl⟩
  have HN := Lib.hid hN
  clear hN
  have hNm : N ≤ 1000 := by rw [← HN.out]; exact HPL.out
  obtain ⟨ne, hne⟩ : ∃ ne, m.en.length = ne := ⟨_, rfl⟩
  have HE := Lib.hid hne
  clear hne
  have hem : ne ≤ 1000 := by rw [← HE.out]; exact HEL.out
  simp only [Try.f4, Option.getD, lhsC, rhsC]
  go_wp2_with fail
  go_loopw [17] (fun v wr => ∃ (j : Nat), j ≤ N ∧ v = .int .i64 j ∧ Below ws.heap.size ws wr) (fun v _ => N - (intOf v).toNat)
  case atStart => exact ⟨0, by omega, rfl, Below.refl _ _⟩
  case round =>
    obtain ⟨j, hj, rfl, hbb⟩ := hrel
    have HBB := Lib.hid hbb
    clear hbb
    have y0 := (HALY.out wr HBB.out).1.cell 0 _ rfl
    rw [HN.out] at y0
    by_cases hlt : j < N
    rotate_left 1
    · have hd : decide ((j : Int) < (N : Int)) = false := by simp; omega
      go_wp2_with fail
      exact HKK.out _ _ _ _ _ _ _ _ _ _ _ _ _ _ _ _ _ _ _ _ _ _ _ _ _ _ _ _ _ _ _ _ _ _ _ _ _ _ _ _ _ _ _ _ _ _ _ _ _ _ _ _ _ _ _ _ _ _ _ _ _ _ _ _ _ _ _ _ _ _ _ _ _ _ HBB.out
    have hd : decide ((j : Int) < (N : Int)) = true := by simp; omega
    obtain ⟨f, hf⟩ : ∃ f, m.ph[j]? = some f := ⟨_, List.getElem?_eq_getElem (by rw [HN.out]; exact hlt)⟩
    obtain ⟨t, ht⟩ : ∃ t, x.ph[j]? = some t := ⟨_, List.getElem?_eq_getElem (by rw [HCW.out.len, HN.out]; exact hlt)⟩
    obtain ⟨l, hl⟩ : ∃ l, x.lv[j]? = some l := ⟨_, List.getElem?_eq_getElem (by rw [HCW.out.lv, HCW.out.len, HN.out]; exact hlt)⟩
    have HFC := Lib.hid (HCW.out.fact j f t l hf ht hl)
    obtain ⟨A, hqA, _, cA⟩ := (HALY.out wr HBB.out).2.1.1.it hf
    obtain ⟨B, hqB, _, cB⟩ := (HALY.out wr HBB.out).2.2.2.1.1.it ht
    obtain ⟨D, hqD, _, cD⟩ := (HALY.out wr HBB.out).2.2.2.1.2.2.1.bl hl
    have hj0 : (0 : Int) ≤ (j : Int) := by omega
    have hjN : (j : Int) < (N : Int) := by omega
    have HQA := Lib.hid hqA; have HQB := Lib.hid hqB; have HQD := Lib.hid hqD
    have HXL : Hid (x.ph.length = N) := Lib.hid (by rw [HCW.out.len, HN.out])
    have HXV : Hid (x.lv.length = N) := Lib.hid (by rw [HCW.out.lv, HXL.out])
    have HCD := Lib.hid cD
    clear hf ht hl hqA hqB hqD cD
    go_upto_region 28 with fail
    clear hd y0
    replace cA : ∀ W, Grow.Cl wr.drew W → _ := fun W h => cell_later (Grow.Cl.base h) cA
    replace cB : ∀ W, Grow.Cl wr.drew W → _ := fun W h => cell_later (Grow.Cl.base h) cB
    have y0 := ((HALY.out wr HBB.out).1).reg 0 _ rfl
    have z0 := ((HALY.out wr HBB.out).2.2.1).reg 0 _ rfl
    rw [HQA.out, HN.out] at y0
    rw [HQB.out, HXL.out] at z0
    (refine Grow.wp_region Grow.noPlan Grow.noPlan_stable (by kernel_rfl) (by kernel_rfl) ?_; intro opsq Hopsq)
    repeat (first | (refine Grow.lex_move rfl ?_ rfl ?_; (· first | exact Grow.wanted_none | (rw [Hopsq.out]; rfl)); intro K hK; simp only [Grow.put_lit, Grow.setAt, Grow.eval_lit, Grow.ev]; refine hK _ _ ?_; clear hK K) | (refine Grow.lex_assign rfl ?_ rfl ?_; (· first | exact Grow.wanted_none | (rw [Hopsq.out]; rfl)); intro K hK; simp only [Grow.put_lit, Grow.setAt, Grow.eval_lit, Grow.ev]; refine hK _ _ ?_; clear hK K) | (refine Grow.lex_plain rfl rfl ?_ rfl ?_; (· first | exact Grow.wanted_none | (rw [Hopsq.out]; rfl)); apply Exists.intro; refine ⟨fun wq hCq _ => ?_, ?_⟩; (· (go_wp2_with fail; refine ⟨rfl, Below.refl _ _, ?_⟩; simp only [Grow.getD_lit, Grow.nth]; rfl)); intro K hK; simp only [Grow.put_lit, Grow.setAt]; refine hK _ _ ?_; clear hK K) | (refine Grow.lex_nilCheck rfl rfl ?_ rfl ?_; (· first | exact Grow.wanted_none | (rw [Hopsq.out]; rfl)); intro K hK; simp only [Grow.put_lit, Grow.setAt]; refine hK _ _ ?_; clear hK K) | (refine Grow.lex_skip ?_ ?_; (· (rw [Hopsq.out]; rfl)); intro K hK; simp only [Grow.put_lit, Grow.setAt]; refine hK _ _ ?_; clear hK K))
    (refine Grow.lex_nil ?_; intro w5 hb5 _; replace hb5 := Grow.Cl.base hb5; clear Hopsq opsq)
    have HB5 := Lib.hid (HBB.out.trans (hb5.mono HBB.out.size))
    have cD5 := cell_later hb5 HCD.out
    have HC5 := Lib.hid cD5
    clear y0 z0 cA cB hb5 cD5
    go_upto_region 29 with fail
    go_cut [191] from 172 to 191 (fun v wx => v = .bool false ∧ Below w5.heap.size w5 wx)
    case first =>
      have z2 := (HALY.out w5 HB5.out).2.2.1.cell 2 _ rfl
      rw [HQD.out, HXV.out] at z2
      have cD := HC5.out
      by_cases hft : f = t
      · subst hft
        cases l
        · go_wp2_with fail
          go_meet
          exact ⟨by first | rfl | simp, Below.refl _ _⟩
        · obtain rfl : f = 4 := HFC.out.2.1 rfl
          go_wp2_with fail
          go_meet
          exact ⟨by first | rfl | simp, Below.refl _ _⟩
      · have hfb : (f == t) = false := by simpa using hft
        have HED : Hid (edgeB f t = true) := Lib.hid (by
          rcases HFC.out.1 with h | h
          · exact absurd h hft
          · exact h)
        have HT4 := Lib.hid HFC.out.2.1
        have hfn : (f != t) = true := by simpa using hft
        clear hft
        go_wp2_with fail
        have hh := edge_any f t w5
        rw [HED.out] at hh
        refine hh.mono ?_
        clear hh
        rintro e w6 ⟨rfl, hb6⟩
        have cD6 := cell_later hb6 cD
        have z6 := ((HALY.out w5 HB5.out).2.2.1.next hb6).cell 2 _ rfl
        rw [HQD.out, HXV.out] at z6
        have HB6 := Lib.hid hb6
        clear z2 cD hb6
        cases l
        · go_wp2_with fail
          go_meet
          exact ⟨by first | rfl | simp, HB6.out⟩
        · obtain rfl : t = 4 := HT4.out rfl
          go_wp2_with fail
          go_meet
          exact ⟨by first | rfl | simp, HB6.out⟩
    case rest =>
    obtain ⟨rfl, hbc⟩ := hcut
    generalize wc = w6 at *
    have HB6 := Lib.hid (HB5.out.trans (hbc.mono HB5.out.size))
    clear hbc HC5 HB5 HCD
    by_cases hft : f = t
    · subst hft
      go_wp2_with fail
      exact ⟨⟨j + 1, by omega, by go_num, HB6.out⟩, by simp [intOf]; omega⟩
    have hfb : (f == t) = false := by simpa using hft
    by_cases ht2 : t = 2
    rotate_left 1
    · have htb : (t == 2) = false := by simpa using ht2
      clear hft ht2
      go_wp2_with fail
      exact ⟨⟨j + 1, by omega, by go_num, HB6.out⟩, by simp [intOf]; omega⟩
    obtain ⟨hF, hCj⟩ := HFC.out.2.2 hft ht2
    subst ht2
    obtain ⟨E, hqE, _, cE⟩ := (HALY.out w6 HB6.out).2.2.2.2.bl hCj
    have hjc : (j : Int) < (nC : Int) := by have := (List.getElem?_eq_some_iff.1 hCj).1; have := HCL.out; omega
    subst hqE
    have HF := Lib.hid hF
    clear hft hF hCj
    have y3 := (HALY.out w6 HB6.out).1.cell 3 _ rfl
    rw [HE.out] at y3
    go_wp2_with fail
    go_loopw [20] (fun v wx => ∃ (q : Nat), q ≤ ne ∧ v = .int .i64 q ∧ wx = w6) (fun v _ => ne - (intOf v).toNat)
    case atStart => exact ⟨0, by omega, rfl, rfl⟩
    case round =>
      obtain ⟨q, hq, rfl, rfl⟩ := hrel
      by_cases hlq : q < ne
      rotate_left 1
      · have hdq : decide ((q : Int) < (ne : Int)) = false := by simp; omega
        go_wp2_with fail
        exact ⟨⟨j + 1, by omega, by go_num, HB6.out⟩, by simp [intOf]; omega⟩
      have hdq : decide ((q : Int) < (ne : Int)) = true := by simp; omega
      by_cases hf3 : f = 3
      · subst hf3
        go_wp2_with fail
        exact ⟨⟨q + 1, by omega, by go_num, by first | rfl | trivial⟩, by simp [intOf]; omega⟩
      have hfb3 : (f != 3) = true := by simpa using hf3
      obtain ⟨ent, hent⟩ : ∃ ent, m.en[q]? = some ent := ⟨_, List.getElem?_eq_getElem (by rw [HE.out]; exact hlq)⟩
      have hcar : (ent.2.2.1 == (j : Int)) = false := by
        rcases HF.out with h | h
        · exact absurd h hf3
        · have := h ent (List.mem_of_getElem? hent)
          simpa using this
      obtain ⟨G, hqG, _, e0, e1, e2, e3, e4⟩ := (HALY.out _ HB6.out).2.1.2.2.2.en5 hent
      rw [hqG] at y3
      have hq0 : (0 : Int) ≤ (q : Int) := by omega
      have hqn : (q : Int) < (ne : Int) := by omega
      clear hf3 hent e0 e1 e3 e4 hqG
      go_wp2_with fail
      exact ⟨⟨q + 1, by omega, by go_num, by first | rfl | trivial⟩, by simp [intOf]; omega⟩
end Go.Proofs.Ytgoojlfpngmdlaa
