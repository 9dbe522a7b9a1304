/- ContractApart: calls do not influence each other. The law's function answers true at every argument. Conditions: none. -/
import Derived.Test.YtfmmiafdlfdfoaaZRelF
import Derived.Test.YtfmmiafdlfdfoaaZArgs
import Derived.Laws.AppendOwnNone
namespace Go.Proofs.Ytfmmiafdlfdfoaa
open Go.ChangeShapes Go.WideShapes Go.ChangeAt Go.RowKit
attribute [local go_sem] run_store_float
theorem markCells_set2 (L : List MarkV) (k : Nat) (m : MarkV) (c : CS) (h : L[k]? = some m) : ((markCells L).set (k * 5) (.int .u32 (c.1.toNat : Int))).set (k * 5 + 1) (.int .u32 (c.2.toNat : Int)) = markCells (L.set k (c, m.2)) := by
  induction L generalizing k with
  | nil => simp at h
  | cons e L ih =>
    cases k with
    | zero =>
      obtain rfl : e = m := by simpa using h
      rfl
    | succ k =>
      have h2 := ih k (by simpa using h)
      show ((e.cells ++ markCells L).set ((k + 1) * 5) _).set ((k + 1) * 5 + 1) _ = e.cells ++ markCells (L.set k (c, m.2))
      rw [← h2]
      have h3 : e.cells.length = 5 := rfl
      rw [List.set_append_right _ _ (by rw [h3]; omega), List.set_append_right _ _ (by rw [h3]; omega)]
      rw [h3, show (k + 1) * 5 - 5 = k * 5 by omega, show (k + 1) * 5 + 1 - 5 = k * 5 + 1 by omega]
theorem cl_cellM {w : World} {a : Addr} {v : Value} (h : w.cell? a = some v) : ∀ W, Grow.Cl w.drew W → W.cell? a = some v := fun _ hW => cell_later (Grow.Cl.base hW) h
set_option maxHeartbeats 4000000 in
set_option maxRecDepth 100000 in
theorem apart_walk (n t : Nat) (l : List Nat) (ql : Option Addr) (capl : Nat) (w : World) (hn : n < 256) (ht : t < 256) (hl : l.length ≤ maxLen) (hu : RdU w ql l) :
    Calls Try.prog 8 #[.agg #[.int .u8 n, .int .u8 t], .slice ql l.length capl] w fun e w' => e = .returned (.bool true) ∧ Below w.heap.size w w' := by
  have X0 : Blk (w.alloc (.cells #[.int .u8 n, .int .u8 t] 22)) w.heap.size [.int .u8 n, .int .u8 t] := by
    have hx := Blk.new w [.int .u8 n, .int .u8 t] 22
    exact hx
  have XW : Below w.heap.size w (w.alloc (.cells #[.int .u8 n, .int .u8 t] 22)) := below1' w _
  have HWW := Lib.hid XW; have HX0 := Lib.hid X0
  clear XW X0
  have HU := Lib.hid (hu.next HWW.out)
  have HL2 := Lib.hid hl
  clear hu
  obtain ⟨nl, hnl⟩ : ∃ n, n = l.length := ⟨_, rfl⟩
  have HNL := Lib.hid hnl
  rw [← hnl] at hl ⊢
  clear hnl
  go_enter Try.func8, Try.ntmps8
  go_upto_region 1 with fail
  generalize (w.alloc (.cells #[.int .u8 n, .int .u8 t] 22)) = w0 at *
  have HW := Lib.hid (Below.refl w0.heap.size w0)
  have hz0 := HX0.out.lt
  have k0 := (HX0.out).cell 0 _ rfl
  have k1 := (HX0.out).cell 1 _ rfl
  go_wp2_with fail
  refine (b18_val2 n t _ hn ht).mono ?_
  rintro e w1 ⟨g, cap, rfl, hg0, hg1, hown, hr, hb⟩
  have HL1 : Hid ((b18 n t).cars.length ≤ 1000) := Lib.hid (by show (cars18 n t).length ≤ 1000; rw [cars18_len]; have := (k18_range n).2; omega)
  have HV := Lib.hid (valid18 n t)
  have hfl : 2 ≤ (b18 n t).fl ∧ (b18 n t).fl ≤ 6 := fl18_range n
  have HSL : Hid (∀ c ∈ (b18 n t).cars, -9223372036854775808 ≤ c.sl ∧ c.sl < 9223372036854775807) := Lib.hid (slack18 n t)
  obtain ⟨hf2, hf6⟩ := hfl
  have HR1 := Lib.hid hr; have HB1 := Lib.hid (HW.out.trans (hb.mono HW.out.size))
  clear hown hr hb HW k0 k1
  generalize b18 n t = b at *
  go_upto_region 2 with fail
  have B5 := Blk.new w1 [.int .i64 b.fl, .int .i64 b.deb, .int .i64 b.room, .int .i64 b.park, .float .f64 b.em, .float .f64 b.fu, .float .f64 b.ov, .slice (some ⟨g, 0, none⟩) b.cars.length cap] 29
  have hb5 := below1' w1 (.cells #[.int .i64 b.fl, .int .i64 b.deb, .int .i64 b.room, .int .i64 b.park, .float .f64 b.em, .float .f64 b.fu, .float .f64 b.ov, .slice (some ⟨g, 0, none⟩) b.cars.length cap] 29)
  change Blk (w1.alloc (.cells #[.int .i64 b.fl, .int .i64 b.deb, .int .i64 b.room, .int .i64 b.park, .float .f64 b.em, .float .f64 b.fu, .float .f64 b.ov, .slice (some ⟨g, 0, none⟩) b.cars.length cap] 29)) _ _ at B5
  have HB3 := Lib.hid (HB1.out.trans (hb5.mono HB1.out.size))
  have HR3 := Lib.hid (HR1.out.next hb5)
  have HB5 := Lib.hid B5
  clear B5 hb5 HB1 HR1
  generalize w1.alloc (.cells #[.int .i64 b.fl, .int .i64 b.deb, .int .i64 b.room, .int .i64 b.park, .float .f64 b.em, .float .f64 b.fu, .float .f64 b.ov, .slice (some ⟨g, 0, none⟩) b.cars.length cap] 29) = w2 at *
  generalize w1.heap.size = g5 at *
  have hzz5 : g5 < w2.heap.size := HB5.out.lt
  have ht := trace_any b (some ⟨g, 0, none⟩) cap l ql capl w2 HL2.out hf2 (by omega) (HU.out.next HB3.out)
  rw [← HNL.out] at ht
  have HTR := Lib.hid ht
  clear ht
  have k0 := (HB5.out).cell 0 _ rfl
  have k1 := (HB5.out).cell 1 _ rfl
  have k2 := (HB5.out).cell 2 _ rfl
  have k3 := (HB5.out).cell 3 _ rfl
  have k4 := (HB5.out).cell 4 _ rfl
  have k5 := (HB5.out).cell 5 _ rfl
  have k6 := (HB5.out).cell 6 _ rfl
  have k7 := (HB5.out).cell 7 _ rfl
  go_wp2_with fail
  refine HTR.out.mono ?_
  rintro e w3 ⟨v, L, rfl, hL150, hobs, hown, hb3⟩
  obtain ⟨qm, capm, rfl⟩ := row_form hown
  have HOX := Lib.hid hown
  have HM := Lib.hid (rdM_of_owns hown rfl)
  have HB4 := Lib.hid (HB3.out.trans (hb3.mono HB3.out.size))
  have HB53 := Lib.hid (HB5.out.next hb3)
  have HR4 := Lib.hid (HR3.out.next hb3)
  clear hobs hown hb3 HTR HB5 HR3 HB3 k0 k1 k2 k3 k4 k5 k6 k7 HU
  obtain ⟨i0, hi, hy0, hy1, hy2⟩ := info_parts infoM
  have Hi := Lib.hid hi; have Hz0 := Lib.hid hy0; have Hz1 := Lib.hid hy1; have Hz2 := Lib.hid hy2
  clear hi hy0 hy1 hy2
  have hz53 := HB53.out.lt
  have HAL := Lib.hid (apart_law b L HV.out (by omega))
  have HCK : Hid (∀ (W : World) (p : Int × Int) (qy : Option Addr) (cy : Nat), Below w3.heap.size w3 W → RdM W qy (L.map (onlyM p)) → Calls Try.prog 12 #[cvB b (some ⟨g, 0, none⟩) cap, .int .i64 0, .slice qy L.length cy] W fun e w' => e = .returned (.int .i64 (runB b 0 (L.map (onlyM p))).1) ∧ Below W.heap.size W w') := by
    refine Lib.hid fun W p qy cy hW hr => ?_
    have h := check_any b (some ⟨g, 0, none⟩) cap 0 (L.map (onlyM p)) qy cy W HL1.out (HR4.out.next hW) (by rw [List.length_map]; unfold maxLen; omega) hr
    rw [List.length_map] at h
    exact h
  have HCX : Hid (∀ (W : World), Below w3.heap.size w3 W → Calls Try.prog 12 #[cvB b (some ⟨g, 0, none⟩) cap, .int .i64 0, .slice qm L.length capm] W fun e w' => e = .returned (.int .i64 (runB b 0 L).1) ∧ Below W.heap.size W w') :=
    Lib.hid fun W hW => check_any b (some ⟨g, 0, none⟩) cap 0 L qm capm W HL1.out (HR4.out.next hW) (by unfold maxLen; omega) (HM.out.next hW)
  obtain ⟨N, hN⟩ : ∃ N, N = L.length := ⟨_, rfl⟩
  have HN := Lib.hid hN
  rw [← hN] at hL150 HCK HCX HOX ⊢
  clear hN
  have k0 := (HB53.out).cell 0 _ rfl
  have k1 := (HB53.out).cell 1 _ rfl
  have k2 := (HB53.out).cell 2 _ rfl
  have k3 := (HB53.out).cell 3 _ rfl
  have k4 := (HB53.out).cell 4 _ rfl
  have k5 := (HB53.out).cell 5 _ rfl
  have k6 := (HB53.out).cell 6 _ rfl
  have k7 := (HB53.out).cell 7 _ rfl
  have HW := Lib.hid (Below.refl w3.heap.size w3)
  go_wp2_with fail
  refine (refHall_any b (some ⟨g, 0, none⟩) cap _ HL1.out HSL.out HR4.out).mono ?_
  rintro e w4 ⟨rfl, hb4⟩
  go_wp2_with fail
  refine (refList_any (hallC b) _).mono ?_
  rintro e w5 ⟨v, rfl, hown, hb5⟩
  obtain ⟨qe, cape, rfl⟩ := row_form hown
  have HE := Lib.hid (rdE_of_owns hown rfl)
  have HW5 := Lib.hid (hb4.trans (hb5.mono hb4.size))
  clear HW hb4 hb5 hown k0 k1 k2 k3 k4 k5 k6 k7
  have hne64 := listC_len (hallC b)
  generalize hall : listC (hallC b) = all at *
  clear hall
  obtain ⟨ne, hne⟩ : ∃ ne, ne = all.length := ⟨_, rfl⟩
  have HNE := Lib.hid hne
  rw [← hne] at hne64 ⊢
  clear hne
  go_wp2_with fail
  go_loopw [7, 9] (fun v7 v9 wr => ∃ i : Nat, i ≤ ne ∧ v9 = .int .i64 i ∧ v7 = .int .i64 (apartF b L (all.take i)) ∧ Below w5.heap.size w5 wr) (fun _ v _ => ne - (intOf v).toNat)
  case atStart => exact ⟨0, by omega, rfl, rfl, Below.refl _ _⟩
  case round =>
    obtain ⟨i, hi, rfl, rfl, hb⟩ := hrel
    have HB := Lib.hid hb
    have HWr := Lib.hid (HW5.out.trans (hb.mono HW5.out.size))
    clear hb
    by_cases hlt : i < ne
    · have hd : decide ((i : Int) < (ne : Int)) = true := by simp; omega
      obtain ⟨p, hp⟩ : ∃ p, all[i]? = some p := ⟨_, List.getElem?_eq_getElem (by rw [← HNE.out]; exact hlt)⟩
      have HT := Lib.hid (apartF_snoc b L all i p hp)
      obtain ⟨A, hq, hA, r0, r1⟩ := (HE.out.next HB.out).reg hp
      subst hq
      have hiw : (0 : Int) ≤ (i : Int) := by omega
      have hiw' : (i : Int) < (ne : Int) := by omega
      generalize apartF b L (all.take i) = a at *
      clear hp
      go_upto_region 8 with fail
      clear hd
      have hlo : wr.heap.size ≤ wr.drew.heap.size := Nat.le_refl _
      refine Grow.wp_region_tail 12 (mkPlan 11 ptrS wr.heap.size [.int .u32 0, .int .u32 0]) (mkPlan_stable _ _ _ _) (by kernel_rfl) (by kernel_rfl) ?_
      intro opsq Hopsq
      simp only [List.take_succ_cons, List.take_zero, List.drop_succ_cons, List.drop_zero]
      repeat (first | (refine Grow.lex_move rfl ?_ rfl ?_; (· first | exact Grow.wanted_none | (rw [Hopsq.out]; rfl)); intro K hK; simp only [Grow.put_lit, Grow.setAt, Grow.eval_lit, Grow.ev]; refine hK _ _ ?_; clear hK K) | (refine Grow.lex_assign rfl ?_ rfl ?_; (· first | exact Grow.wanted_none | (rw [Hopsq.out]; rfl)); intro K hK; simp only [Grow.put_lit, Grow.setAt, Grow.eval_lit, Grow.ev]; refine hK _ _ ?_; clear hK K) | (refine Grow.lex_plain rfl rfl ?_ rfl ?_; (· first | exact Grow.wanted_none | (rw [Hopsq.out]; rfl)); apply Exists.intro; refine ⟨fun wq hCq _ => ?_, ?_⟩; (· (go_wp2_with fail; refine ⟨rfl, Below.refl _ _, ?_⟩; simp only [Grow.getD_lit, Grow.nth]; rfl)); intro K hK; simp only [Grow.put_lit, Grow.setAt]; refine hK _ _ ?_; clear hK K) | (refine Grow.lex_nilCheck rfl rfl ?_ rfl ?_; (· first | exact Grow.wanted_none | (rw [Hopsq.out]; rfl)); intro K hK; simp only [Grow.put_lit, Grow.setAt]; refine hK _ _ ?_; clear hK K) | (refine Grow.lex_skip ?_ ?_; (· (rw [Hopsq.out]; rfl)); intro K hK; simp only [Grow.put_lit, Grow.setAt]; refine hK _ _ ?_; clear hK K))
      (refine Grow.lex_call ?_ rfl ?_; (· first | exact Grow.wanted_none | (rw [Hopsq.out]; rfl)); apply Exists.intro; apply Exists.intro; refine ⟨fun wq => ?_, ?_⟩; (· (go_simp; exact ⟨rfl, rfl⟩)); apply Exists.intro; refine ⟨fun wq hCq hKq => ?_, ?_⟩; (· exact refOne_any p.1 p.2 _); intro K hK; simp only [Grow.put_lit, Grow.setAt]; refine hK _ _ ?_; clear hK K)
      refine lex_mk 11 ptrS wr.heap.size [.int .u32 0, .int .u32 0] 45 ?_ (fun wq => ?_) hlo ?_
      · first | exact Grow.wanted_none | (rw [Hopsq.out]; rfl)
      · go_simp
        first | rfl | exact ⟨rfl, rfl⟩
      intro go hgo
      simp only [Grow.put_lit, Grow.setAt, ptrS]
      refine Grow.lex_nil ?_
      intro w6 hb6 hTq
      have hcc := mk_blk ptrS_inj hTq
      replace hb6 := Grow.Cl.base hb6
      clear hTq Hopsq opsq r0 r1 hlo hA
      have hgol := hcc.lt
      have HC := Lib.hid hcc
      have HW6 := Lib.hid (HWr.out.trans (hb6.mono HWr.out.size)); have HB6 := Lib.hid (HB.out.trans (hb6.mono HB.out.size))
      have hg3 : w3.heap.size ≤ go := Nat.le_trans HWr.out.size hgo
      have hg5 : w5.heap.size ≤ go := Nat.le_trans HB.out.size hgo
      clear hcc hb6 HWr HB
      generalize hov : one p.1 p.2 = ov at *
      have HOV := Lib.hid hov
      clear hov
      have c0 := (HC.out).cell 0 _ rfl
      have c1 := (HC.out).cell 1 _ rfl
      have f0 := HC.out.fr 0; have f1 := HC.out.fr 1
      go_upto_region 9 with fail
      have HC7 := Lib.hid ((HC.out.set 0 (.int .u32 (ov.1.toNat : Int))).set 1 (.int .u32 (ov.2.toNat : Int)))
      have HW7 := Lib.hid ((HW6.out.setCell (p := ⟨go, 0, none⟩) hg3 (.int .u32 (ov.1.toNat : Int))).setCell (p := ⟨go, 1, none⟩) hg3 (.int .u32 (ov.2.toNat : Int)))
      have HB7 := Lib.hid ((HB6.out.setCell (p := ⟨go, 0, none⟩) hg5 (.int .u32 (ov.1.toNat : Int))).setCell (p := ⟨go, 1, none⟩) hg5 (.int .u32 (ov.2.toNat : Int)))
      clear HC HW6 HB6 c0 c1 f0 f1
      change Hid (Blk _ go [.int .u32 (ov.1.toNat : Int), .int .u32 (ov.2.toNat : Int)]) at HC7
      generalize (w6.setCell ⟨go, 0, none⟩ (.int .u32 (ov.1.toNat : Int))).setCell ⟨go, 1, none⟩ (.int .u32 (ov.2.toNat : Int)) = w7 at *
      go_cut [11] from 42 to 43 (fun v wx => ∃ qy cy, v = .slice qy N cy ∧ wx.ownsRow w7.heap.size 51 5 (.slice qy N cy) N (markCells L) ∧ Below w7.heap.size w7 wx)
      case first =>
        have HO7 := Lib.hid (rowLater HOX.out HW7.out)
        rcases HOX.out.2 with ⟨hv, hn0⟩ | ⟨gx, capx, cur, hv, _, hgx, hnc, _⟩
        · obtain ⟨rfl, rfl⟩ : qm = none ∧ capm = 0 := by
            have h := hv
            simp at h
            exact ⟨h.1, h.2.2⟩
          have hL0 : L = [] := List.eq_nil_of_length_eq_zero (by rw [← HN.out]; exact hn0)
          obtain rfl : N = 0 := hn0
          clear hv
          go_wp2_with ((at_builtin; refine wpList_append_own_none rfl _ _ 24 rfl w7.heap.size 51 i0 5 Try.underlying24 Hi.out (.slice none 0 0) 0 [] rfl (World.ownsRow_nil _ _ _ _) rfl ?_))
          go_meet
          exact ⟨none, 0, rfl, by rw [hL0]; exact World.ownsRow_nil _ _ _ _, Below.refl _ _⟩
        · obtain ⟨rfl, rfl⟩ : qm = some ⟨gx, 0, none⟩ ∧ capm = capx := by simpa using hv
          have HNW := Lib.hid (row_news HO7.out HN.out.symm)
          have HLE : Hid ((markCells L).length = N * 5) := Lib.hid (by rw [markCells_len, HN.out])
          have hN5 : N ≤ 5000 := by omega
          clear hv hgx hnc
          go_wp2_with ((at_builtin; refine wpList_append_own _ rfl _ _ 24 rfl w7.heap.size 51 i0 (.agg #[.int .u32 0, .int .u32 0, .int .i64 0, .int .i64 0, .int .i64 0]) 5 32 Try.underlying24 Hi.out Hz0.out Hz1.out Hz2.out rfl (by decide) (.slice none 0 0) 0 [] rfl (World.ownsRow_nil _ _ _ _) ⟨gx, 0, none⟩ N capm (markCells L) rfl HLE.out HNW.out (markCells_one _) (by unfold maxLen; omega) (by omega) (Nat.le_refl _) ?_; intro v' w8 hown2 hgr hiff; clear hiff))
          go_meet
          have hown3 : w8.ownsRow w7.heap.size 51 5 v' N (markCells L) := by
            have h := hown2
            rw [List.nil_append, Nat.zero_add] at h
            exact h
          obtain ⟨qy, cy, rfl⟩ := row_form hown3
          exact ⟨qy, cy, rfl, hown3, below_none hgr⟩
      case rest =>
      obtain ⟨qy, cy, rfl, hoy, hb8⟩ := hcut
      generalize hwx : wc = w8 at *
      clear hwx
      have HOY := Lib.hid hoy
      have HC8 := Lib.hid (HC7.out.next hb8); have HW8 := Lib.hid (HW7.out.trans (hb8.mono HW7.out.size)); have HB8 := Lib.hid (HB7.out.trans (hb8.mono HB7.out.size))
      have hgo7 : go < w7.heap.size := HC7.out.lt
      have h37 : w3.heap.size ≤ w7.heap.size := HW7.out.size
      have h57 : w5.heap.size ≤ w7.heap.size := HB7.out.size
      have h78 : w7.heap.size ≤ w8.heap.size := hb8.size
      clear hoy hb8 HC7 HW7 HB7
      go_wp2_with fail
      go_loopw [12] (fun v wx => ∃ k : Nat, k ≤ N ∧ v = .int .i64 k ∧ wx.ownsRow w7.heap.size 51 5 (.slice qy N cy) N (markCells (onlyK p L k)) ∧ Below w7.heap.size w8 wx) (fun v _ => N - (intOf v).toNat)
      case atStart => exact ⟨0, by omega, rfl, by rw [onlyK_zero]; exact HOY.out, Below.refl _ _⟩
      case round =>
        clear HOY
        obtain ⟨k, hk, rfl, hoy, hb⟩ := hrel
        have HOY := Lib.hid hoy; have HX := Lib.hid hb
        have HCx := Lib.hid (HC8.out.later hb hgo7)
        clear hoy hb
        by_cases hlk : k < N
        · have hdk : decide ((k : Int) < (N : Int)) = true := by simp; omega
          obtain ⟨m, hm⟩ : ∃ m, L[k]? = some m := ⟨_, List.getElem?_eq_getElem (by rw [← HN.out]; exact hlk)⟩
          have hak := onlyK_at p L k m hm
          have HAS := Lib.hid (onlyK_set p L k m hm)
          have HCS := Lib.hid (markCells_set2 (onlyK p L k) k m (both m.1 ov) hak)
          have HAK := Lib.hid hak
          have HOM : Hid (onlyM p m = (both m.1 ov, m.2)) := Lib.hid (by unfold onlyM; rw [HOV.out])
          obtain ⟨gy, cy', hv, hgyb, _⟩ := World.ownsRow.form HOY.out (by omega)
          obtain ⟨rfl, rfl⟩ : qy = some ⟨gy, 0, none⟩ ∧ cy = cy' := by simpa using hv
          have hlenk : (onlyK p L k).length = N := by rw [onlyK_len, HN.out]
          have HLK := Lib.hid hlenk
          obtain ⟨A2, hqA, _, d0, d1, _, _, _⟩ := (rdM_of_owns HOY.out hlenk).atc hak
          obtain rfl : A2 = ⟨gy, 0, none⟩ := by simpa using hqA.symm
          rw [Addr.add_lit, Nat.zero_add] at d0 d1
          have e0 := cl_cellM d0; have e1 := cl_cellM d1
          have hkw : (0 : Int) ≤ (k : Int) := by omega
          have hkw' : (k : Int) < (N : Int) := by omega
          clear hm hak hv hqA d0 d1 hlenk
          go_upto_region 13 with fail
          clear hdk
          have c0 := (HCx.out).reg 0 _ rfl
          have c1 := (HCx.out).reg 1 _ rfl
          (refine Grow.wp_region_tail 11 Grow.noPlan Grow.noPlan_stable (by kernel_rfl) (by kernel_rfl) ?_; intro opsq Hopsq; simp only [List.take_succ_cons, List.take_zero, List.drop_succ_cons, List.drop_zero])
          repeat (first | (refine Grow.lex_move rfl ?_ rfl ?_; (· first | exact Grow.wanted_none | (rw [Hopsq.out]; rfl)); intro K hK; simp only [Grow.put_lit, Grow.setAt, Grow.eval_lit, Grow.ev]; refine hK _ _ ?_; clear hK K) | (refine Grow.lex_assign rfl ?_ rfl ?_; (· first | exact Grow.wanted_none | (rw [Hopsq.out]; rfl)); intro K hK; simp only [Grow.put_lit, Grow.setAt, Grow.eval_lit, Grow.ev]; refine hK _ _ ?_; clear hK K) | (refine Grow.lex_plain rfl rfl ?_ rfl ?_; (· first | exact Grow.wanted_none | (rw [Hopsq.out]; rfl)); apply Exists.intro; refine ⟨fun wq hCq _ => ?_, ?_⟩; (· (go_wp2_with fail; refine ⟨rfl, Below.refl _ _, ?_⟩; simp only [Grow.getD_lit, Grow.nth]; rfl)); intro K hK; simp only [Grow.put_lit, Grow.setAt]; refine hK _ _ ?_; clear hK K) | (refine Grow.lex_nilCheck rfl rfl ?_ rfl ?_; (· first | exact Grow.wanted_none | (rw [Hopsq.out]; rfl)); intro K hK; simp only [Grow.put_lit, Grow.setAt]; refine hK _ _ ?_; clear hK K) | (refine Grow.lex_skip ?_ ?_; (· (rw [Hopsq.out]; rfl)); intro K hK; simp only [Grow.put_lit, Grow.setAt]; refine hK _ _ ?_; clear hK K))
          (refine Grow.lex_call ?_ rfl ?_; (· first | exact Grow.wanted_none | (rw [Hopsq.out]; rfl)); apply Exists.intro; apply Exists.intro; refine ⟨fun wq => ?_, ?_⟩; (· (go_simp; exact ⟨rfl, rfl⟩)); apply Exists.intro; refine ⟨fun wq hCq hKq => ?_, ?_⟩; (· exact refBoth_any m.1 ov _); intro K hK; simp only [Grow.put_lit, Grow.setAt]; refine hK _ _ ?_; clear hK K)
          repeat (first | (refine Grow.lex_move rfl ?_ rfl ?_; (· first | exact Grow.wanted_none | (rw [Hopsq.out]; rfl)); intro K hK; simp only [Grow.put_lit, Grow.setAt, Grow.eval_lit, Grow.ev]; refine hK _ _ ?_; clear hK K) | (refine Grow.lex_assign rfl ?_ rfl ?_; (· first | exact Grow.wanted_none | (rw [Hopsq.out]; rfl)); intro K hK; simp only [Grow.put_lit, Grow.setAt, Grow.eval_lit, Grow.ev]; refine hK _ _ ?_; clear hK K) | (refine Grow.lex_plain rfl rfl ?_ rfl ?_; (· first | exact Grow.wanted_none | (rw [Hopsq.out]; rfl)); apply Exists.intro; refine ⟨fun wq hCq _ => ?_, ?_⟩; (· (go_wp2_with fail; refine ⟨rfl, Below.refl _ _, ?_⟩; simp only [Grow.getD_lit, Grow.nth]; rfl)); intro K hK; simp only [Grow.put_lit, Grow.setAt]; refine hK _ _ ?_; clear hK K) | (refine Grow.lex_nilCheck rfl rfl ?_ rfl ?_; (· first | exact Grow.wanted_none | (rw [Hopsq.out]; rfl)); intro K hK; simp only [Grow.put_lit, Grow.setAt]; refine hK _ _ ?_; clear hK K) | (refine Grow.lex_skip ?_ ?_; (· (rw [Hopsq.out]; rfl)); intro K hK; simp only [Grow.put_lit, Grow.setAt]; refine hK _ _ ?_; clear hK K))
          (refine Grow.lex_nil ?_; intro w9 hb9 _; replace hb9 := Grow.Cl.base hb9; clear Hopsq opsq)
          have HO9 := Lib.hid (rowLater HOY.out hb9)
          have HX9 := Lib.hid (HX.out.trans (hb9.mono (Nat.le_trans h78 HX.out.size)))
          obtain ⟨A3, hqA3, _, d0, d1, _, _, _⟩ := (rdM_of_owns HO9.out HLK.out).atc HAK.out
          obtain rfl : A3 = ⟨gy, 0, none⟩ := by simpa using hqA3.symm
          rw [Addr.add_lit, Nat.zero_add] at d0 d1
          have f0 := row_fr HO9.out (k * 5); have f1 := row_fr HO9.out (k * 5 + 1)
          clear hb9 hqA3 e0 e1 c0 c1
          generalize hbo : both m.1 ov = bo at *
          clear hbo
          go_wp2_with fail
          refine ⟨⟨k + 1, by omega, by go_num, ?_, (HX9.out.setCell (p := ⟨gy, k * 5, none⟩) hgyb _).setCell (p := ⟨gy, k * 5 + 1, none⟩) hgyb _⟩, by simp [intOf]; omega⟩
          rw [← HAS.out, HOM.out, ← HCS.out]
          exact row_upd (row_upd HO9.out _ _) _ _
        · obtain rfl : k = N := by omega
          have hdk : decide ((k : Int) < (k : Int)) = false := by simp
          have hall : onlyK p L k = L.map (onlyM p) := by rw [HN.out]; exact onlyK_all p L
          rw [hall] at HOY
          clear hall
          have HWx := Lib.hid (HW8.out.trans (HX.out.mono h37))
          have HBx := Lib.hid (HB8.out.trans (HX.out.mono h57))
          have HCC := Lib.hid (HCK.out wr p qy cy HWx.out (rdM_of_owns HOY.out (by rw [List.length_map]; exact HN.out.symm)))
          have XB := HB53.out.next HWx.out
          have k0 := (XB).cell 0 _ rfl
          have k1 := (XB).cell 1 _ rfl
          have k2 := (XB).cell 2 _ rfl
          have k3 := (XB).cell 3 _ rfl
          have k4 := (XB).cell 4 _ rfl
          have k5 := (XB).cell 5 _ rfl
          have k6 := (XB).cell 6 _ rfl
          have k7 := (XB).cell 7 _ rfl
          have HFA : Hid (firstI a (runB b 0 (L.map (onlyM p))).1 = if 0 ≤ (runB b 0 (L.map (onlyM p))).1 ∧ (a < 0 ∨ (runB b 0 (L.map (onlyM p))).1 < a) then (runB b 0 (L.map (onlyM p))).1 else a) := Lib.hid rfl
          have hrg := (runB_range b 0 (L.map (onlyM p))).1
          generalize (runB b 0 (L.map (onlyM p))).1 = R at *
          clear XB
          go_wp2_with fail
          refine HCC.out.mono ?_
          rintro e w9 ⟨rfl, hb9⟩
          have HB9 := Lib.hid (HBx.out.trans (hb9.mono HBx.out.size))
          clear hb9 k0 k1 k2 k3 k4 k5 k6 k7
          go_wp2_with fail
          all_goals
            refine ⟨⟨i + 1, by omega, by go_num, ?_, HB9.out⟩, by simp [intOf]; omega⟩
            rw [HT.out, HFA.out]
            first
              | rw [if_pos (by omega)]
              | rw [if_neg (by omega)]
    · obtain rfl : i = ne := by omega
      have hd : decide ((i : Int) < (i : Int)) = false := by simp
      have ht : all.take i = all := by rw [HNE.out, List.take_length]
      rw [ht, ← HAL.out]
      clear ht
      have XB := HB53.out.next HWr.out
      have k0 := (XB).cell 0 _ rfl
      have k1 := (XB).cell 1 _ rfl
      have k2 := (XB).cell 2 _ rfl
      have k3 := (XB).cell 3 _ rfl
      have k4 := (XB).cell 4 _ rfl
      have k5 := (XB).cell 5 _ rfl
      have k6 := (XB).cell 6 _ rfl
      have k7 := (XB).cell 7 _ rfl
      clear XB
      go_wp2_with fail
      refine (HCX.out _ HWr.out).mono ?_
      rintro e z1 ⟨rfl, hb1⟩
      have HW1 := Lib.hid (HWr.out.trans (hb1.mono HWr.out.size))
      clear hb1 k0 k1 k2 k3 k4 k5 k6 k7
      go_wp2_with fail
      refine (sane18_any _).mono ?_
      rintro e z2 ⟨rfl, hb2⟩
      go_wp2_with fail
      go_ret
      exact ⟨rfl, HWW.out.trans ((HB4.out.trans ((HW1.out.trans (hb2.mono HW1.out.size)).mono HB4.out.size)).mono HWW.out.size)⟩
set_option maxHeartbeats 1000000 in
set_option maxRecDepth 100000 in
theorem contractApart_lifted (os : Os) (started : os.Started) (H : Type) (enc : TypeId × Value → H) :
    ReturnsInHanded {} Try.checked os 8 .any (Rows.contractApartSpec.pre6 enc Try.prog Try.f8 Rows.contractApartRow.domain false) (Rows.contractApartSpec.post enc Try.prog Try.f8 false true false false) := by
  refine law_lifted (C := Try.checked) own laidOut started (by kernel_rfl) Try.func8 4 rfl Try.underlying4 (by kernel_rfl) rfl H enc
    (fun ds h => by match ds, h with | [d0, d1], _ => rfl)
    (ChangeSpec.witness6 (enc := enc) (C := Try.checked) false ⟨#[], #[.agg #[.int .u8 0, .int .u8 0], .slice none 0 0], []⟩ 8 (by kernel_rfl) (by kernel_rfl) (by kernel_rfl) (by kernel_rfl)) ?_
  intro W base args ds ps hval hA hsz
  have hA' : DataW.TrodAll enc Try.prog W 0 (fun _ => true) true Try.f8.params.toList args.toList ds ps := hA
  have hval' : ∀ (j : Nat) t v, Try.f8.params[j]? = some t → args[j]? = some v → Value.okWide Try.prog W .any base t v := hval
  rw [Try.params8] at hA' hval'
  obtain ⟨v0, vs0, d0, ds0, p0, q0, hargs, rfl, rfl, h0, r0⟩ := trodAll_cons hA'
  obtain ⟨v1, vs1, d1, ds1, p1, q1, rfl, rfl, rfl, h1, r1⟩ := trodAll_cons r0
  obtain ⟨rfl, rfl, rfl⟩ := trodAll_nil r1
  obtain rfl : args = #[v0, v1] := by cases args; simp_all
  obtain ⟨n0, t0, rfl, hn0, ht0⟩ := open_u8x2 (hval' 0 22 v0 rfl rfl) h0
  obtain ⟨l1, q1x, cap1, rfl, hl1, hu1⟩ := open_u8s (hval' 1 23 v1 rfl rfl) h1
  exact apart_walk n0 t0 l1 q1x cap1 W hn0 ht0 hl1 hu1

theorem contractApart_over : Rows.contractApartRow.holds Try.pinned (OpenSpec.ofChange Rows.contractApartSpec) :=
  OpenClaim.holds_of_wide 8 Try.f8 rfl rfl rfl rfl rfl rfl rfl ⟨rfl, rfl, rfl, rfl, rfl⟩ rfl rfl rfl rfl rfl (by kernel_rfl) Try.func8 (by kernel_rfl)
    (of_decide_eq_true (by kernel_rfl)) (by unfold Func.isWrapper; first | (rw [if_pos (by decide +kernel)]; kernel_rfl) | (rw [if_neg (by decide +kernel)]; exact ⟨rfl, rfl⟩))
    (fun os started H enc _ => contractApart_lifted os started H enc)

/-- THE STATEMENT. -/
theorem contractApart_holds : Rows.ContractApartSaid := contractApart_over
#print axioms contractApart_holds
end Go.Proofs.Ytfmmiafdlfdfoaa
