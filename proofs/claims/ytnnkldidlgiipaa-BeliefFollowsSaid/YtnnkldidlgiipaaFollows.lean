/- BeliefFollows: observing and injecting in turn follows the contract. The law's function answers true at every argument. Conditions: none. -/
import Derived.Test.YtnnkldidlgiipaaPlaces
import Derived.Test.YtnnkldidlgiipaaRun
import Derived.Test.YtnnkldidlgiipaaFolLaw
import Derived.Test.YtnnkldidlgiipaaSame18
namespace Go.Proofs.Ytnnkldidlgiipaa
open Go.ChangeShapes Go.WideShapes Go.ChangeAt Go.RowKit
attribute [local go_sem] run_store_float
theorem RdM.take {w : World} {q : Option Addr} {l : List MarkV} (h : RdM w q l) (n : Nat) : RdM w q (l.take n) := by
  intro i p hp
  have hi := (List.getElem?_eq_some_iff.1 hp).1
  simp at hi
  rw [List.getElem?_take, if_pos (by omega)] at hp
  exact h i p hp
theorem row_cmax {w : World} {base cap n : Nat} {q : Option Addr} {e : TypeId} {size : Nat} {xs : List Value} (h : w.ownsRow base e size (.slice q n cap) n xs) : n ≤ cap ∧ cap ≤ maxLen := by
  rcases h.2 with ⟨hv, _⟩ | ⟨g, cap', cur, hv, _, _, hle, hm, _⟩
  · simp at hv; unfold maxLen; omega
  · simp at hv
    obtain ⟨_, rfl⟩ := hv
    exact ⟨hle, hm⟩
set_option maxHeartbeats 8000000 in
set_option maxRecDepth 100000 in
theorem follows_walk (n t : Nat) (l : List Nat) (ql : Option Addr) (capl : Nat) (w : World) (hn : n < 256) (ht : t < 256) (hl : l.length ≤ maxLen) (hu : RdU w ql l) :
    Calls Try.prog 6 #[.agg #[.int .u8 n, .int .u8 t], .slice ql l.length capl] w fun e w' => e = .returned (.bool true) ∧ Below w.heap.size w w' := by
  have X0 : Blk (w.alloc (.cells #[.int .u8 n, .int .u8 t] 22)) w.heap.size [.int .u8 n, .int .u8 t] := by
    have hx := Blk.new w [.int .u8 n, .int .u8 t] 22
    exact hx
  have XW : Below w.heap.size w (w.alloc (.cells #[.int .u8 n, .int .u8 t] 22)) := below1' w _
  have HWW := Lib.hid XW; have HX0 := Lib.hid X0
  clear XW X0
  have HU := Lib.hid (hu.next HWW.out)
  have HL2 := Lib.hid hl
  clear hu
  obtain ⟨nl, hnl⟩ : ∃ n, n = l.length := ⟨_, rfl⟩
  have HNL := Lib.hid hnl
  rw [← hnl] at hl ⊢
  clear hnl
  go_enter Try.func6, Try.ntmps6
  go_upto_region 1 with fail
  generalize (w.alloc (.cells #[.int .u8 n, .int .u8 t] 22)) = w0 at *
  have HW := Lib.hid (Below.refl w0.heap.size w0)
  have hz0 := HX0.out.lt
  have k0 := (HX0.out).cell 0 _ rfl
  have k1 := (HX0.out).cell 1 _ rfl
  go_wp2_with fail
  refine (b18_val2 n t _ hn ht).mono ?_
  rintro e w1 ⟨g, cap, rfl, hg0, hg1, hown, hr, hb⟩
  have HL1 : Hid ((b18 n t).cars.length ≤ 1000) := Lib.hid (by show (cars18 n t).length ≤ 1000; rw [cars18_len]; have := (k18_range n).2; omega)
  have HV := Lib.hid (valid18 n t)
  have HSL : Hid (∀ c ∈ (b18 n t).cars, -9223372036854775808 ≤ c.sl ∧ c.sl < 9223372036854775807) := Lib.hid (slack18 n t)
  have hfl : 2 ≤ (b18 n t).fl ∧ (b18 n t).fl ≤ 6 := fl18_range n
  have hcl : 1 ≤ (b18 n t).cars.length := by show 1 ≤ (cars18 n t).length; rw [cars18_len]; exact (k18_range n).1
  obtain ⟨hf2, hf6⟩ := hfl
  have HR1 := Lib.hid hr; have HB1 := Lib.hid (HW.out.trans (hb.mono HW.out.size))
  clear hown hr hb HW k0 k1
  generalize b18 n t = b at *
  go_upto_region 2 with fail
  have B5 := Blk.new w1 [.int .i64 b.fl, .int .i64 b.deb, .int .i64 b.room, .int .i64 b.park, .float .f64 b.em, .float .f64 b.fu, .float .f64 b.ov, .slice (some ⟨g, 0, none⟩) b.cars.length cap] 27
  have hb5 := below1' w1 (.cells #[.int .i64 b.fl, .int .i64 b.deb, .int .i64 b.room, .int .i64 b.park, .float .f64 b.em, .float .f64 b.fu, .float .f64 b.ov, .slice (some ⟨g, 0, none⟩) b.cars.length cap] 27)
  change Blk (w1.alloc (.cells #[.int .i64 b.fl, .int .i64 b.deb, .int .i64 b.room, .int .i64 b.park, .float .f64 b.em, .float .f64 b.fu, .float .f64 b.ov, .slice (some ⟨g, 0, none⟩) b.cars.length cap] 27)) _ _ at B5
  have HB3 := Lib.hid (HB1.out.trans (hb5.mono HB1.out.size))
  have HR3 := Lib.hid (HR1.out.next hb5)
  have HB5 := Lib.hid B5
  clear B5 hb5 HB1 HR1
  generalize w1.alloc (.cells #[.int .i64 b.fl, .int .i64 b.deb, .int .i64 b.room, .int .i64 b.park, .float .f64 b.em, .float .f64 b.fu, .float .f64 b.ov, .slice (some ⟨g, 0, none⟩) b.cars.length cap] 27) = w2 at *
  generalize w1.heap.size = g5 at *
  have hzz5 : g5 < w2.heap.size := HB5.out.lt
  have ht := trace_any b (some ⟨g, 0, none⟩) cap l ql capl w2 HL2.out hf2 (by omega) (HU.out.next HB3.out)
  rw [← HNL.out] at ht
  have HTR := Lib.hid ht
  clear ht
  have k0 := (HB5.out).cell 0 _ rfl
  have k1 := (HB5.out).cell 1 _ rfl
  have k2 := (HB5.out).cell 2 _ rfl
  have k3 := (HB5.out).cell 3 _ rfl
  have k4 := (HB5.out).cell 4 _ rfl
  have k5 := (HB5.out).cell 5 _ rfl
  have k6 := (HB5.out).cell 6 _ rfl
  have k7 := (HB5.out).cell 7 _ rfl
  go_wp2_with fail
  refine HTR.out.mono ?_
  rintro e w3 ⟨v, L, rfl, hL150, hobs, hown, hb3⟩
  obtain ⟨qm, capm, rfl⟩ := row_form hown
  have HCAP := Lib.hid (row_cmax hown)
  have HM := Lib.hid (rdM_of_owns hown rfl)
  have HB4 := Lib.hid (HB3.out.trans (hb3.mono HB3.out.size))
  have HB53 := Lib.hid (HB5.out.next hb3)
  have HR4 := Lib.hid (HR3.out.next hb3)
  have HOBS := Lib.hid hobs
  have hz53 : g5 < w3.heap.size := HB53.out.lt
  clear hobs hown hb3 HTR HB5 HR3 HB3 k0 k1 k2 k3 k4 k5 k6 k7 HU
  have HCK := Lib.hid (check_any b (some ⟨g, 0, none⟩) cap 0 L qm capm w3 HL1.out HR4.out (by unfold maxLen; omega) HM.out)
  have HF0 : Hid (Fol b L 0 newB) := Lib.hid (fol_start b L newB HV.out (by omega) (newB_ok b HV.out hf2 hcl) rfl)
  have HRG := Lib.hid (runB_range b 0 L)
  obtain ⟨N, hN⟩ : ∃ N, N = L.length := ⟨_, rfl⟩
  have HN := Lib.hid hN
  rw [← hN] at hL150 HCK HCAP ⊢
  clear hN
  have k0 := (HB53.out).cell 0 _ rfl
  have k1 := (HB53.out).cell 1 _ rfl
  have k2 := (HB53.out).cell 2 _ rfl
  have k3 := (HB53.out).cell 3 _ rfl
  have k4 := (HB53.out).cell 4 _ rfl
  have k5 := (HB53.out).cell 5 _ rfl
  have k6 := (HB53.out).cell 6 _ rfl
  have k7 := (HB53.out).cell 7 _ rfl
  go_wp2_with fail
  refine HCK.out.mono ?_
  rintro e w3b ⟨rfl, hb3⟩
  have HB4b := Lib.hid (HB4.out.trans (hb3.mono HB4.out.size))
  have HB53b := Lib.hid (HB53.out.next hb3)
  have HR4b := Lib.hid (HR4.out.next hb3)
  have HMb := Lib.hid (HM.out.next hb3)
  obtain ⟨fi, hfi⟩ : ∃ fi, fi = (runB b 0 L).1 := ⟨_, rfl⟩
  have HFI := Lib.hid hfi
  rw [← hfi]
  clear hb3 HB4 HB53 HR4 HM HCK k0 k1 k2 k3 k4 k5 k6 k7 hfi
  go_wp2_with fail
  refine (new_any _).mono ?_
  rintro e w4 ⟨rfl, hb4⟩
  have HB5b := Lib.hid (HB4b.out.trans (hb4.mono HB4b.out.size))
  have HB54 := Lib.hid (HB53b.out.next hb4)
  have HR5 := Lib.hid (HR4b.out.next hb4)
  have HM4 := Lib.hid (HMb.out.next hb4)
  clear hb4 HMb HB4b HB53b HR4b
  go_upto_region 5 with fail
  have B7 := Blk.new w4 (newB.cells none 0) 35
  have hb7 := below1' w4 (.cells #[.int .i64 newB.fl, .int .i64 newB.dir, .int .i64 newB.door, .slice none newB.du.length 0, .int .i64 newB.still, .bool newB.late] 35)
  change Blk (w4.alloc (.cells #[.int .i64 newB.fl, .int .i64 newB.dir, .int .i64 newB.door, .slice none newB.du.length 0, .int .i64 newB.still, .bool newB.late] 35)) _ _ at B7
  have HS := Lib.hid B7
  have HW5 := Lib.hid hb7
  have hg7 : w4.heap.size ≤ w4.heap.size := Nat.le_refl _
  have hz54 : g5 < w4.heap.size := HB54.out.lt
  clear B7 hb7
  generalize hw5 : w4.alloc (.cells #[.int .i64 newB.fl, .int .i64 newB.dir, .int .i64 newB.door, .slice none newB.du.length 0, .int .i64 newB.still, .bool newB.late] 35) = w5 at *
  clear hw5
  clear hg7
  generalize hgg : w4.heap.size = g7 at HS ⊢
  have hg7' : w4.heap.size ≤ g7 := by omega
  have HGG := Lib.hid hgg
  clear hgg
  go_wp2_with fail
  go_loopw [9] (fun v9 wr => ∃ (k : Nat) (V : BelV) (q9 : Option Addr) (cap9 : Nat), k ≤ N ∧ v9 = .int .i64 k ∧ Fol b L k V ∧ Blk wr g7 (V.cells q9 cap9) ∧ RdD wr q9 V.du ∧ Exc g7 w5 wr) (fun v _ => N - (intOf v).toNat)
  case atStart => exact ⟨0, newB, none, 0, by omega, rfl, HF0.out, HS.out, (fun i d h => by simp [newB] at h), Exc.refl _ _⟩
  case round =>
    obtain ⟨k, V, q9, cap9, hk, rfl, hfol, hblk, hrd, hexc⟩ := hrel
    have HWr := Lib.hid (HW5.out.trans (hexc.below hg7' HW5.out.size))
    have HE := Lib.hid hexc; have HSr := Lib.hid hblk; have HDr := Lib.hid hrd; have HFO := Lib.hid hfol
    have h64 := hfol.len
    clear hexc hblk hrd HS hfol
    have BB := HB54.out.next HWr.out
    by_cases hlt : k < N
    · have hd : decide ((k : Int) < (N : Int)) = true := by simp; omega
      obtain ⟨m, hm⟩ : ∃ m, L[k]? = some m := ⟨_, List.getElem?_eq_getElem (by rw [← HN.out]; exact hlt)⟩
      have hom := HOBS.out m (List.mem_of_getElem? hm)
      have hfl := fol_late b L k V m HFO.out hm
      rw [← HFI.out] at hfl
      obtain ⟨hok, hvl, hvd⟩ := fol_obs b L k V m HFO.out hom
      have hst := fun hl => fol_step b L k V m HV.out (by rw [← HN.out]; omega) HFO.out hm hom hl
      obtain ⟨A, hqA, hA, d0, d1, d2, d3, d4⟩ := (HM4.out.next HWr.out).atc hm
      subst hqA
      have hlen1 := Nat.le_trans (obs_len b 0 V m.2) h64
      have HOC : Hid (∀ W, Below wr.heap.size wr W → Calls Try.prog 10 #[cvB b (some ⟨g, 0, none⟩) cap, .int .i64 0, cvS V q9 cap9, .agg #[.int .i64 m.2.1, .int .i64 m.2.2.1, .int .i64 m.2.2.2]] W fun e w' => ∃ v, e = .returned v ∧ Below W.heap.size W w' ∧ belE W.heap.size (observeV b 0 V m.2) 0 v w') := by
        refine Lib.hid fun W hW => ?_
        have h := observe_any b (some ⟨g, 0, none⟩) cap 0 V q9 cap9 m.2 W HL1.out (by omega) ((HR5.out.next HWr.out).next hW) (HDr.out.next hW)
        rw [hok] at h
        exact h
      have HM5 := Lib.hid hm
      have HFL := Lib.hid hfl
      generalize agedLate (dlOf b 0) V.du = la at *
      have HVL := Lib.hid hvl; have HVD := Lib.hid hvd; have HST := Lib.hid hst
      clear hvl hvd hst hok hom hm hfl
      generalize observeV b 0 V m.2 = V1 at *
      obtain ⟨F, dr, dor, D, st, lt⟩ := V1
      obtain rfl : lt = la := HVL.out
      clear HVL
      have k0 := (BB).cell 0 _ rfl
      have k1 := (BB).cell 1 _ rfl
      have k2 := (BB).cell 2 _ rfl
      have k3 := (BB).cell 3 _ rfl
      have k4 := (BB).cell 4 _ rfl
      have k5 := (BB).cell 5 _ rfl
      have k6 := (BB).cell 6 _ rfl
      have k7 := (BB).cell 7 _ rfl
      have j0 := (HSr.out).cell 0 _ rfl
      have j1 := (HSr.out).cell 1 _ rfl
      have j2 := (HSr.out).cell 2 _ rfl
      have j3 := (HSr.out).cell 3 _ rfl
      have j4 := (HSr.out).cell 4 _ rfl
      have j5 := (HSr.out).cell 5 _ rfl
      have hz7' : g7 < wr.heap.size := HSr.out.lt
      have hz5' : g5 < wr.heap.size := Nat.lt_of_lt_of_le hz54 HWr.out.size
      have hiw : (0 : Int) ≤ (k : Int) := by omega
      have hiw' : (k : Int) < (N : Int) := by omega
      have HLE : Hid (D.length ≤ 64) := Lib.hid hlen1
      clear BB hlen1
      go_upto_region 8 with fail
      have HSS : Hid (∀ W, Below wr.heap.size wr W → W.cell? ⟨g5, 0, none⟩ = some (.int .i64 b.fl) ∧ W.cell? ⟨g5, 1, none⟩ = some (.int .i64 b.deb) ∧ W.cell? ⟨g5, 2, none⟩ = some (.int .i64 b.room) ∧ W.cell? ⟨g5, 3, none⟩ = some (.int .i64 b.park) ∧ W.cell? ⟨g5, 4, none⟩ = some (.float .f64 b.em) ∧ W.cell? ⟨g5, 5, none⟩ = some (.float .f64 b.fu) ∧ W.cell? ⟨g5, 6, none⟩ = some (.float .f64 b.ov) ∧ W.cell? ⟨g5, 7, none⟩ = some (.slice (some ⟨g, 0, none⟩) b.cars.length cap) ∧ W.cell? ⟨g7, 0, none⟩ = some (.int .i64 V.fl) ∧ W.cell? ⟨g7, 1, none⟩ = some (.int .i64 V.dir) ∧ W.cell? ⟨g7, 2, none⟩ = some (.int .i64 V.door) ∧ W.cell? ⟨g7, 3, none⟩ = some (.slice q9 V.du.length cap9) ∧ W.cell? ⟨g7, 4, none⟩ = some (.int .i64 V.still) ∧ W.cell? ⟨g7, 5, none⟩ = some (.bool V.late) ∧ W.cell? ⟨(A.add (k * 5)).block, (A.add (k * 5)).off + 2, none⟩ = some (.int .i64 m.2.1) ∧ W.cell? ⟨(A.add (k * 5)).block, (A.add (k * 5)).off + 3, none⟩ = some (.int .i64 m.2.2.1) ∧ W.cell? ⟨(A.add (k * 5)).block, (A.add (k * 5)).off + 4, none⟩ = some (.int .i64 m.2.2.2)) := Lib.hid fun W hW => ⟨cell_later hW k0, cell_later hW k1, cell_later hW k2, cell_later hW k3, cell_later hW k4, cell_later hW k5, cell_later hW k6, cell_later hW k7, cell_later hW j0, cell_later hW j1, cell_later hW j2, cell_later hW j3, cell_later hW j4, cell_later hW j5, cell_later hW d2, cell_later hW d3, cell_later hW d4⟩
      go_cut [10, 11] from 32 to 42 (fun v10 v11 wx => ∃ g10 q1 cap1, v10 = .pointer (some ⟨g10, 0, none⟩) ∧ v11 = .int .i64 0 ∧ wr.heap.size ≤ g10 ∧ (∀ A, q1 = some A → wr.heap.size ≤ A.block) ∧ Blk wx g10 [.int .i64 F, .int .i64 dr, .int .i64 dor, .slice q1 D.length cap1, .int .i64 st, .bool lt] ∧ RdD wx q1 D ∧ Below wr.heap.size wr wx)
      case first =>
        go_region_held3 (fun W : World => W.cell? ⟨g5, 0, none⟩ = some (.int .i64 b.fl) ∧ W.cell? ⟨g5, 1, none⟩ = some (.int .i64 b.deb) ∧ W.cell? ⟨g5, 2, none⟩ = some (.int .i64 b.room) ∧ W.cell? ⟨g5, 3, none⟩ = some (.int .i64 b.park) ∧ W.cell? ⟨g5, 4, none⟩ = some (.float .f64 b.em) ∧ W.cell? ⟨g5, 5, none⟩ = some (.float .f64 b.fu) ∧ W.cell? ⟨g5, 6, none⟩ = some (.float .f64 b.ov) ∧ W.cell? ⟨g5, 7, none⟩ = some (.slice (some ⟨g, 0, none⟩) b.cars.length cap) ∧ W.cell? ⟨g7, 0, none⟩ = some (.int .i64 V.fl) ∧ W.cell? ⟨g7, 1, none⟩ = some (.int .i64 V.dir) ∧ W.cell? ⟨g7, 2, none⟩ = some (.int .i64 V.door) ∧ W.cell? ⟨g7, 3, none⟩ = some (.slice q9 V.du.length cap9) ∧ W.cell? ⟨g7, 4, none⟩ = some (.int .i64 V.still) ∧ W.cell? ⟨g7, 5, none⟩ = some (.bool V.late) ∧ W.cell? ⟨(A.add (k * 5)).block, (A.add (k * 5)).off + 2, none⟩ = some (.int .i64 m.2.1) ∧ W.cell? ⟨(A.add (k * 5)).block, (A.add (k * 5)).off + 3, none⟩ = some (.int .i64 m.2.2.1) ∧ W.cell? ⟨(A.add (k * 5)).block, (A.add (k * 5)).off + 4, none⟩ = some (.int .i64 m.2.2.2))
          ((refine HSS.out _ ?_
            repeat (with_reducible refine setB2 ?_ ?_; rotate_left; (first | exact Nat.le_refl _ | exact T6.out.size))
            first
              | with_reducible exact T6.out
              | with_reducible exact drewB2 wr
              | with_reducible exact drewA2 wr _
              | (with_reducible refine below_al2 ?_ (Nat.le_refl _) _
                 first
                   | with_reducible exact T6.out
                   | with_reducible exact drewB2 wr)))
          (first
            | (go_at_call 10
               refine (HOC.out _ ?_).mono ?_
               · first
                   | with_reducible exact drewB2 wr
                   | with_reducible exact drewA2 wr _
                   | with_reducible exact below_al2 (drewB2 wr) (Nat.le_refl _) _
               rintro e wh ⟨_, rfl, hb6, q1, cap1, rfl, hrd, hlo⟩
               have T6 : Hid (Below wr.heap.size wr wh) := Lib.hid (by first | with_reducible exact (drewB2 wr).trans (hb6.mono (drewB2 wr).size) | with_reducible exact (drewA2 wr _).trans (hb6.mono (drewA2 wr _).size) | with_reducible exact (below_al2 (drewB2 wr) (Nat.le_refl _) _).trans (hb6.mono (below_al2 (drewB2 wr) (Nat.le_refl _) _).size))
               have c6 := base_cell hb6
               have z6 := base_frozen2 hb6))
        all_goals
          go_wp2_with fail
          go_meet
          refine ⟨_, q1, cap1, rfl, rfl, ?_⟩
          first
            | (show wr.heap.size ≤ wh.heap.size ∧ _
               obtain ⟨e1, e2, e3, e4⟩ := endA2 (V := ⟨F, dr, dor, D, st, lt⟩) (cap7 := cap1) T6.out hrd
               exact ⟨e1, fun A hA => hlo A hA, e2, e3, e4⟩)
            | (show wr.heap.size ≤ wr.heap.size ∧ _
               have hB3 : Blk (wr.alloc (.cells #[.int .i64 0, .int .i64 0, .int .i64 0, .slice none 0 0, .int .i64 0, .bool false] 35)).drew wr.heap.size [.int .i64 0, .int .i64 0, .int .i64 0, .slice none 0 0, .int .i64 0, .bool false] := Blk.new wr [.int .i64 0, .int .i64 0, .int .i64 0, .slice none 0 0, .int .i64 0, .bool false] 35
               have hlo2 : ∀ A, q1 = some A → wr.heap.size < A.block := fun A hA => by
                 have h : (wr.alloc (.cells #[.int .i64 0, .int .i64 0, .int .i64 0, .slice none 0 0, .int .i64 0, .bool false] 35)).heap.size ≤ A.block := hlo A hA
                 rw [World.size_alloc] at h
                 exact h
               obtain ⟨e1, e2, e3, e4⟩ := endB2 (V := ⟨F, dr, dor, D, st, lt⟩) (g7 := wr.heap.size) (cap7 := cap1) T6.out hrd (Nat.le_refl _) (hB3.next hb6) hlo2
               exact ⟨e1, fun A hA => Nat.le_of_lt (hlo2 A hA), e2, e3, e4⟩)
      case rest =>
      obtain ⟨g10, q1, cap1, rfl, rfl, hg10lo, hq1lo, hg10B, hq1D, hw6W⟩ := hcut
      generalize hwx : wc = w6 at *
      clear hwx HSS
      have hlo7 : ∀ A, q1 = some A → A.block ≠ g7 := fun A hA => by have := hq1lo A hA; omega
      have HL7 := Lib.hid hlo7
      have H10 := Lib.hid hg10B; have HD10 := Lib.hid hq1D; have HW6 := Lib.hid hw6W
      have hz10 : g10 < w6.heap.size := hg10B.lt
      clear HOC hlo7 hq1lo hg10B hq1D hw6W k0 k1 k2 k3 k4 k5 k6 k7 j0 j1 j2 j3 j4 j5 d2 d3 d4
      have j0 := (H10.out).cell 0 _ rfl
      have j1 := (H10.out).cell 1 _ rfl
      have j2 := (H10.out).cell 2 _ rfl
      have j3 := (H10.out).cell 3 _ rfl
      have j4 := (H10.out).cell 4 _ rfl
      have j5 := (H10.out).cell 5 _ rfl
      cases hla : lt
      · have HLA := Lib.hid hla
        subst hla
        have hki : ((k : Int) == fi) = false := HFL.out.symm
        obtain ⟨hs1, hf1, hd1⟩ := HST.out rfl
        have HF1 := Lib.hid hf1; have HS1 := Lib.hid hs1; have HD1 := Lib.hid hd1
        have HW6r := Lib.hid (HWr.out.trans (HW6.out.mono HWr.out.size))
        have HIC : Hid (∀ W, Below w6.heap.size w6 W → Calls Try.prog 12 #[cvB b (some ⟨g, 0, none⟩) cap, .int .i64 0, cvS ⟨F, dr, dor, D, st, false⟩ q1 cap1, cv m.1] W fun e w' => ∃ v, e = .returned v ∧ Below W.heap.size W w' ∧ belE W.heap.size (injectV b 0 ⟨F, dr, dor, D, st, false⟩ m.1) 0 v w') := by
          refine Lib.hid fun W hW => ?_
          have h := inject_any b (some ⟨g, 0, none⟩) cap 0 ⟨F, dr, dor, D, st, false⟩ q1 cap1 m.1 W HL1.out (by have := HLE.out; show D.length ≤ 900; omega) ((HR5.out.next HW6r.out).next hW) (HD10.out.next hW)
          rw [injectW_eq, HS1.out] at h
          exact h
        clear hs1 hf1 hd1 HST
        generalize injectV b 0 ⟨F, dr, dor, D, st, false⟩ m.1 = V3 at *
        obtain ⟨F3, dr3, dor3, D3, st3, lt3⟩ := V3
        have BB := HB54.out.next HW6r.out
        have k0 := (BB).cell 0 _ rfl
        have k1 := (BB).cell 1 _ rfl
        have k2 := (BB).cell 2 _ rfl
        have k3 := (BB).cell 3 _ rfl
        have k4 := (BB).cell 4 _ rfl
        have k5 := (BB).cell 5 _ rfl
        have k6 := (BB).cell 6 _ rfl
        have k7 := (BB).cell 7 _ rfl
        have e0 := cell_later HW6.out d0; have e1 := cell_later HW6.out d1
        clear BB d0 d1
        go_upto_region 13 with fail
        have HSS : Hid (∀ W, Below w6.heap.size w6 W → W.cell? ⟨g5, 0, none⟩ = some (.int .i64 b.fl) ∧ W.cell? ⟨g5, 1, none⟩ = some (.int .i64 b.deb) ∧ W.cell? ⟨g5, 2, none⟩ = some (.int .i64 b.room) ∧ W.cell? ⟨g5, 3, none⟩ = some (.int .i64 b.park) ∧ W.cell? ⟨g5, 4, none⟩ = some (.float .f64 b.em) ∧ W.cell? ⟨g5, 5, none⟩ = some (.float .f64 b.fu) ∧ W.cell? ⟨g5, 6, none⟩ = some (.float .f64 b.ov) ∧ W.cell? ⟨g5, 7, none⟩ = some (.slice (some ⟨g, 0, none⟩) b.cars.length cap) ∧ W.cell? ⟨g10, 0, none⟩ = some (.int .i64 F) ∧ W.cell? ⟨g10, 1, none⟩ = some (.int .i64 dr) ∧ W.cell? ⟨g10, 2, none⟩ = some (.int .i64 dor) ∧ W.cell? ⟨g10, 3, none⟩ = some (.slice q1 D.length cap1) ∧ W.cell? ⟨g10, 4, none⟩ = some (.int .i64 st) ∧ W.cell? ⟨g10, 5, none⟩ = some (.bool false) ∧ W.cell? (A.add (k * 5)) = some (.int .u32 (m.1.1.toNat : Int)) ∧ W.cell? ⟨(A.add (k * 5)).block, (A.add (k * 5)).off + 1, none⟩ = some (.int .u32 (m.1.2.toNat : Int))) := Lib.hid fun W hW => ⟨cell_later hW k0, cell_later hW k1, cell_later hW k2, cell_later hW k3, cell_later hW k4, cell_later hW k5, cell_later hW k6, cell_later hW k7, cell_later hW j0, cell_later hW j1, cell_later hW j2, cell_later hW j3, cell_later hW j4, cell_later hW j5, cell_later hW e0, cell_later hW e1⟩
        go_cut [12, 13] from 62 to 72 (fun v10 v11 wx => ∃ g10 q1 cap1, v10 = .pointer (some ⟨g10, 0, none⟩) ∧ v11 = .int .i64 0 ∧ w6.heap.size ≤ g10 ∧ (∀ A, q1 = some A → w6.heap.size ≤ A.block) ∧ Blk wx g10 [.int .i64 F3, .int .i64 dr3, .int .i64 dor3, .slice q1 D3.length cap1, .int .i64 st3, .bool lt3] ∧ RdD wx q1 D3 ∧ Below w6.heap.size w6 wx)
        case first =>
          go_region_held3 (fun W : World => W.cell? ⟨g5, 0, none⟩ = some (.int .i64 b.fl) ∧ W.cell? ⟨g5, 1, none⟩ = some (.int .i64 b.deb) ∧ W.cell? ⟨g5, 2, none⟩ = some (.int .i64 b.room) ∧ W.cell? ⟨g5, 3, none⟩ = some (.int .i64 b.park) ∧ W.cell? ⟨g5, 4, none⟩ = some (.float .f64 b.em) ∧ W.cell? ⟨g5, 5, none⟩ = some (.float .f64 b.fu) ∧ W.cell? ⟨g5, 6, none⟩ = some (.float .f64 b.ov) ∧ W.cell? ⟨g5, 7, none⟩ = some (.slice (some ⟨g, 0, none⟩) b.cars.length cap) ∧ W.cell? ⟨g10, 0, none⟩ = some (.int .i64 F) ∧ W.cell? ⟨g10, 1, none⟩ = some (.int .i64 dr) ∧ W.cell? ⟨g10, 2, none⟩ = some (.int .i64 dor) ∧ W.cell? ⟨g10, 3, none⟩ = some (.slice q1 D.length cap1) ∧ W.cell? ⟨g10, 4, none⟩ = some (.int .i64 st) ∧ W.cell? ⟨g10, 5, none⟩ = some (.bool false) ∧ W.cell? (A.add (k * 5)) = some (.int .u32 (m.1.1.toNat : Int)) ∧ W.cell? ⟨(A.add (k * 5)).block, (A.add (k * 5)).off + 1, none⟩ = some (.int .u32 (m.1.2.toNat : Int)))
            ((refine HSS.out _ ?_
              repeat (with_reducible refine setB2 ?_ ?_; rotate_left; (first | exact Nat.le_refl _ | exact T6.out.size))
              first
                | with_reducible exact T6.out
                | with_reducible exact drewB2 w6
                | with_reducible exact drewA2 w6 _
                | (with_reducible refine below_al2 ?_ (Nat.le_refl _) _
                   first
                     | with_reducible exact T6.out
                     | with_reducible exact drewB2 w6)))
            (first
              | (go_at_call 12
                 refine (HIC.out _ ?_).mono ?_
                 · first
                     | with_reducible exact drewB2 w6
                     | with_reducible exact drewA2 w6 _
                     | with_reducible exact below_al2 (drewB2 w6) (Nat.le_refl _) _
                 rintro e wh ⟨_, rfl, hb6, q1, cap1, rfl, hrd, hlo⟩
                 have T6 : Hid (Below w6.heap.size w6 wh) := Lib.hid (by first | with_reducible exact (drewB2 w6).trans (hb6.mono (drewB2 w6).size) | with_reducible exact (drewA2 w6 _).trans (hb6.mono (drewA2 w6 _).size) | with_reducible exact (below_al2 (drewB2 w6) (Nat.le_refl _) _).trans (hb6.mono (below_al2 (drewB2 w6) (Nat.le_refl _) _).size))
                 have c6 := base_cell hb6
                 have z6 := base_frozen2 hb6))
          all_goals
            go_wp2_with fail
            go_meet
            refine ⟨_, q1, cap1, rfl, rfl, ?_⟩
            first
              | (show w6.heap.size ≤ wh.heap.size ∧ _
                 obtain ⟨e1, e2, e3, e4⟩ := endA2 (V := ⟨F3, dr3, dor3, D3, st3, lt3⟩) (cap7 := cap1) T6.out hrd
                 exact ⟨e1, fun A hA => hlo A hA, e2, e3, e4⟩)
              | (show w6.heap.size ≤ w6.heap.size ∧ _
                 have hB3 : Blk (w6.alloc (.cells #[.int .i64 0, .int .i64 0, .int .i64 0, .slice none 0 0, .int .i64 0, .bool false] 35)).drew w6.heap.size [.int .i64 0, .int .i64 0, .int .i64 0, .slice none 0 0, .int .i64 0, .bool false] := Blk.new w6 [.int .i64 0, .int .i64 0, .int .i64 0, .slice none 0 0, .int .i64 0, .bool false] 35
                 have hlo2 : ∀ A, q1 = some A → w6.heap.size < A.block := fun A hA => by
                   have h : (w6.alloc (.cells #[.int .i64 0, .int .i64 0, .int .i64 0, .slice none 0 0, .int .i64 0, .bool false] 35)).heap.size ≤ A.block := hlo A hA
                   rw [World.size_alloc] at h
                   exact h
                 obtain ⟨e1, e2, e3, e4⟩ := endB2 (V := ⟨F3, dr3, dor3, D3, st3, lt3⟩) (g7 := w6.heap.size) (cap7 := cap1) T6.out hrd (Nat.le_refl _) (hB3.next hb6) hlo2
                 exact ⟨e1, fun A hA => Nat.le_of_lt (hlo2 A hA), e2, e3, e4⟩)
        case rest =>
        obtain ⟨g12, q3, cap3, rfl, rfl, hg12lo, hq3lo, hg12B, hq3D, hw7W⟩ := hcut
        generalize hwx : wc = w7 at *
        clear hwx HSS
        have hlo8 : ∀ A, q3 = some A → A.block ≠ g7 := fun A hA => by have := hq3lo A hA; have := HW6.out.size; omega
        have HL8 := Lib.hid hlo8
        have HU12 := Lib.hid hg12B; have HDU := Lib.hid hq3D; have HW7 := Lib.hid (HW6.out.trans (hw7W.mono HW6.out.size))
        have HWr7 := Lib.hid (HWr.out.trans (HW7.out.mono HWr.out.size))
        clear HIC hlo8 hq3lo hg12B hq3D hw7W k0 k1 k2 k3 k4 k5 k6 k7 j0 j1 j2 j3 j4 j5 e0 e1
        have HDC : Hid (∀ W, Below w7.heap.size w7 W → Calls Try.prog 21 #[cvB b (some ⟨g, 0, none⟩) cap, .int .i64 0, .slice (some A) (k + 1) capm] W fun e w' => ∃ v, e = .returned v ∧ Below W.heap.size W w' ∧ duR W.heap.size D3 v w') := by
          refine Lib.hid fun W hW => ?_
          have h := duties_any b (some ⟨g, 0, none⟩) cap 0 (L.take (k + 1)) (some A) capm W HL1.out ((HR5.out.next HWr7.out).next hW) (by have := HN.out; unfold maxLen; simp; omega) (((HM4.out.next HWr7.out).next hW).take _)
          rw [HD1.out, List.length_take, ← HN.out, Nat.min_eq_left (by omega)] at h
          exact h
        have HSC : Hid (∀ (W : World) (q4 : Option Addr) (cap4 : Nat), Below w7.heap.size w7 W → RdD W q4 D3 → Calls Try.prog 20 #[.slice q3 D3.length cap3, .slice q4 D3.length cap4] W fun e w' => e = .returned (.bool true) ∧ Below W.heap.size W w') :=
          Lib.hid fun W q4 cap4 hW hr4 => calls_bool (same18_any D3 q3 cap3 D3 q4 cap4 W (by have h : D3.length ≤ 64 := HF1.out.len; omega) (HDU.out.next hW) hr4) (by simp)
        have hcapk : (k : Int) + 1 ≤ (capm : Int) := by have := HCAP.out; omega
        have hcap63 : (capm : Int) ≤ 9223372036854775807 := by have := HCAP.out; unfold maxLen at this; omega
        have hk1 : (0 : Int) ≤ (k : Int) + 1 := by omega
        go_upto_region 14 with fail
        clear hki HLA HFL hd
        have t0 := ((HB54.out.next HWr7.out)).reg 0 _ rfl
        have t1 := ((HB54.out.next HWr7.out)).reg 1 _ rfl
        have t2 := ((HB54.out.next HWr7.out)).reg 2 _ rfl
        have t3 := ((HB54.out.next HWr7.out)).reg 3 _ rfl
        have t4 := ((HB54.out.next HWr7.out)).reg 4 _ rfl
        have t5 := ((HB54.out.next HWr7.out)).reg 5 _ rfl
        have t6 := ((HB54.out.next HWr7.out)).reg 6 _ rfl
        have t7 := ((HB54.out.next HWr7.out)).reg 7 _ rfl
        have u0 := (HU12.out).reg 0 _ rfl
        have u1 := (HU12.out).reg 1 _ rfl
        have u2 := (HU12.out).reg 2 _ rfl
        have u3 := (HU12.out).reg 3 _ rfl
        have u4 := (HU12.out).reg 4 _ rfl
        have u5 := (HU12.out).reg 5 _ rfl
        refine Grow.wp_region (relPlan 10 (duR w7.heap.size D3)) (relPlan_stable 10 _ (fun v w w' hw hb => duR_next hw hb)) (by kernel_rfl) (by kernel_rfl) ?_
        intro opsq Hopsq
        repeat (first | (refine Grow.lex_move rfl ?_ rfl ?_; (· first | exact Grow.wanted_none | (rw [Hopsq.out]; rfl)); intro K hK; simp only [Grow.put_lit, Grow.setAt, Grow.eval_lit, Grow.ev]; refine hK _ _ ?_; clear hK K) | (refine Grow.lex_assign rfl ?_ rfl ?_; (· first | exact Grow.wanted_none | (rw [Hopsq.out]; rfl)); intro K hK; simp only [Grow.put_lit, Grow.setAt, Grow.eval_lit, Grow.ev]; refine hK _ _ ?_; clear hK K) | (refine Grow.lex_plain rfl rfl ?_ rfl ?_; (· first | exact Grow.wanted_none | (rw [Hopsq.out]; rfl)); apply Exists.intro; refine ⟨fun wq hCq _ => ?_, ?_⟩; (· (go_wp2_with fail; refine ⟨rfl, Below.refl _ _, ?_⟩; simp only [Grow.getD_lit, Grow.nth]; rfl)); intro K hK; simp only [Grow.put_lit, Grow.setAt]; refine hK _ _ ?_; clear hK K) | (refine Grow.lex_nilCheck rfl rfl ?_ rfl ?_; (· first | exact Grow.wanted_none | (rw [Hopsq.out]; rfl)); intro K hK; simp only [Grow.put_lit, Grow.setAt]; refine hK _ _ ?_; clear hK K) | (refine Grow.lex_skip ?_ ?_; (· (rw [Hopsq.out]; rfl)); intro K hK; simp only [Grow.put_lit, Grow.setAt]; refine hK _ _ ?_; clear hK K))
        (refine Grow.lex_callR (r := (fun _ v w => duR w7.heap.size D3 v w)) ?_ rfl ?_; (· first | exact Grow.wanted_none | (rw [Hopsq.out]; rfl)); apply Exists.intro; apply Exists.intro; refine ⟨fun wq => ?_, ?_, ?_⟩; (· (go_simp; exact ⟨rfl, rfl⟩)); (· (intro wq hCq hKq; exact (HDC.out _ (Grow.Cl.base hCq)).mono (fun e w' ⟨v, he, hb, hR⟩ => ⟨v, he, hb, duR_lo hR (Grow.Cl.base hCq).size⟩))); intro vq hWq; obtain ⟨_, _, hTT⟩ := hWq; obtain ⟨q4, cap4, hvq⟩ := duR_form (Grow.Holds.of_upd hTT).2; subst hvq; clear hTT; intro K hK; simp only [Grow.put_lit, Grow.setAt]; refine hK _ _ ?_; clear hK K)
        repeat (first | (refine Grow.lex_move rfl ?_ rfl ?_; (· first | exact Grow.wanted_none | (rw [Hopsq.out]; rfl)); intro K hK; simp only [Grow.put_lit, Grow.setAt, Grow.eval_lit, Grow.ev]; refine hK _ _ ?_; clear hK K) | (refine Grow.lex_assign rfl ?_ rfl ?_; (· first | exact Grow.wanted_none | (rw [Hopsq.out]; rfl)); intro K hK; simp only [Grow.put_lit, Grow.setAt, Grow.eval_lit, Grow.ev]; refine hK _ _ ?_; clear hK K) | (refine Grow.lex_plain rfl rfl ?_ rfl ?_; (· first | exact Grow.wanted_none | (rw [Hopsq.out]; rfl)); apply Exists.intro; refine ⟨fun wq hCq _ => ?_, ?_⟩; (· (go_wp2_with fail; refine ⟨rfl, Below.refl _ _, ?_⟩; simp only [Grow.getD_lit, Grow.nth]; rfl)); intro K hK; simp only [Grow.put_lit, Grow.setAt]; refine hK _ _ ?_; clear hK K) | (refine Grow.lex_nilCheck rfl rfl ?_ rfl ?_; (· first | exact Grow.wanted_none | (rw [Hopsq.out]; rfl)); intro K hK; simp only [Grow.put_lit, Grow.setAt]; refine hK _ _ ?_; clear hK K) | (refine Grow.lex_skip ?_ ?_; (· (rw [Hopsq.out]; rfl)); intro K hK; simp only [Grow.put_lit, Grow.setAt]; refine hK _ _ ?_; clear hK K))
        (refine Grow.lex_call ?_ rfl ?_; (· first | exact Grow.wanted_none | (rw [Hopsq.out]; rfl)); apply Exists.intro; apply Exists.intro; refine ⟨fun wq => ?_, ?_⟩; (· (go_simp; exact ⟨rfl, rfl⟩)); apply Exists.intro; refine ⟨fun wq hCq hKq => ?_, ?_⟩; (· exact HSC.out _ q4 cap4 (Grow.Cl.base hCq) (duR_out ((hKq 10 ⟨[], by rw [Hopsq.out]; kernel_rfl⟩).2 rfl)).1); intro K hK; simp only [Grow.put_lit, Grow.setAt]; refine hK _ _ ?_; clear hK K)
        repeat (first | (refine Grow.lex_move rfl ?_ rfl ?_; (· first | exact Grow.wanted_none | (rw [Hopsq.out]; rfl)); intro K hK; simp only [Grow.put_lit, Grow.setAt, Grow.eval_lit, Grow.ev]; refine hK _ _ ?_; clear hK K) | (refine Grow.lex_assign rfl ?_ rfl ?_; (· first | exact Grow.wanted_none | (rw [Hopsq.out]; rfl)); intro K hK; simp only [Grow.put_lit, Grow.setAt, Grow.eval_lit, Grow.ev]; refine hK _ _ ?_; clear hK K) | (refine Grow.lex_plain rfl rfl ?_ rfl ?_; (· first | exact Grow.wanted_none | (rw [Hopsq.out]; rfl)); apply Exists.intro; refine ⟨fun wq hCq _ => ?_, ?_⟩; (· (go_wp2_with fail; refine ⟨rfl, Below.refl _ _, ?_⟩; simp only [Grow.getD_lit, Grow.nth]; rfl)); intro K hK; simp only [Grow.put_lit, Grow.setAt]; refine hK _ _ ?_; clear hK K) | (refine Grow.lex_nilCheck rfl rfl ?_ rfl ?_; (· first | exact Grow.wanted_none | (rw [Hopsq.out]; rfl)); intro K hK; simp only [Grow.put_lit, Grow.setAt]; refine hK _ _ ?_; clear hK K) | (refine Grow.lex_skip ?_ ?_; (· (rw [Hopsq.out]; rfl)); intro K hK; simp only [Grow.put_lit, Grow.setAt]; refine hK _ _ ?_; clear hK K))
        (refine Grow.lex_nil ?_; intro wz hbz _; replace hbz := Grow.Cl.base hbz; clear Hopsq opsq)
        have HWz := Lib.hid (HW7.out.trans (hbz.mono HW7.out.size))
        have HBz := Lib.hid (HU12.out.next hbz); have HDz := Lib.hid (HDU.out.next hbz)
        have HEz := Lib.hid (HE.out.step HWz.out); have HSz := Lib.hid (HSr.out.next HWz.out)
        clear hbz t0 t1 t2 t3 t4 t5 t6 t7 u0 u1 u2 u3 u4 u5 HW7 HU12 HDU HDC HSC
        have hz12 := HBz.out.lt
        have x0 := (HBz.out).cell 0 _ rfl
        have x1 := (HBz.out).cell 1 _ rfl
        have x2 := (HBz.out).cell 2 _ rfl
        have x3 := (HBz.out).cell 3 _ rfl
        have x4 := (HBz.out).cell 4 _ rfl
        have x5 := (HBz.out).cell 5 _ rfl
        have y0 := (HSz.out).cell 0 _ rfl
        have y1 := (HSz.out).cell 1 _ rfl
        have y2 := (HSz.out).cell 2 _ rfl
        have y3 := (HSz.out).cell 3 _ rfl
        have y4 := (HSz.out).cell 4 _ rfl
        have y5 := (HSz.out).cell 5 _ rfl
        have f0 := HSz.out.fr 0; have f1 := HSz.out.fr 1; have f2 := HSz.out.fr 2; have f3 := HSz.out.fr 3; have f4 := HSz.out.fr 4; have f5 := HSz.out.fr 5
        go_wp2_with fail
        refine ⟨⟨k + 1, ⟨F3, dr3, dor3, D3, st3, lt3⟩, q3, cap3, by omega, by go_num, HF1.out, ?_, ?_, (((((HEz.out.set 0 _).set 1 _).set 2 _).set 3 _).set 4 _).set 5 _⟩, by simp [intOf]; omega⟩
        · exact (((((HSz.out.set 0 (.int .i64 F3)).set 1 (.int .i64 dr3)).set 2 (.int .i64 dor3)).set 3 (.slice q3 D3.length cap3)).set 4 (.int .i64 st3)).set 5 (.bool lt3)
        · exact (((((HDz.out.set HL8.out).set HL8.out).set HL8.out).set HL8.out).set HL8.out).set HL8.out
      · subst hla
        have hki : ((k : Int) == fi) = true := HFL.out.symm
        have hD0 : D = [] := HVD.out
        subst hD0
        have HW6r := Lib.hid (HWr.out.trans (HW6.out.mono HWr.out.size))
        clear HST HVD
        go_wp2_with fail
        refine (sane19_any _).mono ?_
        rintro e w9 ⟨rfl, hb9⟩
        have HW9 := Lib.hid (HB5b.out.trans ((HW6r.out.trans (hb9.mono HW6r.out.size)).mono HB5b.out.size))
        clear hb9
        go_wp2_with fail
        go_ret
        exact ⟨rfl, HWW.out.trans (HW9.out.mono HWW.out.size)⟩
    · have hd : decide ((k : Int) < (N : Int)) = false := by simp; omega
      obtain rfl : k = N := by omega
      have hdr : L.drop k = [] := by rw [HN.out, List.drop_length]
      have hfi : fi = -1 := by rw [HFI.out, HFO.out.rest, hdr]; rfl
      have hfe : (fi == -1) = true := by rw [hfi]; rfl
      clear hfi hdr
      go_wp2_with fail
      refine (sane19_any _).mono ?_
      rintro e w9 ⟨rfl, hb9⟩
      have HW9 := Lib.hid (HB5b.out.trans ((HWr.out.trans (hb9.mono HWr.out.size)).mono HB5b.out.size))
      clear hb9 BB
      go_wp2_with fail
      go_ret
      exact ⟨rfl, HWW.out.trans (HW9.out.mono HWW.out.size)⟩
set_option maxHeartbeats 1000000 in
set_option maxRecDepth 100000 in
theorem beliefFollows_lifted (os : Os) (started : os.Started) (H : Type) (enc : TypeId × Value → H) :
    ReturnsInHanded {} Try.checked os 6 .any (Rows.beliefFollowsSpec.pre6 enc Try.prog Try.f6 Rows.beliefFollowsRow.domain false) (Rows.beliefFollowsSpec.post enc Try.prog Try.f6 false true false false) := by
  refine law_lifted (C := Try.checked) own laidOut started (by kernel_rfl) Try.func6 4 rfl Try.underlying4 (by kernel_rfl) rfl H enc
    (fun ds h => by match ds, h with | [d0, d1], _ => rfl)
    (ChangeSpec.witness6 (enc := enc) (C := Try.checked) false ⟨#[], #[.agg #[.int .u8 0, .int .u8 0], .slice none 0 0], []⟩ 8 (by kernel_rfl) (by kernel_rfl) (by kernel_rfl) (by kernel_rfl)) ?_
  intro W base args ds ps hval hA hsz
  have hA' : DataW.TrodAll enc Try.prog W 0 (fun _ => true) true Try.f6.params.toList args.toList ds ps := hA
  have hval' : ∀ (j : Nat) t v, Try.f6.params[j]? = some t → args[j]? = some v → Value.okWide Try.prog W .any base t v := hval
  rw [Try.params6] at hA' hval'
  obtain ⟨v0, vs0, d0, ds0, p0, q0, hargs, rfl, rfl, h0, r0⟩ := trodAll_cons hA'
  obtain ⟨v1, vs1, d1, ds1, p1, q1, rfl, rfl, rfl, h1, r1⟩ := trodAll_cons r0
  obtain ⟨rfl, rfl, rfl⟩ := trodAll_nil r1
  obtain rfl : args = #[v0, v1] := by cases args; simp_all
  obtain ⟨n0, t0, rfl, hn0, ht0⟩ := open_u8x2 (hval' 0 22 v0 rfl rfl) h0
  obtain ⟨l1, q1x, cap1, rfl, hl1, hu1⟩ := open_u8s (hval' 1 23 v1 rfl rfl) h1
  exact follows_walk n0 t0 l1 q1x cap1 W hn0 ht0 hl1 hu1

theorem beliefFollows_over : Rows.beliefFollowsRow.holds Try.pinned (OpenSpec.ofChange Rows.beliefFollowsSpec) :=
  OpenClaim.holds_of_wide 6 Try.f6 rfl rfl rfl rfl rfl rfl rfl ⟨rfl, rfl, rfl, rfl, rfl⟩ rfl rfl rfl rfl rfl (by kernel_rfl) Try.func6 (by kernel_rfl)
    (of_decide_eq_true (by kernel_rfl)) (by unfold Func.isWrapper; first | (rw [if_pos (by decide +kernel)]; kernel_rfl) | (rw [if_neg (by decide +kernel)]; exact ⟨rfl, rfl⟩))
    (fun os started H enc _ => beliefFollows_lifted os started H enc)

/-- THE STATEMENT. -/
theorem beliefFollows_holds : Rows.BeliefFollowsSaid := beliefFollows_over
#print axioms beliefFollows_holds
end Go.Proofs.Ytnnkldidlgiipaa
