/- BeliefPlaces: a belief keeps the last floor that was seen, and has the direction and the door of the last observation. The law's function answers true at every argument. Conditions: none. -/
import Derived.Test.YtnnkldidlgiipaaSane19
import Derived.Test.YtnnkldidlgiipaaLawState
import Derived.Test.YtnnkldidlgiipaaArgs
import Derived.Test.YtnnkldidlgiipaaFrame
import Derived.Deep.RegionHeld3
namespace Go.Proofs.Ytnnkldidlgiipaa
open Go.ChangeShapes Go.WideShapes Go.ChangeAt Go.RowKit
attribute [local go_sem] run_store_float
theorem newB_ok (b : BldV) (hv : validN b = 0) (hf : 2 ≤ b.fl) (hc : 1 ≤ b.cars.length) : stateB b 0 newB = true :=
  (stateB_iff _ _ _).2 ⟨(headB_iff _ _ _).2 ⟨hv, ⟨by omega, by omega⟩, ⟨by show (-1 : Int) ≤ -1; omega, by show (-1 : Int) ≤ b.fl - 1; omega⟩, by show (0 : Int) ≤ 0 ∧ (0 : Int) ≤ 3; omega, by show (0 : Int) ≤ 0 ∧ (0 : Int) ≤ 3; omega, by show (0 : Int) ≤ 0 ∧ (0 : Int) ≤ 1000000; omega, fun _ => rfl⟩, fun d h => (by simp [newB] at h), by simp [newB]⟩
def obsF (b : BldV) (l : List MarkV) : BelV := l.foldl (fun s m => observeV b 0 s m.2) newB
theorem obsF_snoc (b : BldV) (l : List MarkV) (i : Nat) (m : MarkV) (h : l[i]? = some m) : obsF b (l.take (i + 1)) = observeV b 0 (obsF b (l.take i)) m.2 := by
  rw [List.take_add_one, h]
  simp [obsF]
theorem obsF_ok (b : BldV) (L : List MarkV) (hs : stateB b 0 newB = true) (ho : ∀ m ∈ L, obsB b.fl m.2 = true) : ∀ i, stateB b 0 (obsF b (L.take i)) = true ∧ (obsF b (L.take i)).du.length ≤ 0 := by
  intro i
  induction i with
  | zero => exact ⟨hs, by simp [obsF, newB]⟩
  | succ i ih =>
    cases h : L[i]? with
    | none => rw [List.take_add_one, h]; simpa using ih
    | some m =>
      rw [obsF_snoc b L i m h]
      refine ⟨observe_state b 0 _ m.2 ?_, Nat.le_trans (obs_len b 0 _ m.2) ih.2⟩
      unfold obsOk
      rw [ih.1, ho m (List.mem_of_getElem? h)]; rfl
theorem drewA2 (w : World) (o : Obj) : Below w.heap.size w (w.alloc o).drew := ⟨rfl, rfl, rfl, (below1' w o).size, (below1' w o).block⟩
theorem setB2 {B g i : Nat} {w W : World} {u : Value} (h : Below B w W) (hg : B ≤ g) : Below B w (W.setCell ⟨g, i, none⟩ u) := h.setCell (p := ⟨g, i, none⟩) hg u
theorem RdM.at {w : World} {q : Option Addr} {l : List MarkV} (h : RdM w q l) {i : Nat} {m : MarkV} (hi : l[i]? = some m) : ∃ A, q = some A ∧ A.block < w.heap.size ∧
    w.cell? ⟨(A.add (i * 5)).block, (A.add (i * 5)).off + 2, none⟩ = some (.int .i64 m.2.1) ∧ w.cell? ⟨(A.add (i * 5)).block, (A.add (i * 5)).off + 3, none⟩ = some (.int .i64 m.2.2.1) ∧ w.cell? ⟨(A.add (i * 5)).block, (A.add (i * 5)).off + 4, none⟩ = some (.int .i64 m.2.2.2) := by
  obtain ⟨A, hq, hA, hc⟩ := h i m hi
  refine ⟨A, hq, hA, ?_, ?_, ?_⟩
  · rw [← addr_one]; exact hc 2 _ rfl
  · rw [← addr_one]; exact hc 3 _ rfl
  · rw [← addr_one]; exact hc 4 _ rfl
set_option maxHeartbeats 8000000 in
set_option maxRecDepth 100000 in
theorem places_walk (n t : Nat) (l : List Nat) (ql : Option Addr) (capl : Nat) (w : World) (hn : n < 256) (ht : t < 256) (hl : l.length ≤ maxLen) (hu : RdU w ql l) :
    Calls Try.prog 4 #[.agg #[.int .u8 n, .int .u8 t], .slice ql l.length capl] w fun e w' => e = .returned (.bool true) ∧ Below w.heap.size w w' := by
  have X0 : Blk (w.alloc (.cells #[.int .u8 n, .int .u8 t] 22)) w.heap.size [.int .u8 n, .int .u8 t] := by
    have hx := Blk.new w [.int .u8 n, .int .u8 t] 22
    exact hx
  have XW : Below w.heap.size w (w.alloc (.cells #[.int .u8 n, .int .u8 t] 22)) := below1' w _
  have HWW := Lib.hid XW; have HX0 := Lib.hid X0
  clear XW X0
  have HU := Lib.hid (hu.next HWW.out)
  have HL2 := Lib.hid hl
  clear hu
  obtain ⟨nl, hnl⟩ : ∃ n, n = l.length := ⟨_, rfl⟩
  have HNL := Lib.hid hnl
  rw [← hnl] at hl ⊢
  clear hnl
  go_enter Try.func4, Try.ntmps4
  go_upto_region 1 with fail
  generalize (w.alloc (.cells #[.int .u8 n, .int .u8 t] 22)) = w0 at *
  have HW := Lib.hid (Below.refl w0.heap.size w0)
  have hz0 := HX0.out.lt
  have k0 := (HX0.out).cell 0 _ rfl
  have k1 := (HX0.out).cell 1 _ rfl
  go_wp2_with fail
  refine (b18_val2 n t _ hn ht).mono ?_
  rintro e w1 ⟨g, cap, rfl, hg0, hg1, hown, hr, hb⟩
  have HL1 : Hid ((b18 n t).cars.length ≤ 1000) := Lib.hid (by show (cars18 n t).length ≤ 1000; rw [cars18_len]; have := (k18_range n).2; omega)
  have HV := Lib.hid (valid18 n t)
  have HSL : Hid (∀ c ∈ (b18 n t).cars, -9223372036854775808 ≤ c.sl ∧ c.sl < 9223372036854775807) := Lib.hid (slack18 n t)
  have hfl : 2 ≤ (b18 n t).fl ∧ (b18 n t).fl ≤ 6 := fl18_range n
  have hcl : 1 ≤ (b18 n t).cars.length := by show 1 ≤ (cars18 n t).length; rw [cars18_len]; exact (k18_range n).1
  obtain ⟨hf2, hf6⟩ := hfl
  have HR1 := Lib.hid hr; have HB1 := Lib.hid (HW.out.trans (hb.mono HW.out.size))
  clear hown hr hb HW k0 k1
  generalize b18 n t = b at *
  go_upto_region 2 with fail
  have B5 := Blk.new w1 [.int .i64 b.fl, .int .i64 b.deb, .int .i64 b.room, .int .i64 b.park, .float .f64 b.em, .float .f64 b.fu, .float .f64 b.ov, .slice (some ⟨g, 0, none⟩) b.cars.length cap] 27
  have hb5 := below1' w1 (.cells #[.int .i64 b.fl, .int .i64 b.deb, .int .i64 b.room, .int .i64 b.park, .float .f64 b.em, .float .f64 b.fu, .float .f64 b.ov, .slice (some ⟨g, 0, none⟩) b.cars.length cap] 27)
  change Blk (w1.alloc (.cells #[.int .i64 b.fl, .int .i64 b.deb, .int .i64 b.room, .int .i64 b.park, .float .f64 b.em, .float .f64 b.fu, .float .f64 b.ov, .slice (some ⟨g, 0, none⟩) b.cars.length cap] 27)) _ _ at B5
  have HB3 := Lib.hid (HB1.out.trans (hb5.mono HB1.out.size))
  have HR3 := Lib.hid (HR1.out.next hb5)
  have HB5 := Lib.hid B5
  clear B5 hb5 HB1 HR1
  generalize w1.alloc (.cells #[.int .i64 b.fl, .int .i64 b.deb, .int .i64 b.room, .int .i64 b.park, .float .f64 b.em, .float .f64 b.fu, .float .f64 b.ov, .slice (some ⟨g, 0, none⟩) b.cars.length cap] 27) = w2 at *
  generalize w1.heap.size = g5 at *
  have hzz5 : g5 < w2.heap.size := HB5.out.lt
  have ht := trace_any b (some ⟨g, 0, none⟩) cap l ql capl w2 HL2.out hf2 (by omega) (HU.out.next HB3.out)
  rw [← HNL.out] at ht
  have HTR := Lib.hid ht
  clear ht
  have k0 := (HB5.out).cell 0 _ rfl
  have k1 := (HB5.out).cell 1 _ rfl
  have k2 := (HB5.out).cell 2 _ rfl
  have k3 := (HB5.out).cell 3 _ rfl
  have k4 := (HB5.out).cell 4 _ rfl
  have k5 := (HB5.out).cell 5 _ rfl
  have k6 := (HB5.out).cell 6 _ rfl
  have k7 := (HB5.out).cell 7 _ rfl
  go_wp2_with fail
  refine HTR.out.mono ?_
  rintro e w3 ⟨v, L, rfl, hL150, hobs, hown, hb3⟩
  obtain ⟨qm, capm, rfl⟩ := row_form hown
  have HM := Lib.hid (rdM_of_owns hown rfl)
  have HB4 := Lib.hid (HB3.out.trans (hb3.mono HB3.out.size))
  have HB53 := Lib.hid (HB5.out.next hb3)
  have HR4 := Lib.hid (HR3.out.next hb3)
  have HOK := Lib.hid (obsF_ok b L (newB_ok b HV.out hf2 hcl) hobs)
  have HOBS := Lib.hid hobs
  have hz53 : g5 < w3.heap.size := HB53.out.lt
  clear hobs hown hb3 HTR HB5 HR3 HB3 k0 k1 k2 k3 k4 k5 k6 k7 HU
  obtain ⟨N, hN⟩ : ∃ N, N = L.length := ⟨_, rfl⟩
  have HN := Lib.hid hN
  rw [← hN] at hL150 ⊢
  clear hN
  go_wp2_with fail
  refine (new_any _).mono ?_
  rintro e w4 ⟨rfl, hb4⟩
  have HB5b := Lib.hid (HB4.out.trans (hb4.mono HB4.out.size))
  have HB54 := Lib.hid (HB53.out.next hb4)
  have HR5 := Lib.hid (HR4.out.next hb4)
  have HM4 := Lib.hid (HM.out.next hb4)
  clear hb4 HM HB4 HB53 HR4
  go_upto_region 4 with fail
  have B7 := Blk.new w4 (newB.cells none 0) 35
  have hb7 := below1' w4 (.cells #[.int .i64 newB.fl, .int .i64 newB.dir, .int .i64 newB.door, .slice none newB.du.length 0, .int .i64 newB.still, .bool newB.late] 35)
  change Blk (w4.alloc (.cells #[.int .i64 newB.fl, .int .i64 newB.dir, .int .i64 newB.door, .slice none newB.du.length 0, .int .i64 newB.still, .bool newB.late] 35)) _ _ at B7
  have HS := Lib.hid B7
  have HW5 := Lib.hid hb7
  have hg7 : w4.heap.size ≤ w4.heap.size := Nat.le_refl _
  have hz54 : g5 < w4.heap.size := HB54.out.lt
  clear B7 hb7
  generalize hw5 : w4.alloc (.cells #[.int .i64 newB.fl, .int .i64 newB.dir, .int .i64 newB.door, .slice none newB.du.length 0, .int .i64 newB.still, .bool newB.late] 35) = w5 at *
  clear hw5
  clear hg7
  generalize hgg : w4.heap.size = g7 at HS ⊢
  have hg7' : w4.heap.size ≤ g7 := by omega
  have HGG := Lib.hid hgg
  clear hgg
  go_wp2_with fail
  go_loopw [8, 9] (fun v8 v9 wr => ∃ (k : Nat) (q9 : Option Addr) (cap9 : Nat), k ≤ N ∧ v9 = .int .i64 k ∧ v8 = .int .i64 (obsF b (L.take k)).fl ∧ Blk wr g7 ((obsF b (L.take k)).cells q9 cap9) ∧ RdD wr q9 (obsF b (L.take k)).du ∧ Exc g7 w5 wr) (fun _ v _ => N - (intOf v).toNat)
  case atStart => exact ⟨0, none, 0, by omega, rfl, rfl, HS.out, (fun i d h => by simp [obsF, newB] at h), Exc.refl _ _⟩
  case round =>
    obtain ⟨k, q9, cap9, hk, rfl, rfl, hblk, hrd, hexc⟩ := hrel
    have HWr := Lib.hid (HW5.out.trans (hexc.below hg7' HW5.out.size))
    have HE := Lib.hid hexc; have HSr := Lib.hid hblk; have HDr := Lib.hid hrd
    clear hexc hblk hrd HS
    have BB := HB54.out.next HWr.out
    by_cases hlt : k < N
    · have hd : decide ((k : Int) < (N : Int)) = true := by simp; omega
      obtain ⟨m, hm⟩ : ∃ m, L[k]? = some m := ⟨_, List.getElem?_eq_getElem (by rw [← HN.out]; exact hlt)⟩
      have HFS := Lib.hid (obsF_snoc b L k m hm)
      obtain ⟨hst, hdu⟩ := HOK.out k
      have hom := HOBS.out m (List.mem_of_getElem? hm)
      have hok : obsOk b 0 (obsF b (L.take k)) m.2 = true := by unfold obsOk; rw [hst, hom]; rfl
      obtain ⟨A, hqA, hA, d2, d3, d4⟩ := (HM4.out.next HWr.out).at hm
      have hA4 : A.block < w4.heap.size := by
        obtain ⟨A', h1, h2, _⟩ := HM4.out k m hm
        rw [hqA] at h1; cases h1; exact h2
      subst hqA
      have hv : observeV b 0 (obsF b (L.take k)) m.2 = ⟨if 0 ≤ m.2.1 then m.2.1 else (obsF b (L.take k)).fl, m.2.2.1, m.2.2.2, (agedV b 0 (obsF b (L.take k)) (showsV b.fl m.2)).du, stillV (obsF b (L.take k)) m.2, (agedV b 0 (obsF b (L.take k)) (showsV b.fl m.2)).late⟩ := by
        unfold observeV; rw [if_pos hok]
      have HOC : Hid (∀ W, Below wr.heap.size wr W → Calls Try.prog 10 #[cvB b (some ⟨g, 0, none⟩) cap, .int .i64 0, cvS (obsF b (L.take k)) q9 cap9, .agg #[.int .i64 m.2.1, .int .i64 m.2.2.1, .int .i64 m.2.2.2]] W fun e w' => ∃ v, e = .returned v ∧ Below W.heap.size W w' ∧ belE W.heap.size (observeV b 0 (obsF b (L.take k)) m.2) 0 v w') := by
        refine Lib.hid fun W hW => ?_
        have h := observe_any b (some ⟨g, 0, none⟩) cap 0 (obsF b (L.take k)) q9 cap9 m.2 W HL1.out (by omega) ((HR5.out.next HWr.out).next hW) (HDr.out.next hW)
        rw [hok] at h
        exact h
      rw [hv] at HOC HFS
      clear hv hok hst hom
      generalize hF : (if 0 ≤ m.2.1 then m.2.1 else (obsF b (L.take k)).fl) = F at *
      have HF := Lib.hid hF
      clear hF
      generalize (agedV b 0 (obsF b (L.take k)) (showsV b.fl m.2)).du = D at *
      generalize stillV (obsF b (L.take k)) m.2 = st at *
      generalize (agedV b 0 (obsF b (L.take k)) (showsV b.fl m.2)).late = lt at *
      generalize obsF b (L.take k) = V at *
      have k0 := (BB).cell 0 _ rfl
      have k1 := (BB).cell 1 _ rfl
      have k2 := (BB).cell 2 _ rfl
      have k3 := (BB).cell 3 _ rfl
      have k4 := (BB).cell 4 _ rfl
      have k5 := (BB).cell 5 _ rfl
      have k6 := (BB).cell 6 _ rfl
      have k7 := (BB).cell 7 _ rfl
      have j0 := (HSr.out).cell 0 _ rfl
      have j1 := (HSr.out).cell 1 _ rfl
      have j2 := (HSr.out).cell 2 _ rfl
      have j3 := (HSr.out).cell 3 _ rfl
      have j4 := (HSr.out).cell 4 _ rfl
      have j5 := (HSr.out).cell 5 _ rfl
      have hz7' : g7 < wr.heap.size := HSr.out.lt
      have hz5' : g5 < wr.heap.size := Nat.lt_of_lt_of_le hz54 HWr.out.size
      have hiw : (0 : Int) ≤ (k : Int) := by omega
      have hiw' : (k : Int) < (N : Int) := by omega
      have HSS : Hid (∀ W, Below wr.heap.size wr W → W.cell? ⟨g5, 0, none⟩ = some (.int .i64 b.fl) ∧ W.cell? ⟨g5, 1, none⟩ = some (.int .i64 b.deb) ∧ W.cell? ⟨g5, 2, none⟩ = some (.int .i64 b.room) ∧ W.cell? ⟨g5, 3, none⟩ = some (.int .i64 b.park) ∧ W.cell? ⟨g5, 4, none⟩ = some (.float .f64 b.em) ∧ W.cell? ⟨g5, 5, none⟩ = some (.float .f64 b.fu) ∧ W.cell? ⟨g5, 6, none⟩ = some (.float .f64 b.ov) ∧ W.cell? ⟨g5, 7, none⟩ = some (.slice (some ⟨g, 0, none⟩) b.cars.length cap) ∧ W.cell? ⟨g7, 0, none⟩ = some (.int .i64 V.fl) ∧ W.cell? ⟨g7, 1, none⟩ = some (.int .i64 V.dir) ∧ W.cell? ⟨g7, 2, none⟩ = some (.int .i64 V.door) ∧ W.cell? ⟨g7, 3, none⟩ = some (.slice q9 V.du.length cap9) ∧ W.cell? ⟨g7, 4, none⟩ = some (.int .i64 V.still) ∧ W.cell? ⟨g7, 5, none⟩ = some (.bool V.late) ∧ W.cell? ⟨(A.add (k * 5)).block, (A.add (k * 5)).off + 2, none⟩ = some (.int .i64 m.2.1) ∧ W.cell? ⟨(A.add (k * 5)).block, (A.add (k * 5)).off + 3, none⟩ = some (.int .i64 m.2.2.1) ∧ W.cell? ⟨(A.add (k * 5)).block, (A.add (k * 5)).off + 4, none⟩ = some (.int .i64 m.2.2.2)) := Lib.hid fun W hW => ⟨cell_later hW k0, cell_later hW k1, cell_later hW k2, cell_later hW k3, cell_later hW k4, cell_later hW k5, cell_later hW k6, cell_later hW k7, cell_later hW j0, cell_later hW j1, cell_later hW j2, cell_later hW j3, cell_later hW j4, cell_later hW j5, cell_later hW d2, cell_later hW d3, cell_later hW d4⟩
      clear BB
      go_upto_region 8 with fail
      go_cut [10, 11] from 28 to 37 (fun v10 v11 wx => ∃ g10 q1 cap1, v10 = .pointer (some ⟨g10, 0, none⟩) ∧ v11 = .int .i64 0 ∧ wr.heap.size ≤ g10 ∧ (∀ A, q1 = some A → wr.heap.size ≤ A.block) ∧ Blk wx g10 [.int .i64 F, .int .i64 m.2.2.1, .int .i64 m.2.2.2, .slice q1 D.length cap1, .int .i64 st, .bool lt] ∧ RdD wx q1 D ∧ Below wr.heap.size wr wx)
      case first =>
        go_region_held3 (fun W : World => W.cell? ⟨g5, 0, none⟩ = some (.int .i64 b.fl) ∧ W.cell? ⟨g5, 1, none⟩ = some (.int .i64 b.deb) ∧ W.cell? ⟨g5, 2, none⟩ = some (.int .i64 b.room) ∧ W.cell? ⟨g5, 3, none⟩ = some (.int .i64 b.park) ∧ W.cell? ⟨g5, 4, none⟩ = some (.float .f64 b.em) ∧ W.cell? ⟨g5, 5, none⟩ = some (.float .f64 b.fu) ∧ W.cell? ⟨g5, 6, none⟩ = some (.float .f64 b.ov) ∧ W.cell? ⟨g5, 7, none⟩ = some (.slice (some ⟨g, 0, none⟩) b.cars.length cap) ∧ W.cell? ⟨g7, 0, none⟩ = some (.int .i64 V.fl) ∧ W.cell? ⟨g7, 1, none⟩ = some (.int .i64 V.dir) ∧ W.cell? ⟨g7, 2, none⟩ = some (.int .i64 V.door) ∧ W.cell? ⟨g7, 3, none⟩ = some (.slice q9 V.du.length cap9) ∧ W.cell? ⟨g7, 4, none⟩ = some (.int .i64 V.still) ∧ W.cell? ⟨g7, 5, none⟩ = some (.bool V.late) ∧ W.cell? ⟨(A.add (k * 5)).block, (A.add (k * 5)).off + 2, none⟩ = some (.int .i64 m.2.1) ∧ W.cell? ⟨(A.add (k * 5)).block, (A.add (k * 5)).off + 3, none⟩ = some (.int .i64 m.2.2.1) ∧ W.cell? ⟨(A.add (k * 5)).block, (A.add (k * 5)).off + 4, none⟩ = some (.int .i64 m.2.2.2))
          ((refine HSS.out _ ?_
            repeat (with_reducible refine setB2 ?_ ?_; rotate_left; (first | exact Nat.le_refl _ | exact T6.out.size))
            first
              | with_reducible exact T6.out
              | with_reducible exact drewB2 wr
              | with_reducible exact drewA2 wr _
              | (with_reducible refine below_al2 ?_ (Nat.le_refl _) _
                 first
                   | with_reducible exact T6.out
                   | with_reducible exact drewB2 wr)))
          (first
            | (go_at_call 10
               refine (HOC.out _ ?_).mono ?_
               · first
                   | with_reducible exact drewB2 wr
                   | with_reducible exact drewA2 wr _
                   | with_reducible exact below_al2 (drewB2 wr) (Nat.le_refl _) _
               rintro e w6 ⟨_, rfl, hb6, q1, cap1, rfl, hrd, hlo⟩
               have T6 : Hid (Below wr.heap.size wr w6) := Lib.hid (by first | with_reducible exact (drewB2 wr).trans (hb6.mono (drewB2 wr).size) | with_reducible exact (drewA2 wr _).trans (hb6.mono (drewA2 wr _).size) | with_reducible exact (below_al2 (drewB2 wr) (Nat.le_refl _) _).trans (hb6.mono (below_al2 (drewB2 wr) (Nat.le_refl _) _).size))
               have c6 := base_cell hb6
               have z6 := base_frozen2 hb6))
        all_goals
          go_wp2_with fail
          go_meet
          refine ⟨_, q1, cap1, rfl, rfl, ?_⟩
          first
            | (show wr.heap.size ≤ w6.heap.size ∧ _
               obtain ⟨e1, e2, e3, e4⟩ := endA2 (V := ⟨F, m.2.2.1, m.2.2.2, D, st, lt⟩) (cap7 := cap1) T6.out hrd
               exact ⟨e1, fun A hA => hlo A hA, e2, e3, e4⟩)
            | (show wr.heap.size ≤ wr.heap.size ∧ _
               have hB3 : Blk (wr.alloc (.cells #[.int .i64 0, .int .i64 0, .int .i64 0, .slice none 0 0, .int .i64 0, .bool false] 35)).drew wr.heap.size [.int .i64 0, .int .i64 0, .int .i64 0, .slice none 0 0, .int .i64 0, .bool false] := Blk.new wr [.int .i64 0, .int .i64 0, .int .i64 0, .slice none 0 0, .int .i64 0, .bool false] 35
               have hlo2 : ∀ A, q1 = some A → wr.heap.size < A.block := fun A hA => by
                 have h : (wr.alloc (.cells #[.int .i64 0, .int .i64 0, .int .i64 0, .slice none 0 0, .int .i64 0, .bool false] 35)).heap.size ≤ A.block := hlo A hA
                 rw [World.size_alloc] at h
                 exact h
               obtain ⟨e1, e2, e3, e4⟩ := endB2 (V := ⟨F, m.2.2.1, m.2.2.2, D, st, lt⟩) (g7 := wr.heap.size) (cap7 := cap1) T6.out hrd (Nat.le_refl _) (hB3.next hb6) hlo2
               exact ⟨e1, fun A hA => Nat.le_of_lt (hlo2 A hA), e2, e3, e4⟩)
      case rest =>
        obtain ⟨g10, q1, cap1, rfl, rfl, hg10, hlo1, hB10, hrd1, hb6⟩ := hcut
        generalize hwx : wc = w6 at *
        clear hwx HOC HSS k0 k1 k2 k3 k4 k5 k6 k7 j0 j1 j2 j3 j4 j5
        have hlo7 : ∀ A, q1 = some A → A.block ≠ g7 := fun A hA => by have := hlo1 A hA; omega
        have HL7 := Lib.hid hlo7
        have H10 := Lib.hid hB10; have HD10 := Lib.hid hrd1; have HW6 := Lib.hid hb6
        have e2 := cell_later hb6 d2; have e3 := cell_later hb6 d3; have e4 := cell_later hb6 d4
        clear hlo1 hlo7 hB10 hrd1 hb6 d2 d3 d4
        go_upto_if 44 with fail
        go_cut [8] from 38 to 50 (fun v8 wx => v8 = .int .i64 F ∧ wx = w6)
        case first =>
          by_cases h0 : 0 ≤ m.2.1
          · have HE : Hid (F = m.2.1) := Lib.hid (by rw [← HF.out, if_pos h0])
            go_wp2_with fail
            go_meet
            exact ⟨by rw [HE.out], rfl⟩
          · have HE : Hid (F = V.fl) := Lib.hid (by rw [← HF.out, if_neg h0])
            have h0' : m.2.1 < 0 := by omega
            go_wp2_with fail
            go_meet
            exact ⟨by rw [HE.out], rfl⟩
        case rest =>
          obtain ⟨rfl, hwq⟩ := hcut
          subst hwq
          go_upto_region 11 with fail
          have r0 := H10.out.reg 0 _ rfl; have r1 := H10.out.reg 1 _ rfl; have r2 := H10.out.reg 2 _ rfl
          have HE3 := Lib.hid e3; have HE4 := Lib.hid e4
          have s3 : ∀ W, Grow.Cl wc.drew W → W.cell? ⟨(A.add (k * 5)).block, (A.add (k * 5)).off + 3, none⟩ = some (.int .i64 m.2.2.1) := fun W hW => cell_later (Grow.Cl.base hW) HE3.out
          have s4 : ∀ W, Grow.Cl wc.drew W → W.cell? ⟨(A.add (k * 5)).block, (A.add (k * 5)).off + 4, none⟩ = some (.int .i64 m.2.2.2) := fun W hW => cell_later (Grow.Cl.base hW) HE4.out
          clear e2 e3 e4
          (refine Grow.wp_region Grow.noPlan Grow.noPlan_stable (by kernel_rfl) (by kernel_rfl) ?_; intro opsq Hopsq)
          repeat (first | (refine Grow.lex_move rfl ?_ rfl ?_; (· first | exact Grow.wanted_none | (rw [Hopsq.out]; rfl)); intro K hK; simp only [Grow.put_lit, Grow.setAt, Grow.eval_lit, Grow.ev]; refine hK _ _ ?_; clear hK K) | (refine Grow.lex_assign rfl ?_ rfl ?_; (· first | exact Grow.wanted_none | (rw [Hopsq.out]; rfl)); intro K hK; simp only [Grow.put_lit, Grow.setAt, Grow.eval_lit, Grow.ev]; refine hK _ _ ?_; clear hK K) | (refine Grow.lex_plain rfl rfl ?_ rfl ?_; (· first | exact Grow.wanted_none | (rw [Hopsq.out]; rfl)); apply Exists.intro; refine ⟨fun wq hCq _ => ?_, ?_⟩; (· (go_wp2_with fail; refine ⟨rfl, Below.refl _ _, ?_⟩; simp only [Grow.getD_lit, Grow.nth]; rfl)); intro K hK; simp only [Grow.put_lit, Grow.setAt]; refine hK _ _ ?_; clear hK K) | (refine Grow.lex_nilCheck rfl rfl ?_ rfl ?_; (· first | exact Grow.wanted_none | (rw [Hopsq.out]; rfl)); intro K hK; simp only [Grow.put_lit, Grow.setAt]; refine hK _ _ ?_; clear hK K) | (refine Grow.lex_skip ?_ ?_; (· (rw [Hopsq.out]; rfl)); intro K hK; simp only [Grow.put_lit, Grow.setAt]; refine hK _ _ ?_; clear hK K))
          (refine Grow.lex_nil ?_; intro wz hbz _; replace hbz := Grow.Cl.base hbz; clear Hopsq opsq)
          have HWz := Lib.hid (HW6.out.trans (hbz.mono HW6.out.size))
          have HBz := Lib.hid (H10.out.next hbz)
          have HDz := Lib.hid (HD10.out.next hbz)
          have HEz := Lib.hid (HE.out.step HWz.out)
          have HSz := Lib.hid (HSr.out.next HWz.out)
          clear hbz r0 r1 r2 s3 s4 HW6 H10 HD10
          have x0 := (HBz.out).cell 0 _ rfl
          have x1 := (HBz.out).cell 1 _ rfl
          have x2 := (HBz.out).cell 2 _ rfl
          have x3 := (HBz.out).cell 3 _ rfl
          have x4 := (HBz.out).cell 4 _ rfl
          have x5 := (HBz.out).cell 5 _ rfl
          have y0 := (HSz.out).cell 0 _ rfl
          have y1 := (HSz.out).cell 1 _ rfl
          have y2 := (HSz.out).cell 2 _ rfl
          have y3 := (HSz.out).cell 3 _ rfl
          have y4 := (HSz.out).cell 4 _ rfl
          have y5 := (HSz.out).cell 5 _ rfl
          have f0 := HSz.out.fr 0; have f1 := HSz.out.fr 1; have f2 := HSz.out.fr 2; have f3 := HSz.out.fr 3; have f4 := HSz.out.fr 4; have f5 := HSz.out.fr 5
          go_wp2_with fail
          refine ⟨⟨k + 1, q1, cap1, by omega, by go_num, by rw [HFS.out], ?_, ?_, (((((HEz.out.set 0 _).set 1 _).set 2 _).set 3 _).set 4 _).set 5 _⟩, by simp [intOf]; omega⟩
          · rw [HFS.out]
            exact (((((HSz.out.set 0 (.int .i64 F)).set 1 (.int .i64 m.2.2.1)).set 2 (.int .i64 m.2.2.2)).set 3 (.slice q1 D.length cap1)).set 4 (.int .i64 st)).set 5 (.bool lt)
          · rw [HFS.out]
            exact (((((HDz.out.set HL7.out).set HL7.out).set HL7.out).set HL7.out).set HL7.out).set HL7.out
    · have hd : decide ((k : Int) < (N : Int)) = false := by simp; omega
      go_wp2_with fail
      refine (sane19_any _).mono ?_
      rintro e w9 ⟨rfl, hb9⟩
      have HW9 := Lib.hid (HB5b.out.trans ((HWr.out.trans (hb9.mono HWr.out.size)).mono HB5b.out.size))
      clear hb9 BB
      go_wp2_with fail
      go_ret
      exact ⟨rfl, HWW.out.trans (HW9.out.mono HWW.out.size)⟩
set_option maxHeartbeats 1000000 in
set_option maxRecDepth 100000 in
theorem beliefPlaces_lifted (os : Os) (started : os.Started) (H : Type) (enc : TypeId × Value → H) :
    ReturnsInHanded {} Try.checked os 4 .any (Rows.beliefPlacesSpec.pre6 enc Try.prog Try.f4 Rows.beliefPlacesRow.domain false) (Rows.beliefPlacesSpec.post enc Try.prog Try.f4 false true false false) := by
  refine law_lifted (C := Try.checked) own laidOut started (by kernel_rfl) Try.func4 4 rfl Try.underlying4 (by kernel_rfl) rfl H enc
    (fun ds h => by match ds, h with | [d0, d1], _ => rfl)
    (ChangeSpec.witness6 (enc := enc) (C := Try.checked) false ⟨#[], #[.agg #[.int .u8 0, .int .u8 0], .slice none 0 0], []⟩ 8 (by kernel_rfl) (by kernel_rfl) (by kernel_rfl) (by kernel_rfl)) ?_
  intro W base args ds ps hval hA hsz
  have hA' : DataW.TrodAll enc Try.prog W 0 (fun _ => true) true Try.f4.params.toList args.toList ds ps := hA
  have hval' : ∀ (j : Nat) t v, Try.f4.params[j]? = some t → args[j]? = some v → Value.okWide Try.prog W .any base t v := hval
  rw [Try.params4] at hA' hval'
  obtain ⟨v0, vs0, d0, ds0, p0, q0, hargs, rfl, rfl, h0, r0⟩ := trodAll_cons hA'
  obtain ⟨v1, vs1, d1, ds1, p1, q1, rfl, rfl, rfl, h1, r1⟩ := trodAll_cons r0
  obtain ⟨rfl, rfl, rfl⟩ := trodAll_nil r1
  obtain rfl : args = #[v0, v1] := by cases args; simp_all
  obtain ⟨n0, t0, rfl, hn0, ht0⟩ := open_u8x2 (hval' 0 22 v0 rfl rfl) h0
  obtain ⟨l1, q1x, cap1, rfl, hl1, hu1⟩ := open_u8s (hval' 1 23 v1 rfl rfl) h1
  exact places_walk n0 t0 l1 q1x cap1 W hn0 ht0 hl1 hu1

theorem beliefPlaces_over : Rows.beliefPlacesRow.holds Try.pinned (OpenSpec.ofChange Rows.beliefPlacesSpec) :=
  OpenClaim.holds_of_wide 4 Try.f4 rfl rfl rfl rfl rfl rfl rfl ⟨rfl, rfl, rfl, rfl, rfl⟩ rfl rfl rfl rfl rfl (by kernel_rfl) Try.func4 (by kernel_rfl)
    (of_decide_eq_true (by kernel_rfl)) (by unfold Func.isWrapper; first | (rw [if_pos (by decide +kernel)]; kernel_rfl) | (rw [if_neg (by decide +kernel)]; exact ⟨rfl, rfl⟩))
    (fun os started H enc _ => beliefPlaces_lifted os started H enc)

/-- THE STATEMENT. -/
theorem beliefPlaces_holds : Rows.BeliefPlacesSaid := beliefPlaces_over
#print axioms beliefPlaces_holds
end Go.Proofs.Ytnnkldidlgiipaa
