/- The walk over overlayref23.Serve. Conditions: cars, an image and views that can be read. -/
import Derived.Test.YtpgcpalemnnbaaaZImgR
import Derived.Test.YtpgcpalemnnbaaaZServe
import Derived.Test.YtpgcpalemnnbaaaZLightR
import Derived.Test.YtpgcpalemnnbaaaZLitLaw
import Derived.Deep.CutBlock
namespace Go.Proofs.Ytpgcpalemnnbaaa
open Go.RowKit
/-- Whether one of the first i cars calls there. -/
def anyC (b : BldV) (V : List ViewV) (f d : Int) (i : Nat) : Bool := (V.take i).any fun v => has (calledC b v) f d
theorem anyC_succ (b : BldV) (V : List ViewV) (f d : Int) (i : Nat) (v : ViewV) (h : V[i]? = some v) : anyC b V f d (i + 1) = (anyC b V f d i || has (calledC b v) f d) := by
  unfold anyC
  rw [List.take_add_one, h, List.any_append]; simp
theorem anyC_mono (b : BldV) (V : List ViewV) (f d : Int) (i n : Nat) (hi : i ≤ n) (h : anyC b V f d i = true) : anyC b V f d n = true := by
  unfold anyC at *
  rw [List.any_eq_true] at *
  obtain ⟨x, hx, hp⟩ := h
  rw [show V.take i = (V.take n).take i by rw [List.take_take, Nat.min_eq_left hi]] at hx
  exact ⟨x, List.mem_of_mem_take hx, hp⟩
theorem has_union_any (c h : CS) (f d : Int) : has (union c h) f d = (has c f d || has h f d) := by
  by_cases hf : 0 ≤ f ∧ f < 32
  · by_cases h1 : d = 1
    · obtain ⟨k, rfl⟩ := Int.eq_ofNat_of_zero_le hf.1
      exact has_union3 c h k d (by omega) (.inl h1)
    · by_cases h2 : d = 2
      · obtain ⟨k, rfl⟩ := Int.eq_ofNat_of_zero_le hf.1
        exact has_union3 c h k d (by omega) (.inr h2)
      · rw [has_dir _ _ _ h1 h2, has_dir _ _ _ h1 h2, has_dir _ _ _ h1 h2]; rfl
  · rw [has_out _ _ _ hf, has_out _ _ _ hf, has_out _ _ _ hf]; rfl
theorem setV_has (b : BldV) (V : List ViewV) (f d : Int) : has (setV b V) f d = anyC b V f d V.length := by
  have h : ∀ i, i ≤ V.length → has (setV b (V.take i)) f d = anyC b V f d i := by
    intro i
    induction i with
    | zero => intro _; exact has_zero3 f d
    | succ i ih =>
      intro hi
      obtain ⟨v, hv⟩ : ∃ v, V[i]? = some v := ⟨_, List.getElem?_eq_getElem (by omega)⟩
      rw [setV_take b V i v hv, has_union_any, ih (by omega), anyC_succ b V f d i v hv]
  have := h V.length (Nat.le_refl _)
  rwa [List.take_length] at this
set_option maxHeartbeats 8000000 in
set_option maxRecDepth 100000 in
theorem refServe_any (b : BldV) (q : Option Addr) (cap : Nat) (m : ImgV) (a : ImgA) (V : List ViewV) (qv : Option Addr) (capv : Nat) (w : World) (hlen : b.cars.length ≤ 1000) (hsl : ∀ c ∈ b.cars, -9223372036854775808 ≤ c.sl ∧ c.sl < 9223372036854775807) (hp : m.ph.length ≤ 1000) (he : m.en.length ≤ 1000) (hr : RdC w q b.cars) (hm : RdM w m a) (hV : RdV w qv V) :
    Calls Try.prog 21 #[cvB b q cap, cvM m a, .slice qv V.length capv] w fun r w' => ∃ v, r = .returned v ∧ w'.ownsRow w.heap.size 65 5 v (servF b m V).length (recCells (servF b m V)) ∧ Below w.heap.size w w' := by
  obtain ⟨i0, hi, hy0, hy1, hy2⟩ := info_parts infoR
  have Hi := Lib.hid hi; have Hz0 := Lib.hid hy0; have Hz1 := Lib.hid hy1; have Hz2 := Lib.hid hy2
  clear hi hy0 hy1 hy2
  have X0 : Blk (w.alloc (.cells #[.int .i64 b.fl, .int .i64 b.deb, .int .i64 b.room, .int .i64 b.park, .float .f64 b.em, .float .f64 b.fu, .float .f64 b.ov, .slice q b.cars.length cap] 28)) w.heap.size [.int .i64 b.fl, .int .i64 b.deb, .int .i64 b.room, .int .i64 b.park, .float .f64 b.em, .float .f64 b.fu, .float .f64 b.ov, .slice q b.cars.length cap] := by
    have hx := Blk.new w [.int .i64 b.fl, .int .i64 b.deb, .int .i64 b.room, .int .i64 b.park, .float .f64 b.em, .float .f64 b.fu, .float .f64 b.ov, .slice q b.cars.length cap] 28
    exact hx
  replace X0 : Blk ((w.alloc (.cells #[.int .i64 b.fl, .int .i64 b.deb, .int .i64 b.room, .int .i64 b.park, .float .f64 b.em, .float .f64 b.fu, .float .f64 b.ov, .slice q b.cars.length cap] 28)).alloc (.cells #[.slice a.p m.ph.length a.pc, .slice a.f m.fg.length a.fc, .slice a.l m.lv.length a.lc, .slice a.e m.en.length a.ec] 56)) w.heap.size [.int .i64 b.fl, .int .i64 b.deb, .int .i64 b.room, .int .i64 b.park, .float .f64 b.em, .float .f64 b.fu, .float .f64 b.ov, .slice q b.cars.length cap] := X0.next (below1' _ _)
  have X1 : Blk ((w.alloc (.cells #[.int .i64 b.fl, .int .i64 b.deb, .int .i64 b.room, .int .i64 b.park, .float .f64 b.em, .float .f64 b.fu, .float .f64 b.ov, .slice q b.cars.length cap] 28)).alloc (.cells #[.slice a.p m.ph.length a.pc, .slice a.f m.fg.length a.fc, .slice a.l m.lv.length a.lc, .slice a.e m.en.length a.ec] 56)) (w.heap.size + 1) [.slice a.p m.ph.length a.pc, .slice a.f m.fg.length a.fc, .slice a.l m.lv.length a.lc, .slice a.e m.en.length a.ec] := by
    have hx := Blk.new (w.alloc (.cells #[.int .i64 b.fl, .int .i64 b.deb, .int .i64 b.room, .int .i64 b.park, .float .f64 b.em, .float .f64 b.fu, .float .f64 b.ov, .slice q b.cars.length cap] 28)) [.slice a.p m.ph.length a.pc, .slice a.f m.fg.length a.fc, .slice a.l m.lv.length a.lc, .slice a.e m.en.length a.ec] 56
    rw [World.size_alloc] at hx
    exact hx
  have XW : Below w.heap.size w (w.alloc (.cells #[.int .i64 b.fl, .int .i64 b.deb, .int .i64 b.room, .int .i64 b.park, .float .f64 b.em, .float .f64 b.fu, .float .f64 b.ov, .slice q b.cars.length cap] 28)) := below1' w _
  replace XW : Below w.heap.size w ((w.alloc (.cells #[.int .i64 b.fl, .int .i64 b.deb, .int .i64 b.room, .int .i64 b.park, .float .f64 b.em, .float .f64 b.fu, .float .f64 b.ov, .slice q b.cars.length cap] 28)).alloc (.cells #[.slice a.p m.ph.length a.pc, .slice a.f m.fg.length a.fc, .slice a.l m.lv.length a.lc, .slice a.e m.en.length a.ec] 56)) := XW.trans ((below1' _ _).mono XW.size)
  have HWW := Lib.hid XW; have HX0 := Lib.hid X0; have HX1 := Lib.hid X1
  clear XW X0 X1
  have HR := Lib.hid (hr.next HWW.out); have HM := Lib.hid (hm.next HWW.out); have HV := Lib.hid (hV.next HWW.out)
  have HL := Lib.hid hlen; have HSL := Lib.hid hsl; have HP := Lib.hid hp; have HE := Lib.hid he
  obtain ⟨n, hn⟩ : ∃ n, n = V.length := ⟨_, rfl⟩
  obtain ⟨k, hk⟩ : ∃ k, k = m.en.length := ⟨_, rfl⟩
  rw [← hk] at he
  have HS : Hid ((imgB b m = true ∧ n = b.cars.length → servF b m V = servL (setV b V) m.en) ∧ (¬ (imgB b m = true ∧ n = b.cars.length) → servF b m V = [])) := Lib.hid (by
    rw [hn]; exact ⟨fun h => if_pos h, fun h => if_neg h⟩)
  rw [← hn]
  have HN := Lib.hid hn; have HK := Lib.hid hk
  clear hr hm hV hlen hsl hn hk hp
  go_enter Try.func21, Try.ntmps21
  go_upto_region 1 with fail
  generalize ((w.alloc (.cells #[.int .i64 b.fl, .int .i64 b.deb, .int .i64 b.room, .int .i64 b.park, .float .f64 b.em, .float .f64 b.fu, .float .f64 b.ov, .slice q b.cars.length cap] 28)).alloc (.cells #[.slice a.p m.ph.length a.pc, .slice a.f m.fg.length a.fc, .slice a.l m.lv.length a.lc, .slice a.e m.en.length a.ec] 56)) = w0 at *
  generalize hg1 : w.heap.size + 1 = g1 at *
  have HG1 := Lib.hid hg1; have hq1 : w.heap.size + 1 ≤ g1 := by omega
  clear hg1
  have HW := Lib.hid (Below.refl w0.heap.size w0)
  have hz0 := HX0.out.lt; have hz1 := HX1.out.lt
  have k0 := (HX0.out).cell 0 _ rfl
  have k1 := (HX0.out).cell 1 _ rfl
  have k2 := (HX0.out).cell 2 _ rfl
  have k3 := (HX0.out).cell 3 _ rfl
  have k4 := (HX0.out).cell 4 _ rfl
  have k5 := (HX0.out).cell 5 _ rfl
  have k6 := (HX0.out).cell 6 _ rfl
  have k7 := (HX0.out).cell 7 _ rfl
  have y0 := (HX1.out).cell 0 _ rfl
  have y1 := (HX1.out).cell 1 _ rfl
  have y2 := (HX1.out).cell 2 _ rfl
  have y3 := (HX1.out).cell 3 _ rfl
  go_wp2_with fail
  refine (refIsImage_any b q cap m a _ HL.out HSL.out HP.out HE.out HR.out HM.out).mono ?_
  rintro r w1 ⟨rfl, hb1⟩
  have HY0 := Lib.hid (HX0.out.next hb1); have HY1 := Lib.hid (HX1.out.next hb1)
  have HW1 := Lib.hid (HWW.out.trans (hb1.mono HWW.out.size))
  have HR1 := Lib.hid (HR.out.next hb1); have HM1 := Lib.hid (HM.out.next hb1); have HV1 := Lib.hid (HV.out.next hb1)
  have hz0' := HY0.out.lt; have hz1' := HY1.out.lt
  clear HX0 HX1 HWW HR HM HV hb1 k0 k1 k2 k3 k4 k5 k6 k7 y0 y1 y2 y3 HW hz0 hz1
  have k7 := HY0.out.cell 7 _ rfl
  have h3 : (imgB b m = false) ∨ (imgB b m = true ∧ ((n : Int) != (b.cars.length : Int)) = true) ∨ (imgB b m = true ∧ ((n : Int) != (b.cars.length : Int)) = false) := by
    cases imgB b m <;> cases ((n : Int) != (b.cars.length : Int)) <;> simp
  rcases h3 with c0 | ⟨c0, c1⟩ | ⟨c0, c1⟩
  · have HF : Hid (servF b m V = []) := Lib.hid (HS.out.2 fun h => by rw [c0] at h; simp at h)
    rw [c0]
    clear c0 HS
    go_wp2_with fail
    go_ret
    exact ⟨_, rfl, by rw [HF.out]; exact World.ownsRow_nil _ _ _ _, HW1.out⟩
  · have HF : Hid (servF b m V = []) := Lib.hid (HS.out.2 fun h => by have := h.2; simp [this] at c1)
    rw [c0]
    clear c0 HS
    go_wp2_with fail
    go_ret
    exact ⟨_, rfl, by rw [HF.out]; exact World.ownsRow_nil _ _ _ _, HW1.out⟩
  · have hnc : n = b.cars.length := by simp at c1; omega
    have HF : Hid (servF b m V = servL (setV b V) m.en) := Lib.hid (HS.out.1 ⟨c0, hnc⟩)
    have hn1 : n ≤ 1000 := by have := HL.out; omega
    have HSV : Hid (∀ f d, has (setV b V) f d = anyC b V f d n) := Lib.hid fun f d => by rw [setV_has, HN.out]
    rw [c0]
    clear c0 HS hnc
    go_wp2_with fail
    clear k7 c1
    have hle : w.heap.size ≤ w1.heap.size := HW1.out.size
    go_loopw [7, 8] (fun v7 v wq => ∃ j : Nat, j ≤ k ∧ v = .int .i64 j ∧ wq.ownsRow w1.heap.size 65 5 v7 (servL (setV b V) (m.en.take j)).length (recCells (servL (setV b V) (m.en.take j))) ∧ Below w1.heap.size w1 wq) (fun _ v _ => k - (intOf v).toNat)
    case atStart => exact ⟨0, by omega, rfl, World.ownsRow_nil _ _ _ _, Below.refl _ _⟩
    case round =>
      obtain ⟨j, hj, rfl, hown, hb⟩ := hrel
      have HB := Lib.hid hb; have HO := Lib.hid hown
      clear hb hown
      have y3 := (HY1.out.next HB.out).cell 3 _ rfl
      rw [← HK.out] at y3
      by_cases hlt2 : j < k
      · have hd : decide ((j : Int) < (k : Int)) = true := by simp; omega
        obtain ⟨e, hx⟩ : ∃ e, m.en[j]? = some e := ⟨_, List.getElem?_eq_getElem (by rw [← HK.out]; exact hlt2)⟩
        have HT1 : Hid (has (setV b V) e.1 e.2.1 = true → servL (setV b V) (m.en.take (j + 1)) = servL (setV b V) (m.en.take j) ++ [servR e]) := Lib.hid fun h => by rw [servL_take (setV b V) m.en j e hx, if_pos h]
        have HT0 : Hid (has (setV b V) e.1 e.2.1 = false → servL (setV b V) (m.en.take (j + 1)) = servL (setV b V) (m.en.take j)) := Lib.hid fun h => by rw [servL_take (setV b V) m.en j e hx, h]; simp
        have hal : (servL (setV b V) (m.en.take j)).length ≤ 1000 := by
          have h1 := servL_len (setV b V) (m.en.take j)
          have h2 : (m.en.take j).length ≤ j := List.length_take_le _ _
          omega
        obtain ⟨A, hq, hA, x0, x1, x2, x3, x4⟩ := (HM1.out.next HB.out).2.2.2.en5 hx
        rw [hq] at y3
        have hj0 : (0 : Int) ≤ (j : Int) := by omega
        have hjk : (j : Int) < (k : Int) := by omega
        have HSE := Lib.hid (HSV.out e.1 e.2.1)
        clear hx hA hq
        generalize servL (setV b V) (m.en.take j) = la at *
        have X0 : Blk (wr.alloc (.cells #[.int .i64 e.1, .int .i64 e.2.1, .int .i64 e.2.2.1, .int .i64 e.2.2.2.1, .bool e.2.2.2.2] 80)) wr.heap.size [.int .i64 e.1, .int .i64 e.2.1, .int .i64 e.2.2.1, .int .i64 e.2.2.2.1, .bool e.2.2.2.2] := by
          have hx := Blk.new wr [.int .i64 e.1, .int .i64 e.2.1, .int .i64 e.2.2.1, .int .i64 e.2.2.2.1, .bool e.2.2.2.2] 80
          exact hx
        have XW : Below wr.heap.size wr (wr.alloc (.cells #[.int .i64 e.1, .int .i64 e.2.1, .int .i64 e.2.2.1, .int .i64 e.2.2.2.1, .bool e.2.2.2.2] 80)) := below1' wr _
        have HWW := Lib.hid XW; have HX0 := Lib.hid X0
        clear XW X0
        go_upto_region 8 with fail
        generalize (wr.alloc (.cells #[.int .i64 e.1, .int .i64 e.2.1, .int .i64 e.2.2.1, .int .i64 e.2.2.2.1, .bool e.2.2.2.2] 80)) = w6 at *
        have HW := Lib.hid (Below.refl w6.heap.size w6)
        have hz0 := HX0.out.lt
        have HO6 := Lib.hid (rowLater HO.out HWW.out)
        have HB6 := Lib.hid (HB.out.trans (HWW.out.mono HB.out.size))
        have hge : w1.heap.size ≤ wr.heap.size := HB.out.size
        clear HO HB x0 x1 x2 x3 x4 hd HW hz0 y3
        have HD6 : Hid (∀ W, Below w6.heap.size w6 W → Blk W w.heap.size [.int .i64 b.fl, .int .i64 b.deb, .int .i64 b.room, .int .i64 b.park, .float .f64 b.em, .float .f64 b.fu, .float .f64 b.ov, .slice q b.cars.length cap] ∧ RdC W q b.cars ∧ RdV W qv V ∧ Blk W wr.heap.size [.int .i64 e.1, .int .i64 e.2.1, .int .i64 e.2.2.1, .int .i64 e.2.2.2.1, .bool e.2.2.2.2]) := Lib.hid fun W h => by
          have h1 := HB6.out.trans (h.mono HB6.out.size)
          exact ⟨HY0.out.next h1, HR1.out.next h1, HV1.out.next h1, HX0.out.next h⟩
        have hge6 : w1.heap.size ≤ w6.heap.size := HB6.out.size
        go_wp2_with fail
        go_loopw [7, 10] (fun v7 v wq => ∃ i : Nat, i ≤ n ∧ v = .int .i64 i ∧ anyC b V e.1 e.2.1 i = false ∧ wq.ownsRow w1.heap.size 65 5 v7 la.length (recCells la) ∧ Below w6.heap.size w6 wq) (fun _ v _ => n - (intOf v).toNat)
        case atStart => exact ⟨0, by omega, rfl, rfl, HO6.out, Below.refl _ _⟩
        case round =>
          clear HO6
          obtain ⟨i, hi, rfl, hac, hown, hb⟩ := hrel
          have HB7 := Lib.hid hb; have HO7 := Lib.hid hown; have HAC := Lib.hid hac
          clear hb hown hac
          by_cases hin : i < n
          · have hd : decide ((i : Int) < (n : Int)) = true := by simp; omega
            obtain ⟨v, hv⟩ : ∃ v, V[i]? = some v := ⟨_, List.getElem?_eq_getElem (by rw [← HN.out]; exact hin)⟩
            obtain ⟨hD, hR, hVV, hE⟩ := HD6.out wr HB7.out
            have HDD := Lib.hid hD; have HRR := Lib.hid hR; have HEE := Lib.hid hE
            obtain ⟨A2, hqA, _, hcc⟩ := hVV i v hv
            have HAS := Lib.hid (anyC_succ b V e.1 e.2.1 i v hv)
            have x0 : ∀ W, Grow.Cl wr.drew W → W.cell? (A2.add (i * 12)) = some (.bool v.rd) := fun W h => cell_later (Grow.Cl.base h) (hcc 0 _ rfl)
            have x1 : ∀ W, Grow.Cl wr.drew W → W.cell? ⟨(A2.add (i * 12)).block, (A2.add (i * 12)).off + 1, none⟩ = some (.bool v.sv) := fun W h => cell_later (Grow.Cl.base h) (by rw [← addr_one]; exact hcc 1 _ rfl)
            have x2 : ∀ W, Grow.Cl wr.drew W → W.cell? ⟨(A2.add (i * 12)).block, (A2.add (i * 12)).off + 2, none⟩ = some (.bool v.lg) := fun W h => cell_later (Grow.Cl.base h) (by rw [← addr_one]; exact hcc 2 _ rfl)
            have x3 : ∀ W, Grow.Cl wr.drew W → W.cell? ⟨(A2.add (i * 12)).block, (A2.add (i * 12)).off + 3, none⟩ = some (.bool v.lo) := fun W h => cell_later (Grow.Cl.base h) (by rw [← addr_one]; exact hcc 3 _ rfl)
            have x4 : ∀ W, Grow.Cl wr.drew W → W.cell? ⟨(A2.add (i * 12)).block, (A2.add (i * 12)).off + 4, none⟩ = some (.int .i64 v.fl) := fun W h => cell_later (Grow.Cl.base h) (by rw [← addr_one]; exact hcc 4 _ rfl)
            have x5 : ∀ W, Grow.Cl wr.drew W → W.cell? ⟨(A2.add (i * 12)).block, (A2.add (i * 12)).off + 5, none⟩ = some (.int .i64 v.dir) := fun W h => cell_later (Grow.Cl.base h) (by rw [← addr_one]; exact hcc 5 _ rfl)
            have x6 : ∀ W, Grow.Cl wr.drew W → W.cell? ⟨(A2.add (i * 12)).block, (A2.add (i * 12)).off + 6, none⟩ = some (.int .i64 v.ld) := fun W h => cell_later (Grow.Cl.base h) (by rw [← addr_one]; exact hcc 6 _ rfl)
            have x7 : ∀ W, Grow.Cl wr.drew W → W.cell? ⟨(A2.add (i * 12)).block, (A2.add (i * 12)).off + 7, none⟩ = some (.int .u32 (v.sh.1.toNat : Int)) := fun W h => cell_later (Grow.Cl.base h) (by rw [← addr_one]; exact hcc 7 _ rfl)
            have x8 : ∀ W, Grow.Cl wr.drew W → W.cell? ⟨(A2.add (i * 12)).block, (A2.add (i * 12)).off + 8, none⟩ = some (.int .u32 (v.sh.2.toNat : Int)) := fun W h => cell_later (Grow.Cl.base h) (by rw [← addr_one]; exact hcc 8 _ rfl)
            have x9 : ∀ W, Grow.Cl wr.drew W → W.cell? ⟨(A2.add (i * 12)).block, (A2.add (i * 12)).off + 9, none⟩ = some (.int .u32 v.car) := fun W h => cell_later (Grow.Cl.base h) (by rw [← addr_one]; exact hcc 9 _ rfl)
            have x10 : ∀ W, Grow.Cl wr.drew W → W.cell? ⟨(A2.add (i * 12)).block, (A2.add (i * 12)).off + 10, none⟩ = some (.int .u32 v.hu) := fun W h => cell_later (Grow.Cl.base h) (by rw [← addr_one]; exact hcc 10 _ rfl)
            have x11 : ∀ W, Grow.Cl wr.drew W → W.cell? ⟨(A2.add (i * 12)).block, (A2.add (i * 12)).off + 11, none⟩ = some (.int .u32 v.hd) := fun W h => cell_later (Grow.Cl.base h) (by rw [← addr_one]; exact hcc 11 _ rfl)
            have hi0 : (0 : Int) ≤ (i : Int) := by omega
            have hik : (i : Int) < (n : Int) := by omega
            clear hD hR hVV hE hcc hv
            subst hqA
            have h67 : w1.heap.size ≤ wr.heap.size := by have := HB7.out.size; omega
            go_upto_region 11 with fail
            clear hd
            have t0 := (HDD.out).reg 0 _ rfl
            have t1 := (HDD.out).reg 1 _ rfl
            have t2 := (HDD.out).reg 2 _ rfl
            have t3 := (HDD.out).reg 3 _ rfl
            have t4 := (HDD.out).reg 4 _ rfl
            have t5 := (HDD.out).reg 5 _ rfl
            have t6 := (HDD.out).reg 6 _ rfl
            have t7 := (HDD.out).reg 7 _ rfl
            have s0 := (HEE.out).reg 0 _ rfl
            have s1 := (HEE.out).reg 1 _ rfl
            cases hh : has (calledC b v) e.1 e.2.1
            · have HH := Lib.hid hh
              have HA2 : Hid (anyC b V e.1 e.2.1 (i + 1) = false) := Lib.hid (by rw [HAS.out, HAC.out, hh]; rfl)
              clear hh HAS HT1 HT0 HSE HAC
              (refine Grow.wp_region Grow.noPlan Grow.noPlan_stable (by kernel_rfl) (by kernel_rfl) ?_; intro opsq Hopsq)
              repeat (first | (refine Grow.lex_move rfl ?_ rfl ?_; (· first | exact Grow.wanted_none | (rw [Hopsq.out]; rfl)); intro K hK; simp only [Grow.put_lit, Grow.setAt, Grow.eval_lit, Grow.ev]; refine hK _ _ ?_; clear hK K) | (refine Grow.lex_assign rfl ?_ rfl ?_; (· first | exact Grow.wanted_none | (rw [Hopsq.out]; rfl)); intro K hK; simp only [Grow.put_lit, Grow.setAt, Grow.eval_lit, Grow.ev]; refine hK _ _ ?_; clear hK K) | (refine Grow.lex_plain rfl rfl ?_ rfl ?_; (· first | exact Grow.wanted_none | (rw [Hopsq.out]; rfl)); apply Exists.intro; refine ⟨fun wq hCq _ => ?_, ?_⟩; (· (go_wp2_with fail; refine ⟨rfl, Below.refl _ _, ?_⟩; simp only [Grow.getD_lit, Grow.nth]; rfl)); intro K hK; simp only [Grow.put_lit, Grow.setAt]; refine hK _ _ ?_; clear hK K) | (refine Grow.lex_nilCheck rfl rfl ?_ rfl ?_; (· first | exact Grow.wanted_none | (rw [Hopsq.out]; rfl)); intro K hK; simp only [Grow.put_lit, Grow.setAt]; refine hK _ _ ?_; clear hK K) | (refine Grow.lex_skip ?_ ?_; (· (rw [Hopsq.out]; rfl)); intro K hK; simp only [Grow.put_lit, Grow.setAt]; refine hK _ _ ?_; clear hK K))
              (refine Grow.lex_call ?_ rfl ?_; (· first | exact Grow.wanted_none | (rw [Hopsq.out]; rfl)); apply Exists.intro; apply Exists.intro; refine ⟨fun wq => ?_, ?_⟩; (· (go_simp; exact ⟨rfl, rfl⟩)); apply Exists.intro; refine ⟨fun wq hCq hKq => ?_, ?_⟩; (· exact refCalled_any b q cap v _ HL.out HSL.out (HRR.out.next (Grow.Cl.base hCq))); intro K hK; simp only [Grow.put_lit, Grow.setAt]; refine hK _ _ ?_; clear hK K)
              repeat (first | (refine Grow.lex_move rfl ?_ rfl ?_; (· first | exact Grow.wanted_none | (rw [Hopsq.out]; rfl)); intro K hK; simp only [Grow.put_lit, Grow.setAt, Grow.eval_lit, Grow.ev]; refine hK _ _ ?_; clear hK K) | (refine Grow.lex_assign rfl ?_ rfl ?_; (· first | exact Grow.wanted_none | (rw [Hopsq.out]; rfl)); intro K hK; simp only [Grow.put_lit, Grow.setAt, Grow.eval_lit, Grow.ev]; refine hK _ _ ?_; clear hK K) | (refine Grow.lex_plain rfl rfl ?_ rfl ?_; (· first | exact Grow.wanted_none | (rw [Hopsq.out]; rfl)); apply Exists.intro; refine ⟨fun wq hCq _ => ?_, ?_⟩; (· (go_wp2_with fail; refine ⟨rfl, Below.refl _ _, ?_⟩; simp only [Grow.getD_lit, Grow.nth]; rfl)); intro K hK; simp only [Grow.put_lit, Grow.setAt]; refine hK _ _ ?_; clear hK K) | (refine Grow.lex_nilCheck rfl rfl ?_ rfl ?_; (· first | exact Grow.wanted_none | (rw [Hopsq.out]; rfl)); intro K hK; simp only [Grow.put_lit, Grow.setAt]; refine hK _ _ ?_; clear hK K) | (refine Grow.lex_skip ?_ ?_; (· (rw [Hopsq.out]; rfl)); intro K hK; simp only [Grow.put_lit, Grow.setAt]; refine hK _ _ ?_; clear hK K))
              (refine Grow.lex_call ?_ rfl ?_; (· first | exact Grow.wanted_none | (rw [Hopsq.out]; rfl)); apply Exists.intro; apply Exists.intro; refine ⟨fun wq => ?_, ?_⟩; (· (go_simp; exact ⟨rfl, rfl⟩)); apply Exists.intro; refine ⟨fun wq hCq hKq => ?_, ?_⟩; (· exact calls_bool (refHas_any (calledC b v) e.1 e.2.1 _) HH.out); intro K hK; simp only [Grow.put_lit, Grow.setAt]; refine hK _ _ ?_; clear hK K)
              repeat (first | (refine Grow.lex_move rfl ?_ rfl ?_; (· first | exact Grow.wanted_none | (rw [Hopsq.out]; rfl)); intro K hK; simp only [Grow.put_lit, Grow.setAt, Grow.eval_lit, Grow.ev]; refine hK _ _ ?_; clear hK K) | (refine Grow.lex_assign rfl ?_ rfl ?_; (· first | exact Grow.wanted_none | (rw [Hopsq.out]; rfl)); intro K hK; simp only [Grow.put_lit, Grow.setAt, Grow.eval_lit, Grow.ev]; refine hK _ _ ?_; clear hK K) | (refine Grow.lex_plain rfl rfl ?_ rfl ?_; (· first | exact Grow.wanted_none | (rw [Hopsq.out]; rfl)); apply Exists.intro; refine ⟨fun wq hCq _ => ?_, ?_⟩; (· (go_wp2_with fail; refine ⟨rfl, Below.refl _ _, ?_⟩; simp only [Grow.getD_lit, Grow.nth]; rfl)); intro K hK; simp only [Grow.put_lit, Grow.setAt]; refine hK _ _ ?_; clear hK K) | (refine Grow.lex_nilCheck rfl rfl ?_ rfl ?_; (· first | exact Grow.wanted_none | (rw [Hopsq.out]; rfl)); intro K hK; simp only [Grow.put_lit, Grow.setAt]; refine hK _ _ ?_; clear hK K) | (refine Grow.lex_skip ?_ ?_; (· (rw [Hopsq.out]; rfl)); intro K hK; simp only [Grow.put_lit, Grow.setAt]; refine hK _ _ ?_; clear hK K))
              (refine Grow.lex_nil ?_; intro w8 hb8 _; replace hb8 := Grow.Cl.base hb8; clear Hopsq opsq)
              have HO8 := Lib.hid (rowLater HO7.out hb8); have HB8 := Lib.hid (HB7.out.trans (hb8.mono HB7.out.size))
              clear hb8 t0 t1 t2 t3 t4 t5 t6 t7 s0 s1 x0 x1 x2 x3 x4 x5 x6 x7 x8 x9 x10 x11
              go_wp2_with fail
              exact ⟨⟨i + 1, by omega, by go_num, HA2.out, HO8.out, HB8.out⟩, by simp [intOf]; omega⟩
            · have HH := Lib.hid hh
              have HS2 : Hid (servL (setV b V) (m.en.take (j + 1)) = la ++ [servR e]) := Lib.hid (HT1.out (by rw [HSE.out]; exact anyC_mono b V _ _ (i + 1) n (by omega) (by rw [HAS.out, hh]; simp)))
              clear hh HAS HT1 HT0 HSE HAC
              (refine Grow.wp_region Grow.noPlan Grow.noPlan_stable (by kernel_rfl) (by kernel_rfl) ?_; intro opsq Hopsq)
              repeat (first | (refine Grow.lex_move rfl ?_ rfl ?_; (· first | exact Grow.wanted_none | (rw [Hopsq.out]; rfl)); intro K hK; simp only [Grow.put_lit, Grow.setAt, Grow.eval_lit, Grow.ev]; refine hK _ _ ?_; clear hK K) | (refine Grow.lex_assign rfl ?_ rfl ?_; (· first | exact Grow.wanted_none | (rw [Hopsq.out]; rfl)); intro K hK; simp only [Grow.put_lit, Grow.setAt, Grow.eval_lit, Grow.ev]; refine hK _ _ ?_; clear hK K) | (refine Grow.lex_plain rfl rfl ?_ rfl ?_; (· first | exact Grow.wanted_none | (rw [Hopsq.out]; rfl)); apply Exists.intro; refine ⟨fun wq hCq _ => ?_, ?_⟩; (· (go_wp2_with fail; refine ⟨rfl, Below.refl _ _, ?_⟩; simp only [Grow.getD_lit, Grow.nth]; rfl)); intro K hK; simp only [Grow.put_lit, Grow.setAt]; refine hK _ _ ?_; clear hK K) | (refine Grow.lex_nilCheck rfl rfl ?_ rfl ?_; (· first | exact Grow.wanted_none | (rw [Hopsq.out]; rfl)); intro K hK; simp only [Grow.put_lit, Grow.setAt]; refine hK _ _ ?_; clear hK K) | (refine Grow.lex_skip ?_ ?_; (· (rw [Hopsq.out]; rfl)); intro K hK; simp only [Grow.put_lit, Grow.setAt]; refine hK _ _ ?_; clear hK K))
              (refine Grow.lex_call ?_ rfl ?_; (· first | exact Grow.wanted_none | (rw [Hopsq.out]; rfl)); apply Exists.intro; apply Exists.intro; refine ⟨fun wq => ?_, ?_⟩; (· (go_simp; exact ⟨rfl, rfl⟩)); apply Exists.intro; refine ⟨fun wq hCq hKq => ?_, ?_⟩; (· exact refCalled_any b q cap v _ HL.out HSL.out (HRR.out.next (Grow.Cl.base hCq))); intro K hK; simp only [Grow.put_lit, Grow.setAt]; refine hK _ _ ?_; clear hK K)
              repeat (first | (refine Grow.lex_move rfl ?_ rfl ?_; (· first | exact Grow.wanted_none | (rw [Hopsq.out]; rfl)); intro K hK; simp only [Grow.put_lit, Grow.setAt, Grow.eval_lit, Grow.ev]; refine hK _ _ ?_; clear hK K) | (refine Grow.lex_assign rfl ?_ rfl ?_; (· first | exact Grow.wanted_none | (rw [Hopsq.out]; rfl)); intro K hK; simp only [Grow.put_lit, Grow.setAt, Grow.eval_lit, Grow.ev]; refine hK _ _ ?_; clear hK K) | (refine Grow.lex_plain rfl rfl ?_ rfl ?_; (· first | exact Grow.wanted_none | (rw [Hopsq.out]; rfl)); apply Exists.intro; refine ⟨fun wq hCq _ => ?_, ?_⟩; (· (go_wp2_with fail; refine ⟨rfl, Below.refl _ _, ?_⟩; simp only [Grow.getD_lit, Grow.nth]; rfl)); intro K hK; simp only [Grow.put_lit, Grow.setAt]; refine hK _ _ ?_; clear hK K) | (refine Grow.lex_nilCheck rfl rfl ?_ rfl ?_; (· first | exact Grow.wanted_none | (rw [Hopsq.out]; rfl)); intro K hK; simp only [Grow.put_lit, Grow.setAt]; refine hK _ _ ?_; clear hK K) | (refine Grow.lex_skip ?_ ?_; (· (rw [Hopsq.out]; rfl)); intro K hK; simp only [Grow.put_lit, Grow.setAt]; refine hK _ _ ?_; clear hK K))
              (refine Grow.lex_call ?_ rfl ?_; (· first | exact Grow.wanted_none | (rw [Hopsq.out]; rfl)); apply Exists.intro; apply Exists.intro; refine ⟨fun wq => ?_, ?_⟩; (· (go_simp; exact ⟨rfl, rfl⟩)); apply Exists.intro; refine ⟨fun wq hCq hKq => ?_, ?_⟩; (· exact calls_bool (refHas_any (calledC b v) e.1 e.2.1 _) HH.out); intro K hK; simp only [Grow.put_lit, Grow.setAt]; refine hK _ _ ?_; clear hK K)
              repeat (first | (refine Grow.lex_move rfl ?_ rfl ?_; (· first | exact Grow.wanted_none | (rw [Hopsq.out]; rfl)); intro K hK; simp only [Grow.put_lit, Grow.setAt, Grow.eval_lit, Grow.ev]; refine hK _ _ ?_; clear hK K) | (refine Grow.lex_assign rfl ?_ rfl ?_; (· first | exact Grow.wanted_none | (rw [Hopsq.out]; rfl)); intro K hK; simp only [Grow.put_lit, Grow.setAt, Grow.eval_lit, Grow.ev]; refine hK _ _ ?_; clear hK K) | (refine Grow.lex_plain rfl rfl ?_ rfl ?_; (· first | exact Grow.wanted_none | (rw [Hopsq.out]; rfl)); apply Exists.intro; refine ⟨fun wq hCq _ => ?_, ?_⟩; (· (go_wp2_with fail; refine ⟨rfl, Below.refl _ _, ?_⟩; simp only [Grow.getD_lit, Grow.nth]; rfl)); intro K hK; simp only [Grow.put_lit, Grow.setAt]; refine hK _ _ ?_; clear hK K) | (refine Grow.lex_nilCheck rfl rfl ?_ rfl ?_; (· first | exact Grow.wanted_none | (rw [Hopsq.out]; rfl)); intro K hK; simp only [Grow.put_lit, Grow.setAt]; refine hK _ _ ?_; clear hK K) | (refine Grow.lex_skip ?_ ?_; (· (rw [Hopsq.out]; rfl)); intro K hK; simp only [Grow.put_lit, Grow.setAt]; refine hK _ _ ?_; clear hK K))
              (refine Grow.lex_nil ?_; intro w8 hb8 _; replace hb8 := Grow.Cl.base hb8; clear Hopsq opsq)
              have HO8 := Lib.hid (rowLater HO7.out hb8); have HB8 := Lib.hid (HB7.out.trans (hb8.mono HB7.out.size)); have HE8 := Lib.hid (HEE.out.next hb8)
              have h18 : w1.heap.size ≤ w8.heap.size := by have := hb8.size; omega
              clear hb8 t0 t1 t2 t3 t4 t5 t6 t7 s0 s1 x0 x1 x2 x3 x4 x5 x6 x7 x8 x9 x10 x11
              have r0 := (HE8.out).cell 0 _ rfl
              have r1 := (HE8.out).cell 1 _ rfl
              have r2 := (HE8.out).cell 2 _ rfl
              have r3 := (HE8.out).cell 3 _ rfl
              have r4 := (HE8.out).cell 4 _ rfl
              go_wp2_with ((at_builtin; refine wpList_append_own _ rfl _ _ 60 rfl w1.heap.size 65 i0 (.agg #[.int .i64 0, .int .i64 0, .int .i64 0, .int .i64 0, .int .i64 0]) 5 40 Try.underlying60 Hi.out Hz0.out Hz1.out Hz2.out rfl (by decide) _ _ _ rfl (HO8.out.alloc _) ⟨w8.heap.size, 0, none⟩ 1 1 (servR e).cell rfl rfl (rec_new _ (servR e) _) (rec_one _) (by unfold maxLen; omega) (by omega) (by simp; omega) ?_))
              intro v' w9 hown2 hg _
              have hal2 := below1' w8 (.cells #[.int .i64 (servR e).1, .int .i64 (servR e).2.1, .int .i64 (servR e).2.2.1, .int .i64 (servR e).2.2.2.1, .int .i64 (servR e).2.2.2.2] 65)
              have hb9 : Below w1.heap.size w1 w9 := (((HB6.out.trans (HB8.out.mono hge6))).trans (hal2.mono h18)).grown hg (by simp; omega) (fun q hq => (HO8.out.lt q hq).1)
              have hown3 : w9.ownsRow w1.heap.size 65 5 v' (la ++ [servR e]).length (recCells (la ++ [servR e])) := by
                rw [recCells_snoc, List.length_append]; exact hown2
              clear hown2 hg r0 r1 r2 r3 r4
              go_wp2_with fail
              exact ⟨⟨j + 1, by omega, by go_num, by rw [HS2.out]; exact hown3, hb9⟩, by simp [intOf]; omega⟩
          · have hd : decide ((i : Int) < (n : Int)) = false := by simp; omega
            obtain rfl : i = n := by omega
            have HS2 : Hid (servL (setV b V) (m.en.take (j + 1)) = la) := Lib.hid (HT0.out (by rw [HSE.out]; exact HAC.out))
            have hb9 := HB6.out.trans (HB7.out.mono hge6)
            go_wp2_with fail
            exact ⟨⟨j + 1, by omega, by go_num, by rw [HS2.out]; exact HO7.out, hb9⟩, by simp [intOf]; omega⟩
      · have hd : decide ((j : Int) < (k : Int)) = false := by simp; omega
        obtain rfl : j = k := by omega
        rw [show m.en.take j = m.en by rw [HK.out, List.take_length]] at HO
        have HB2 := Lib.hid (HW1.out.trans (HB.out.mono hle))
        go_wp2_with fail
        go_ret
        exact ⟨_, rfl, by rw [HF.out]; exact row_base HO.out hle, HB2.out⟩
end Go.Proofs.Ytpgcpalemnnbaaa
