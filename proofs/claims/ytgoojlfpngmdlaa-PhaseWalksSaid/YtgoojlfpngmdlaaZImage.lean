/- The walk over overlaylaw10.Image. Conditions: a building of 2 to 32 floors with 1 to 100 cars that can be read; bytes that can be read. -/
import Derived.Test.YtgoojlfpngmdlaaZApply
import Derived.Test.YtgoojlfpngmdlaaZRecs
import Derived.Test.YtgoojlfpngmdlaaZLight
import Derived.Test.YtgoojlfpngmdlaaZGrowPair
namespace Go.Proofs.Ytgoojlfpngmdlaa
open Go.RowKit
/-- The image behind records. -/
def imgK (b : BldV) (R : List R5) : ImgV := R.foldl (fun m r => applyF b m r) (imgI b)
def imageF (b : BldV) (l : List Nat) : ImgV := imgK b (recL b l 60)
theorem imgK_succ (b : BldV) (R : List R5) (i : Nat) (r : R5) (h : R[i]? = some r) : imgK b (R.take (i + 1)) = applyF b (imgK b (R.take i)) r := by
  unfold imgK
  rw [List.take_add_one, h, List.foldl_append]; rfl
theorem enterL_len (l : List E5) (e : E5) : (enterL l e).length ≤ l.length + 1 := by
  have h : ∀ k, k ≤ l.length → (enterT l e k).1.length = k + if (enterT l e k).2 then 1 else 0 := by
    intro k
    induction k with
    | zero => intro _; rfl
    | succ k ih =>
      intro hk
      have ih := ih (by omega)
      obtain ⟨x, hx⟩ : ∃ x, l[k]? = some x := ⟨_, List.getElem?_eq_getElem (by omega)⟩
      unfold enterT
      rw [hx]
      simp only
      split
      · rename_i h; rw [h] at ih; simp at ih ⊢; omega
      · rename_i h
        have h' : (enterT l e k).2 = false := by simpa using h
        rw [h'] at ih
        split
        · simp at ih ⊢; omega
        · simp at ih ⊢; omega
  have h1 := h l.length (Nat.le_refl _)
  unfold enterL
  split
  · rename_i h2; rw [h2] at h1; simp at h1; omega
  · rename_i h2
    have h' : (enterT l e l.length).2 = false := by simpa using h2
    rw [h'] at h1; simp at h1 ⊢; omega
theorem applyF_len (b : BldV) (m : ImgV) (r : R5) (h : m.ph.length ≤ 1000) : (applyF b m r).ph.length ≤ 1000 ∧ (applyF b m r).en.length ≤ m.en.length + 1 := by
  unfold applyF
  split
  · unfold applyV
    split
    · simp; omega
    · split
      · simp; omega
      · split
        · simp; omega
        · refine ⟨h, ?_⟩
          show (putE m.en r).length ≤ _
          unfold putE
          split
          · split
            · exact enterL_len _ _
            · omega
          · split
            · omega
            · split
              · simp; omega
              · split
                · simp
                · split
                  · simp
                  · omega
  · simp [img0]
theorem imgK_len (b : BldV) (R : List R5) (h : b.cars.length ≤ 1000) : ∀ i, (imgK b (R.take i)).ph.length ≤ 1000 ∧ (imgK b (R.take i)).en.length ≤ i := by
  intro i
  induction i with
  | zero =>
    show (imgI b).ph.length ≤ 1000 ∧ (imgI b).en.length ≤ 0
    unfold imgI
    split
    · simp [imgZ, h]
    · simp [img0]
  | succ i ih =>
    cases hx : R[i]? with
    | none =>
      have e : R.take (i + 1) = R.take i := by rw [List.take_add_one, hx]; simp
      rw [e]
      exact ⟨ih.1, by omega⟩
    | some r =>
      rw [imgK_succ b R i r hx]
      have := applyF_len b (imgK b (R.take i)) r ih.1
      exact ⟨this.1, by omega⟩
/-- The rows of an image lie elsewhere. -/
def NeM (g : Nat) (a : ImgA) : Prop := (∀ A, a.p = some A → A.block ≠ g) ∧ (∀ A, a.f = some A → A.block ≠ g) ∧ (∀ A, a.l = some A → A.block ≠ g) ∧ (∀ A, a.e = some A → A.block ≠ g)
theorem ne_own {q : Option Addr} {n c g : Nat} (h : ∀ A, q = some A → A.block ≠ g) : some g ≠ (Value.slice q n c).ownBlock := by
  cases q with
  | none => simp [Value.ownBlock]
  | some A => simp only [Value.ownBlock]; intro e; exact h A rfl (Option.some.inj e).symm
theorem OwnM.setNe {w : World} {base g i : Nat} {m : ImgV} {a : ImgA} {u : Value} (h : OwnM w base m a) (hn : NeM g a) : OwnM (w.setCell ⟨g, i, none⟩ u) base m a := ⟨row_set h.1 (ne_own hn.1), row_set h.2.1 (ne_own hn.2.1), row_set h.2.2.1 (ne_own hn.2.2.1), row_set h.2.2.2.1 (ne_own hn.2.2.2), h.2.2.2.2⟩
theorem OwnM.ge {w : World} {base g : Nat} {m : ImgV} {a : ImgA} (h : OwnM w base m a) (hg : g < base) : NeM g a := by
  obtain ⟨h1, h2, h3, h4, _⟩ := h
  exact ⟨fun A hA => by have := (h1.lt A.block (by rw [hA]; rfl)).1; omega, fun A hA => by have := (h2.lt A.block (by rw [hA]; rfl)).1; omega, fun A hA => by have := (h3.lt A.block (by rw [hA]; rfl)).1; omega, fun A hA => by have := (h4.lt A.block (by rw [hA]; rfl)).1; omega⟩
theorem OwnM.le {w : World} {base g : Nat} {m : ImgV} {a : ImgA} (h : OwnM w base m a) (hg : w.heap.size ≤ g) : NeM g a := by
  obtain ⟨h1, h2, h3, h4, _⟩ := h
  exact ⟨fun A hA => by have := (h1.lt A.block (by rw [hA]; rfl)).2; omega, fun A hA => by have := (h2.lt A.block (by rw [hA]; rfl)).2; omega, fun A hA => by have := (h3.lt A.block (by rw [hA]; rfl)).2; omega, fun A hA => by have := (h4.lt A.block (by rw [hA]; rfl)).2; omega⟩
theorem rdX_exc {w w' : World} {q : Option Addr} {xs : List Value} {g : Nat} (h : RdX w q xs) (hn : ∀ A, q = some A → A.block ≠ g) (hk : ∀ k, k < w.heap.size → k ≠ g → w'.heap[k]? = w.heap[k]?) (hs : w.heap.size ≤ w'.heap.size) : RdX w' q xs := by
  intro i u hu
  obtain ⟨A, hq, hA, hc⟩ := h i u hu
  refine ⟨A, hq, by omega, ?_⟩
  rw [World.cell?_of_block (hk (A.add i).block (by rw [addr_block]; exact hA) (by rw [addr_block]; exact hn A hq))]
  exact hc
/-- What Apply hands back. -/
def apR (lo : Nat) (m : ImgV) (e : Int) (v : Value) (w : World) : Prop := ∃ a, v = .tuple #[cvM m a, .int .i64 e] ∧ OwnM w lo m a
theorem apR_stable (lo : Nat) (m : ImgV) (e : Int) (v : Value) : Grow.Stable (apR lo m e v) := fun _ _ ⟨a, h1, h2⟩ hb => ⟨a, h1, h2.later hb⟩
theorem apR_form {lo : Nat} {m : ImgV} {e : Int} {v : Value} {w : World} (h : apR lo m e v w) : ∃ a, v = .tuple #[cvM m a, .int .i64 e] := h.imp fun _ h => h.1
theorem apR_out {lo : Nat} {m : ImgV} {e : Int} {a : ImgA} {w : World} (h : apR lo m e (.tuple #[cvM m a, .int .i64 e]) w) : OwnM w lo m a := by
  obtain ⟨a', hv, hr⟩ := h
  obtain ⟨p, pc, f, fc, l, lc, e, ec⟩ := a
  obtain ⟨p', pc', f', fc', l', lc', e', ec'⟩ := a'
  simp at hv
  obtain ⟨⟨rfl, rfl⟩, ⟨rfl, rfl⟩, ⟨rfl, rfl⟩, rfl, rfl⟩ := hv
  exact hr
set_option maxHeartbeats 8000000 in
set_option maxRecDepth 100000 in
theorem image_any (b : BldV) (q : Option Addr) (cap : Nat) (l : List Nat) (ql : Option Addr) (capl : Nat) (w : World) (hc0 : 1 ≤ b.cars.length) (hlen : b.cars.length ≤ 100) (h2 : 2 ≤ b.fl) (h32 : b.fl ≤ 32) (hsl : ∀ c ∈ b.cars, -9223372036854775808 ≤ c.sl ∧ c.sl < 9223372036854775807) (hr : RdC w q b.cars) (hl : l.length ≤ maxLen) (hu : RdU w ql l) :
    Calls Try.prog 11 #[cvB b q cap, .slice ql l.length capl] w fun r w' => ∃ a, r = .returned (cvM (imageF b l) a) ∧ OwnM w' w.heap.size (imageF b l) a ∧ Below w.heap.size w w' := by
  have X0 : Blk (w.alloc (.cells #[.int .i64 b.fl, .int .i64 b.deb, .int .i64 b.room, .int .i64 b.park, .float .f64 b.em, .float .f64 b.fu, .float .f64 b.ov, .slice q b.cars.length cap] 29)) w.heap.size [.int .i64 b.fl, .int .i64 b.deb, .int .i64 b.room, .int .i64 b.park, .float .f64 b.em, .float .f64 b.fu, .float .f64 b.ov, .slice q b.cars.length cap] := by
    have hx := Blk.new w [.int .i64 b.fl, .int .i64 b.deb, .int .i64 b.room, .int .i64 b.park, .float .f64 b.em, .float .f64 b.fu, .float .f64 b.ov, .slice q b.cars.length cap] 29
    exact hx
  replace X0 : Blk ((w.alloc (.cells #[.int .i64 b.fl, .int .i64 b.deb, .int .i64 b.room, .int .i64 b.park, .float .f64 b.em, .float .f64 b.fu, .float .f64 b.ov, .slice q b.cars.length cap] 29)).alloc (.cells #[.slice none 0 0, .slice none 0 0, .slice none 0 0, .slice none 0 0] 35)) w.heap.size [.int .i64 b.fl, .int .i64 b.deb, .int .i64 b.room, .int .i64 b.park, .float .f64 b.em, .float .f64 b.fu, .float .f64 b.ov, .slice q b.cars.length cap] := X0.next (below1' _ _)
  have X1 : Blk ((w.alloc (.cells #[.int .i64 b.fl, .int .i64 b.deb, .int .i64 b.room, .int .i64 b.park, .float .f64 b.em, .float .f64 b.fu, .float .f64 b.ov, .slice q b.cars.length cap] 29)).alloc (.cells #[.slice none 0 0, .slice none 0 0, .slice none 0 0, .slice none 0 0] 35)) (w.heap.size + 1) [.slice none 0 0, .slice none 0 0, .slice none 0 0, .slice none 0 0] := by
    have hx := Blk.new (w.alloc (.cells #[.int .i64 b.fl, .int .i64 b.deb, .int .i64 b.room, .int .i64 b.park, .float .f64 b.em, .float .f64 b.fu, .float .f64 b.ov, .slice q b.cars.length cap] 29)) [.slice none 0 0, .slice none 0 0, .slice none 0 0, .slice none 0 0] 35
    rw [World.size_alloc] at hx
    exact hx
  have XW : Below w.heap.size w (w.alloc (.cells #[.int .i64 b.fl, .int .i64 b.deb, .int .i64 b.room, .int .i64 b.park, .float .f64 b.em, .float .f64 b.fu, .float .f64 b.ov, .slice q b.cars.length cap] 29)) := below1' w _
  replace XW : Below w.heap.size w ((w.alloc (.cells #[.int .i64 b.fl, .int .i64 b.deb, .int .i64 b.room, .int .i64 b.park, .float .f64 b.em, .float .f64 b.fu, .float .f64 b.ov, .slice q b.cars.length cap] 29)).alloc (.cells #[.slice none 0 0, .slice none 0 0, .slice none 0 0, .slice none 0 0] 35)) := XW.trans ((below1' _ _).mono XW.size)
  have HWW := Lib.hid XW; have HX0 := Lib.hid X0; have HX1 := Lib.hid X1
  clear XW X0 X1
  have HR := Lib.hid (hr.next HWW.out); have HU := Lib.hid (hu.next HWW.out); have HLL := Lib.hid hl
  have HL := Lib.hid hlen; have HSL := Lib.hid hsl; have HC0 := Lib.hid hc0; have HF := Lib.hid h2; have HF3 := Lib.hid h32
  clear hr hsl hlen hc0 h2 h32 hl hu
  go_enter Try.func11, Try.ntmps11
  go_upto_region 1 with fail
  generalize ((w.alloc (.cells #[.int .i64 b.fl, .int .i64 b.deb, .int .i64 b.room, .int .i64 b.park, .float .f64 b.em, .float .f64 b.fu, .float .f64 b.ov, .slice q b.cars.length cap] 29)).alloc (.cells #[.slice none 0 0, .slice none 0 0, .slice none 0 0, .slice none 0 0] 35)) = w0 at *
  generalize hg1 : w.heap.size + 1 = g1 at *
  have HG1 := Lib.hid hg1; have hq1 : w.heap.size + 1 ≤ g1 := by omega
  clear hg1
  have HW := Lib.hid (Below.refl w0.heap.size w0)
  have hz0 := HX0.out.lt; have hz1 := HX1.out.lt
  have k0 := (HX0.out).cell 0 _ rfl
  have k1 := (HX0.out).cell 1 _ rfl
  have k2 := (HX0.out).cell 2 _ rfl
  have k3 := (HX0.out).cell 3 _ rfl
  have k4 := (HX0.out).cell 4 _ rfl
  have k5 := (HX0.out).cell 5 _ rfl
  have k6 := (HX0.out).cell 6 _ rfl
  have k7 := (HX0.out).cell 7 _ rfl
  go_wp2_with fail
  refine (initial_any b q cap _ (by have := HL.out; omega) HSL.out HR.out).mono ?_
  rintro r w1 ⟨a, rfl, hown, hb1⟩
  obtain ⟨m, hm⟩ : ∃ m, imgI b = m := ⟨_, rfl⟩
  rw [hm] at hown ⊢
  have HM := Lib.hid hm
  clear hm
  have HO1 := Lib.hid hown
  have HY0 := Lib.hid (HX0.out.next hb1); have HY1 := Lib.hid (HX1.out.next hb1); have HR1 := Lib.hid (HR.out.next hb1); have HU1 := Lib.hid (HU.out.next hb1)
  have HW1 := Lib.hid (HWW.out.trans (hb1.mono HWW.out.size))
  have hsz : w.heap.size ≤ w0.heap.size := HWW.out.size
  have hg1 : g1 < w0.heap.size := HX1.out.lt
  have hs01 : w0.heap.size ≤ w1.heap.size := hb1.size
  clear HX0 HX1 HWW HR HU hb1 k0 k1 k2 k3 k4 k5 k6 k7 HW hz0 hz1 hown
  go_upto_region 2 with fail
  have BG := Blk.new w1 [.slice a.p m.ph.length a.pc, .slice a.f m.fg.length a.fc, .slice a.l m.lv.length a.lc, .slice a.e m.en.length a.ec] 35
  have hbg := below1' w1 (.cells #[.slice a.p m.ph.length a.pc, .slice a.f m.fg.length a.fc, .slice a.l m.lv.length a.lc, .slice a.e m.en.length a.ec] 35)
  change Blk (w1.alloc (.cells #[.slice a.p m.ph.length a.pc, .slice a.f m.fg.length a.fc, .slice a.l m.lv.length a.lc, .slice a.e m.en.length a.ec] 35)) _ _ at BG
  have HG := Lib.hid BG
  have HZ0 := Lib.hid (HY0.out.next hbg); have HZ1 := Lib.hid (HY1.out.next hbg); have HR2 := Lib.hid (HR1.out.next hbg); have HU2 := Lib.hid (HU1.out.next hbg)
  have HO2 := Lib.hid (HO1.out.later hbg)
  have HW2 := Lib.hid (HW1.out.trans (hbg.mono HW1.out.size))
  have HAL : Hid (∀ W, Below w1.heap.size w1 W → Blk W w.heap.size [.int .i64 b.fl, .int .i64 b.deb, .int .i64 b.room, .int .i64 b.park, .float .f64 b.em, .float .f64 b.fu, .float .f64 b.ov, .slice q b.cars.length cap] ∧ Blk W g1 [.slice none 0 0, .slice none 0 0, .slice none 0 0, .slice none 0 0] ∧ RdC W q b.cars ∧ Below w.heap.size w W) := Lib.hid fun W h => ⟨HY0.out.next h, HY1.out.next h, HR1.out.next h, HW1.out.trans (h.mono HW1.out.size)⟩
  have HB2 := Lib.hid hbg
  have hgi2 : w1.heap.size < (w1.alloc (.cells #[.slice a.p m.ph.length a.pc, .slice a.f m.fg.length a.fc, .slice a.l m.lv.length a.lc, .slice a.e m.en.length a.ec] 35)).heap.size := by simp
  have hg1i : g1 < w1.heap.size := HY1.out.lt
  have hw0i : w0.heap.size ≤ w1.heap.size := hs01
  have HNM : Hid (NeM w1.heap.size a) := Lib.hid (HO1.out.le (Nat.le_refl _))
  clear BG hbg HY0 HY1 HR1 HU1 HO1 HW1
  generalize w1.alloc (.cells #[.slice a.p m.ph.length a.pc, .slice a.f m.fg.length a.fc, .slice a.l m.lv.length a.lc, .slice a.e m.en.length a.ec] 35) = w2 at *
  generalize w1.heap.size = gi at *
  have k0 := (HZ0.out).cell 0 _ rfl
  have k1 := (HZ0.out).cell 1 _ rfl
  have k2 := (HZ0.out).cell 2 _ rfl
  have k3 := (HZ0.out).cell 3 _ rfl
  have k4 := (HZ0.out).cell 4 _ rfl
  have k5 := (HZ0.out).cell 5 _ rfl
  have k6 := (HZ0.out).cell 6 _ rfl
  have k7 := (HZ0.out).cell 7 _ rfl
  go_wp2_with fail
  refine (records_any b q cap l ql capl 60 _ HC0.out HL.out HLL.out HF.out HF3.out (by omega) HU2.out).mono ?_
  rintro r w3 ⟨v, rfl, hown, hb3⟩
  obtain ⟨N, hN⟩ : ∃ N, (recL b l 60).length = N := ⟨_, rfl⟩
  have HNR := Lib.hid hN
  have hN60 : N ≤ 60 := by rw [← hN]; unfold recL; rw [recT_len]; omega
  rw [hN] at hown
  obtain ⟨qr, cr, rfl⟩ := row_form hown
  have HIF : Hid (imageF b l = imgK b (recL b l 60)) := Lib.hid rfl
  generalize recL b l 60 = R at *
  have HRR : Hid (RdX w3 qr (recCells R)) := Lib.hid (rdX_of_owns hown)
  have HQN : Hid (∀ A, qr = some A → A.block ≠ gi) := Lib.hid fun A hA => by
    have := (hown.lt A.block (by rw [hA]; rfl)).1
    omega
  have HG3 := Lib.hid (HG.out.next hb3)
  have HO3 := Lib.hid (HO2.out.later hb3)
  have HB3 : Hid (Below gi w1 w3) := Lib.hid (HB2.out.trans (hb3.mono (Nat.le_of_lt hgi2)))
  have HM0 : Hid (imgK b (R.take 0) = m) := Lib.hid HM.out
  have hgi3 : gi < w3.heap.size := HG3.out.lt
  clear hN hown hb3 HG HZ0 HZ1 HR2 HU2 HO2 HW2 HB2 k0 k1 k2 k3 k4 k5 k6 k7
  go_wp2_with fail
  go_loopw [7] (fun v wr => ∃ (i : Nat) (a' : ImgA), i ≤ N ∧ v = .int .i64 i ∧ Blk wr gi [.slice a'.p (imgK b (R.take i)).ph.length a'.pc, .slice a'.f (imgK b (R.take i)).fg.length a'.fc, .slice a'.l (imgK b (R.take i)).lv.length a'.lc, .slice a'.e (imgK b (R.take i)).en.length a'.ec] ∧ OwnM wr w0.heap.size (imgK b (R.take i)) a' ∧ NeM gi a' ∧ Below gi w1 wr ∧ w3.heap.size ≤ wr.heap.size ∧ ∀ k, k < w3.heap.size → k ≠ gi → wr.heap[k]? = w3.heap[k]?) (fun v _ => N - (intOf v).toNat)
  case atStart => exact ⟨0, a, by omega, rfl, by rw [HM0.out]; exact HG3.out, by rw [HM0.out]; exact HO3.out, HNM.out, HB3.out, Nat.le_refl _, fun _ _ _ => rfl⟩
  case round =>
    obtain ⟨i, a', hi, rfl, hx, ho, hne, hb, hsz3, hkp⟩ := hrel
    have HX := Lib.hid hx; have HO := Lib.hid ho; have HNE := Lib.hid hne; have HB := Lib.hid hb; have HKP := Lib.hid hkp
    clear hx ho hne hb hkp
    obtain ⟨hD, hZ, hR, hW⟩ := HAL.out wr HB.out
    have HD := Lib.hid hD; have HZ := Lib.hid hZ; have HRC := Lib.hid hR; have HW := Lib.hid hW
    clear hD hZ hR hW
    have hgir : gi < wr.heap.size := HX.out.lt
    by_cases hlt : i < N
    · have hd : decide ((i : Int) < (N : Int)) = true := by simp; omega
      obtain ⟨r, hr⟩ : ∃ r, R[i]? = some r := ⟨_, List.getElem?_eq_getElem (by rw [HNR.out]; exact hlt)⟩
      have HS := Lib.hid (imgK_succ b R i r hr)
      obtain ⟨hl1, hl2⟩ := imgK_len b R (by have := HL.out; omega) i
      have HLA : Hid ((imgK b (R.take i)).ph.length ≤ 1000 ∧ (imgK b (R.take i)).en.length ≤ 1000) := Lib.hid ⟨hl1, by omega⟩
      obtain ⟨A, hqA, hA, x0, x1, x2, x3, x4⟩ := (rdX_exc HRR.out HQN.out HKP.out hsz3).rc hr
      subst hqA
      have hi0 : (0 : Int) ≤ (i : Int) := by omega
      have hiN : (i : Int) < (N : Int) := by omega
      clear hr hl1 hl2 hA
      generalize imgK b (R.take i) = mi at *
      go_upto_region 6 with fail
      clear hd
      have t0 := (HD.out).reg 0 _ rfl
      have t1 := (HD.out).reg 1 _ rfl
      have t2 := (HD.out).reg 2 _ rfl
      have t3 := (HD.out).reg 3 _ rfl
      have t4 := (HD.out).reg 4 _ rfl
      have t5 := (HD.out).reg 5 _ rfl
      have t6 := (HD.out).reg 6 _ rfl
      have t7 := (HD.out).reg 7 _ rfl
      have u0 := (HX.out).reg 0 _ rfl
      have u1 := (HX.out).reg 1 _ rfl
      have u2 := (HX.out).reg 2 _ rfl
      have u3 := (HX.out).reg 3 _ rfl
      replace x0 : ∀ W, Grow.Cl wr.drew W → _ := fun W h => cell_later (Grow.Cl.base h) x0
      replace x1 : ∀ W, Grow.Cl wr.drew W → _ := fun W h => cell_later (Grow.Cl.base h) x1
      replace x2 : ∀ W, Grow.Cl wr.drew W → _ := fun W h => cell_later (Grow.Cl.base h) x2
      replace x3 : ∀ W, Grow.Cl wr.drew W → _ := fun W h => cell_later (Grow.Cl.base h) x3
      replace x4 : ∀ W, Grow.Cl wr.drew W → _ := fun W h => cell_later (Grow.Cl.base h) x4
      (refine Grow.wp_region_pair 7 (rPlan 6 (apR wr.heap.size (applyF b mi r) (applyE b mi r))) (rPlan_stable 6 _ (apR_stable wr.heap.size (applyF b mi r) (applyE b mi r))) (by kernel_rfl) (by kernel_rfl) rfl ⟨rfl, rfl, rfl, rfl, rfl⟩ (fun d h1 h2 => by cases h1; cases h2) ?_; intro opsq Hopsq; simp only [List.take_succ_cons, List.take_zero])
      repeat (first | (refine Grow.lex_move rfl ?_ rfl ?_; (· first | exact Grow.wanted_none | (rw [Hopsq.out]; rfl)); intro K hK; simp only [Grow.put_lit, Grow.setAt, Grow.eval_lit, Grow.ev]; refine hK _ _ ?_; clear hK K) | (refine Grow.lex_assign rfl ?_ rfl ?_; (· first | exact Grow.wanted_none | (rw [Hopsq.out]; rfl)); intro K hK; simp only [Grow.put_lit, Grow.setAt, Grow.eval_lit, Grow.ev]; refine hK _ _ ?_; clear hK K) | (refine Grow.lex_plain rfl rfl ?_ rfl ?_; (· first | exact Grow.wanted_none | (rw [Hopsq.out]; rfl)); apply Exists.intro; refine ⟨fun wq hCq _ => ?_, ?_⟩; (· (go_wp2_with fail; refine ⟨rfl, Below.refl _ _, ?_⟩; simp only [Grow.getD_lit, Grow.nth]; rfl)); intro K hK; simp only [Grow.put_lit, Grow.setAt]; refine hK _ _ ?_; clear hK K) | (refine Grow.lex_nilCheck rfl rfl ?_ rfl ?_; (· first | exact Grow.wanted_none | (rw [Hopsq.out]; rfl)); intro K hK; simp only [Grow.put_lit, Grow.setAt]; refine hK _ _ ?_; clear hK K) | (refine Grow.lex_skip ?_ ?_; (· (rw [Hopsq.out]; rfl)); intro K hK; simp only [Grow.put_lit, Grow.setAt]; refine hK _ _ ?_; clear hK K))
      (refine Grow.lex_callR (r := (fun _ v w => apR wr.heap.size (applyF b mi r) (applyE b mi r) v w)) ?_ rfl ?_; (· first | exact Grow.wanted_none | (rw [Hopsq.out]; rfl)); apply Exists.intro; apply Exists.intro; refine ⟨fun wq => ?_, ?_, ?_⟩; (· (go_simp; exact ⟨rfl, rfl⟩)); (· (intro wq hCq hKq; exact (apply_any b q cap mi a' r _ (by have := HL.out; omega) HSL.out HLA.out.1 HLA.out.2 (HRC.out.next (Grow.Cl.base hCq)) (HO.out.rd.next (Grow.Cl.base hCq))).mono (fun e w' ⟨a2, he, ho, hb⟩ => ⟨_, he, hb, a2, rfl, ho.base (Grow.Cl.base hCq).size⟩))); intro vq hWq; obtain ⟨_, _, hTT⟩ := hWq; obtain ⟨a2, hvq⟩ := apR_form (Grow.Holds.of_upd hTT).2; subst hvq; clear hTT; intro K hK; simp only [Grow.put_lit, Grow.setAt]; refine hK _ _ ?_; clear hK K)
      repeat (first | (refine Grow.lex_move rfl ?_ rfl ?_; (· first | exact Grow.wanted_none | (rw [Hopsq.out]; rfl)); intro K hK; simp only [Grow.put_lit, Grow.setAt, Grow.eval_lit, Grow.ev]; refine hK _ _ ?_; clear hK K) | (refine Grow.lex_assign rfl ?_ rfl ?_; (· first | exact Grow.wanted_none | (rw [Hopsq.out]; rfl)); intro K hK; simp only [Grow.put_lit, Grow.setAt, Grow.eval_lit, Grow.ev]; refine hK _ _ ?_; clear hK K) | (refine Grow.lex_plain rfl rfl ?_ rfl ?_; (· first | exact Grow.wanted_none | (rw [Hopsq.out]; rfl)); apply Exists.intro; refine ⟨fun wq hCq _ => ?_, ?_⟩; (· (go_wp2_with fail; refine ⟨rfl, Below.refl _ _, ?_⟩; simp only [Grow.getD_lit, Grow.nth]; rfl)); intro K hK; simp only [Grow.put_lit, Grow.setAt]; refine hK _ _ ?_; clear hK K) | (refine Grow.lex_nilCheck rfl rfl ?_ rfl ?_; (· first | exact Grow.wanted_none | (rw [Hopsq.out]; rfl)); intro K hK; simp only [Grow.put_lit, Grow.setAt]; refine hK _ _ ?_; clear hK K) | (refine Grow.lex_skip ?_ ?_; (· (rw [Hopsq.out]; rfl)); intro K hK; simp only [Grow.put_lit, Grow.setAt]; refine hK _ _ ?_; clear hK K))
      refine Grow.lex_nil ?_
      intro w4 hb4 hTq
      have hown4 := apR_out (Grow.Holds.of_upd hTq).2
      replace hb4 := Grow.Cl.base hb4
      clear hTq Hopsq opsq t0 t1 t2 t3 t4 t5 t6 t7 u0 u1 u2 u3 x0 x1 x2 x3 x4
      have HO4 := Lib.hid hown4; have HB4 := Lib.hid hb4
      have HX4 := Lib.hid (HX.out.next hb4)
      clear hown4 hb4
      generalize applyF b mi r = m2 at *
      generalize applyE b mi r = e2 at *
      have y0 := (HX4.out).cell 0 _ rfl
      have y1 := (HX4.out).cell 1 _ rfl
      have y2 := (HX4.out).cell 2 _ rfl
      have y3 := (HX4.out).cell 3 _ rfl
      have f0 := HX4.out.fr 0; have f1 := HX4.out.fr 1; have f2 := HX4.out.fr 2; have f3 := HX4.out.fr 3
      refine ⟨⟨.tuple #[cvM m2 a2, .int .i64 e2], cvM m2 a2, .int .i64 e2, ((((w4.setCell ⟨gi, 0, none⟩ (.slice a2.p m2.ph.length a2.pc)).setCell ⟨gi, 1, none⟩ (.slice a2.f m2.fg.length a2.fc)).setCell ⟨gi, 2, none⟩ (.slice a2.l m2.lv.length a2.lc)).setCell ⟨gi, 3, none⟩ (.slice a2.e m2.en.length a2.ec)), ?_, ?_, ?_, ?_, ?_, ?_, ?_, ?_⟩⟩
      · first | rfl | (go_simp; done) | (go_simp; rfl)
      · (intro W; simp only [Grow.put_lit, Grow.setAt]; first | rfl | (go_simp; done) | (go_simp; rfl))
      · (intro W; simp only [Grow.put_lit, Grow.setAt]; first | rfl | (go_simp; done) | (go_simp; rfl))
      · (intro W; simp only [Grow.put_lit, Grow.setAt]; first | rfl | (go_simp; done) | (go_simp; rfl))
      · (intro W; simp only [Grow.put_lit, Grow.setAt]; first | rfl | (go_simp; done) | (go_simp; rfl))
      · (simp only [Grow.put_lit, Grow.setAt]; refine Grow.run_of_wp rfl ?_; go_wp2_with fail; try exact ⟨rfl, rfl⟩)
      · (simp only [Grow.put_lit, Grow.setAt]; refine Grow.run_of_wp rfl ?_; go_wp2_with fail; try exact ⟨rfl, rfl⟩)
      simp only [Grow.put_lit, Grow.setAt]
      clear y0 y1 y2 y3 f0 f1 f2 f3
      have hne2 := HO4.out.ge hgir
      go_wp2_with fail
      refine ⟨⟨i + 1, a2, by omega, by go_num, ?_, ?_, hne2, ?_, ?_, ?_⟩, by simp [intOf]; omega⟩
      · rw [HS.out]; exact (((HX4.out.set 0 _).set 1 _).set 2 _).set 3 _
      · rw [HS.out]
        exact (OwnM.setNe (OwnM.setNe (OwnM.setNe (OwnM.setNe HO4.out hne2) hne2) hne2) hne2).base (by have := HB.out.size; omega)
      · exact ((((HB.out.trans (HB4.out.mono (Nat.le_of_lt hgir))).setCell (p := ⟨gi, 0, none⟩) (Nat.le_refl _) _).setCell (p := ⟨gi, 1, none⟩) (Nat.le_refl _) _).setCell (p := ⟨gi, 2, none⟩) (Nat.le_refl _) _).setCell (p := ⟨gi, 3, none⟩) (Nat.le_refl _) _
      · have := HB4.out.size; simp; omega
      · intro k hk hkn
        repeat rw [Below.heap_setCell _ _ _ _ hkn]
        rw [HB4.out.block k (by omega)]
        exact HKP.out k hk hkn
    · have hd : decide ((i : Int) < (N : Int)) = false := by simp; omega
      have HE : Hid (imageF b l = imgK b (R.take i)) := Lib.hid (by rw [HIF.out, List.take_of_length_le (by rw [HNR.out]; omega)])
      generalize imgK b (R.take i) = mi at *
      have x0 := (HX.out).cell 0 _ rfl
      have x1 := (HX.out).cell 1 _ rfl
      have x2 := (HX.out).cell 2 _ rfl
      have x3 := (HX.out).cell 3 _ rfl
      have y0 := (HZ.out).cell 0 _ rfl
      have y1 := (HZ.out).cell 1 _ rfl
      have y2 := (HZ.out).cell 2 _ rfl
      have y3 := (HZ.out).cell 3 _ rfl
      have f0 := HZ.out.fr 0; have f1 := HZ.out.fr 1; have f2 := HZ.out.fr 2; have f3 := HZ.out.fr 3
      have hwg1 : w.heap.size ≤ g1 := by omega
      go_wp2_with fail
      have R3 := (((HZ.out.set 0 (.slice a'.p mi.ph.length a'.pc)).set 1 (.slice a'.f mi.fg.length a'.fc)).set 2 (.slice a'.l mi.lv.length a'.lc)).set 3 (.slice a'.e mi.en.length a'.ec)
      have r0 := (R3).cell 0 _ rfl
      have r1 := (R3).cell 1 _ rfl
      have r2 := (R3).cell 2 _ rfl
      have r3 := (R3).cell 3 _ rfl
      refine bodyPost_ret (v := cvM mi a') (by simp [results, Try.results11, go_sem, r0, r1, r2, r3]) rfl ⟨a', by rw [HE.out], by rw [HE.out]; exact (OwnM.set (OwnM.set (OwnM.set (OwnM.set HO.out hg1) hg1) hg1) hg1).base hsz, (((HW.out.setCell (p := ⟨g1, 0, none⟩) hwg1 _).setCell (p := ⟨g1, 1, none⟩) hwg1 _).setCell (p := ⟨g1, 2, none⟩) hwg1 _).setCell (p := ⟨g1, 3, none⟩) hwg1 _⟩
end Go.Proofs.Ytgoojlfpngmdlaa
