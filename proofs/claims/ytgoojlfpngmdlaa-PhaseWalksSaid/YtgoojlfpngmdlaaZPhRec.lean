/- The walks over the makers of records of phase, over burdened, Free and their references. Conditions: an image that can be read. -/
import Derived.Test.YtgoojlfpngmdlaaZPhCar
namespace Go.Proofs.Ytgoojlfpngmdlaa
open Go.RowKit
def recP (c t : Int) : R5 := (4, 0, 0, c, t)
def recLv (c v : Int) : R5 := (6, 0, 0, c, v)
def recFl (c : Int) : R5 := (5, 0, 0, c, 0)
/-- Records that can be read. -/
def recR (L : List R5) (v : Value) (w : World) : Prop := ∃ q c, v = .slice q L.length c ∧ RdX w q (recCells L)
theorem recR.next {L : List R5} {v : Value} {w w' : World} (h : recR L v w) (hb : Below w.heap.size w w') : recR L v w' := by
  obtain ⟨q, c, hv, hr⟩ := h
  exact ⟨q, c, hv, hr.next hb⟩
theorem recR_form {L : List R5} {v : Value} {w : World} (h : recR L v w) : ∃ q c, v = .slice q L.length c := by
  obtain ⟨q, c, h, _⟩ := h; exact ⟨q, c, h⟩
theorem recR_out {L : List R5} {n c : Nat} {q : Option Addr} {w : World} (h : recR L (.slice q n c) w) : RdX w q (recCells L) := by
  obtain ⟨q', c', h, h'⟩ := h
  cases h
  exact h'
theorem recR_nil (w : World) : recR [] (.slice none 0 0) w := ⟨none, 0, rfl, fun i u hu => by simp [recCells] at hu⟩
theorem recR_one (w : World) (r : R5) (ty : TypeId) : recR [r] (.slice (some ⟨w.heap.size, 0, none⟩) 1 1) (w.alloc (.cells #[.int .i64 r.1, .int .i64 r.2.1, .int .i64 r.2.2.1, .int .i64 r.2.2.2.1, .int .i64 r.2.2.2.2] ty)) :=
  ⟨_, 1, rfl, by rw [show recCells [r] = r.cell by simp [recCells]]; exact rdX_of_blk (Blk.new w r.cell ty)⟩
abbrev cvO (m : ImgV) (a : ImgA) (c : Int) (calm : Bool) : Value := .agg #[.slice a.p m.ph.length a.pc, .slice a.f m.fg.length a.fc, .slice a.l m.lv.length a.lc, .slice a.e m.en.length a.ec, .int .i64 c, .bool calm]
set_option maxHeartbeats 1000000 in
theorem in_any (m : ImgV) (a : ImgA) (c : Nat) (calm : Bool) (p x : Int) (w : World) (hc : m.ph[c]? = some p) (hm : RdM w m a) :
    Calls Try.prog 49 #[cvO m a c calm, .int .i64 x] w fun r w' => r = .returned (.bool (p == x)) ∧ Below w.heap.size w w' := by
  have X0 : Blk (w.alloc (.cells #[.slice a.p m.ph.length a.pc, .slice a.f m.fg.length a.fc, .slice a.l m.lv.length a.lc, .slice a.e m.en.length a.ec, .int .i64 (c : Int), .bool calm] 70)) w.heap.size [.slice a.p m.ph.length a.pc, .slice a.f m.fg.length a.fc, .slice a.l m.lv.length a.lc, .slice a.e m.en.length a.ec, .int .i64 (c : Int), .bool calm] := by
    have hx := Blk.new w [.slice a.p m.ph.length a.pc, .slice a.f m.fg.length a.fc, .slice a.l m.lv.length a.lc, .slice a.e m.en.length a.ec, .int .i64 (c : Int), .bool calm] 70
    exact hx
  have XW : Below w.heap.size w (w.alloc (.cells #[.slice a.p m.ph.length a.pc, .slice a.f m.fg.length a.fc, .slice a.l m.lv.length a.lc, .slice a.e m.en.length a.ec, .int .i64 (c : Int), .bool calm] 70)) := below1' w _
  have HWW := Lib.hid XW; have HX0 := Lib.hid X0
  clear XW X0
  have HM := Lib.hid (hm.next HWW.out); have HC := Lib.hid hc
  clear hm hc
  go_enter Try.func49, Try.ntmps49
  go_upto_region 1 with fail
  generalize (w.alloc (.cells #[.slice a.p m.ph.length a.pc, .slice a.f m.fg.length a.fc, .slice a.l m.lv.length a.lc, .slice a.e m.en.length a.ec, .int .i64 (c : Int), .bool calm] 70)) = w0 at *
  have HW := Lib.hid (Below.refl w0.heap.size w0)
  have hz0 := HX0.out.lt
  have y0 := (HX0.out).cell 0 _ rfl
  have y1 := (HX0.out).cell 1 _ rfl
  have y2 := (HX0.out).cell 2 _ rfl
  have y3 := (HX0.out).cell 3 _ rfl
  have y4 := (HX0.out).cell 4 _ rfl
  have y5 := (HX0.out).cell 5 _ rfl
  obtain ⟨A, hqA, _, cA⟩ := HM.out.1.it HC.out
  have hi0 : (0 : Int) ≤ (c : Int) := by omega
  have hin : (c : Int) < (m.ph.length : Int) := by have := (List.getElem?_eq_some_iff.1 HC.out).1; omega
  rw [hqA] at y0
  clear hqA
  go_wp2_with fail
  go_ret
  exact ⟨rfl, HWW.out⟩
set_option maxHeartbeats 1000000 in
theorem move_any (m : ImgV) (a : ImgA) (c : Int) (calm : Bool) (x : Int) (w : World) :
    Calls Try.prog 51 #[cvO m a c calm, .int .i64 x] w fun r w' => ∃ v, r = .returned v ∧ Below w.heap.size w w' ∧ recR [recP c x] v w' := by
  have X0 : Blk (w.alloc (.cells #[.slice a.p m.ph.length a.pc, .slice a.f m.fg.length a.fc, .slice a.l m.lv.length a.lc, .slice a.e m.en.length a.ec, .int .i64 c, .bool calm] 70)) w.heap.size [.slice a.p m.ph.length a.pc, .slice a.f m.fg.length a.fc, .slice a.l m.lv.length a.lc, .slice a.e m.en.length a.ec, .int .i64 c, .bool calm] := by
    have hx := Blk.new w [.slice a.p m.ph.length a.pc, .slice a.f m.fg.length a.fc, .slice a.l m.lv.length a.lc, .slice a.e m.en.length a.ec, .int .i64 c, .bool calm] 70
    exact hx
  have XW : Below w.heap.size w (w.alloc (.cells #[.slice a.p m.ph.length a.pc, .slice a.f m.fg.length a.fc, .slice a.l m.lv.length a.lc, .slice a.e m.en.length a.ec, .int .i64 c, .bool calm] 70)) := below1' w _
  have HWW := Lib.hid XW; have HX0 := Lib.hid X0
  clear XW X0
  go_enter Try.func51, Try.ntmps51
  go_upto_region 1 with fail
  generalize (w.alloc (.cells #[.slice a.p m.ph.length a.pc, .slice a.f m.fg.length a.fc, .slice a.l m.lv.length a.lc, .slice a.e m.en.length a.ec, .int .i64 c, .bool calm] 70)) = w0 at *
  have HW := Lib.hid (Below.refl w0.heap.size w0)
  have hz0 := HX0.out.lt
  have y0 := (HX0.out).cell 0 _ rfl
  have y1 := (HX0.out).cell 1 _ rfl
  have y2 := (HX0.out).cell 2 _ rfl
  have y3 := (HX0.out).cell 3 _ rfl
  have y4 := (HX0.out).cell 4 _ rfl
  have y5 := (HX0.out).cell 5 _ rfl
  have hb := below1' w0 (.cells #[.int .i64 (recP c x).1, .int .i64 (recP c x).2.1, .int .i64 (recP c x).2.2.1, .int .i64 (recP c x).2.2.2.1, .int .i64 (recP c x).2.2.2.2] 47)
  have hr := recR_one w0 (recP c x) 47
  go_wp2_with fail
  go_ret
  exact ⟨_, rfl, HWW.out.trans (hb.mono HWW.out.size), hr⟩
set_option maxHeartbeats 1000000 in
theorem refPhase_any (c x : Int) (w : World) :
    Calls Try.prog 40 #[.int .i64 c, .int .i64 x] w fun r w' => ∃ v, r = .returned v ∧ Below w.heap.size w w' ∧ recR [recP c x] v w' := by
  go_enter Try.func40, Try.ntmps40
  have hb := below1' w (.cells #[.int .i64 (recP c x).1, .int .i64 (recP c x).2.1, .int .i64 (recP c x).2.2.1, .int .i64 (recP c x).2.2.2.1, .int .i64 (recP c x).2.2.2.2] 47)
  have hr := recR_one w (recP c x) 47
  go_wp2_with fail
  go_ret
  exact ⟨_, rfl, hb, hr⟩
set_option maxHeartbeats 1000000 in
theorem when_any (ok : Bool) (er : Int) (q : Option Addr) (n c : Nat) (w : World) :
    Calls Try.prog 50 #[.bool ok, .int .i64 er, .slice q n c] w fun r w' => r = .returned (.tuple #[if ok then .slice q n c else .slice none 0 0, .int .i64 (if ok then 0 else er)]) ∧ Below w.heap.size w w' := by
  cases ok
  all_goals
    go_enter Try.func50, Try.ntmps50
    go_wp2_with fail
  · exact bodyPost_ret (v := .tuple #[.slice none 0 0, .int .i64 er]) (by simp [results, Try.results50, go_sem]) rfl ⟨rfl, Below.refl _ _⟩
  · exact bodyPost_ret (v := .tuple #[.slice q n c, .int .i64 0]) (by simp [results, Try.results50, go_sem]) rfl ⟨rfl, Below.refl _ _⟩
/-- Whether an entry has the car. -/
def burdN (m : ImgV) (c : Int) (k : Nat) : Bool := (m.en.take k).any fun e => e.2.2.1 == c
def burdB (m : ImgV) (c : Int) : Bool := m.en.any fun e => e.2.2.1 == c
theorem burdN_succ (m : ImgV) (c : Int) (k : Nat) (e : E5) (h : m.en[k]? = some e) : burdN m c (k + 1) = (burdN m c k || (e.2.2.1 == c)) := by
  unfold burdN
  rw [List.take_add_one, h, List.any_append]; simp
theorem burdB_hit (m : ImgV) (c : Int) (k : Nat) (e : E5) (h : m.en[k]? = some e) (he : e.2.2.1 = c) : burdB m c = true := by
  unfold burdB
  rw [List.any_eq_true]
  exact ⟨e, List.mem_of_getElem? h, by simp [he]⟩
set_option maxHeartbeats 2000000 in
theorem burdened_any (m : ImgV) (a : ImgA) (c : Int) (w : World) (he : m.en.length ≤ 1000) (hm : RdM w m a) :
    Calls Try.prog 33 #[cvM m a, .int .i64 c] w fun r w' => r = .returned (.bool (burdB m c)) ∧ Below w.heap.size w w' := by
  have X0 : Blk (w.alloc (.cells #[.slice a.p m.ph.length a.pc, .slice a.f m.fg.length a.fc, .slice a.l m.lv.length a.lc, .slice a.e m.en.length a.ec] 35)) w.heap.size [.slice a.p m.ph.length a.pc, .slice a.f m.fg.length a.fc, .slice a.l m.lv.length a.lc, .slice a.e m.en.length a.ec] := by
    have hx := Blk.new w [.slice a.p m.ph.length a.pc, .slice a.f m.fg.length a.fc, .slice a.l m.lv.length a.lc, .slice a.e m.en.length a.ec] 35
    exact hx
  have XW : Below w.heap.size w (w.alloc (.cells #[.slice a.p m.ph.length a.pc, .slice a.f m.fg.length a.fc, .slice a.l m.lv.length a.lc, .slice a.e m.en.length a.ec] 35)) := below1' w _
  have HWW := Lib.hid XW; have HX0 := Lib.hid X0
  clear XW X0
  have HM := Lib.hid (hm.next HWW.out)
  obtain ⟨n, hn⟩ : ∃ n, n = m.en.length := ⟨_, rfl⟩
  rw [← hn] at he
  have HN := Lib.hid hn
  clear hm hn
  go_enter Try.func33, Try.ntmps33
  go_upto_region 1 with fail
  generalize (w.alloc (.cells #[.slice a.p m.ph.length a.pc, .slice a.f m.fg.length a.fc, .slice a.l m.lv.length a.lc, .slice a.e m.en.length a.ec] 35)) = w0 at *
  have HW := Lib.hid (Below.refl w0.heap.size w0)
  have hz0 := HX0.out.lt
  have y0 := (HX0.out).cell 0 _ rfl
  have y1 := (HX0.out).cell 1 _ rfl
  have y2 := (HX0.out).cell 2 _ rfl
  have y3 := (HX0.out).cell 3 _ rfl
  rw [← HN.out] at y3
  go_wp2_with fail
  clear y0 y1 y2 y3
  go_loopw [10] (fun v wr => ∃ i : Nat, i ≤ n ∧ v = .int .i64 i ∧ burdN m c i = false ∧ Below w0.heap.size w0 wr) (fun v _ => n - (intOf v).toNat)
  case atStart => exact ⟨0, by omega, rfl, rfl, HW.out⟩
  case round =>
    clear HW
    obtain ⟨i, hi, rfl, ht, hb⟩ := hrel
    have HB := Lib.hid hb; have HT := Lib.hid ht
    clear hb ht
    by_cases hlt : i < n
    · have hd : decide ((i : Int) < (n : Int)) = true := by simp; omega
      obtain ⟨e, hx⟩ : ∃ e, m.en[i]? = some e := ⟨_, List.getElem?_eq_getElem (by rw [← HN.out]; exact hlt)⟩
      obtain ⟨A, hqA, _, x0, x1, x2, x3, x4⟩ := (HM.out.next HB.out).2.2.2.en5 hx
      rw [hqA]
      have HX := Lib.hid hx; have HW0 := Lib.hid HWW.out
      have hi0 : (0 : Int) ≤ (i : Int) := by omega
      have hin : (i : Int) < (n : Int) := by omega
      clear hx hqA
      have X0 : Blk (wr.alloc (.cells #[.int .i64 e.1, .int .i64 e.2.1, .int .i64 e.2.2.1, .int .i64 e.2.2.2.1, .bool e.2.2.2.2] 52)) wr.heap.size [.int .i64 e.1, .int .i64 e.2.1, .int .i64 e.2.2.1, .int .i64 e.2.2.2.1, .bool e.2.2.2.2] := by
        have hx := Blk.new wr [.int .i64 e.1, .int .i64 e.2.1, .int .i64 e.2.2.1, .int .i64 e.2.2.2.1, .bool e.2.2.2.2] 52
        exact hx
      have XW : Below wr.heap.size wr (wr.alloc (.cells #[.int .i64 e.1, .int .i64 e.2.1, .int .i64 e.2.2.1, .int .i64 e.2.2.2.1, .bool e.2.2.2.2] 52)) := below1' wr _
      have HWW := Lib.hid XW; have HX0 := Lib.hid X0
      clear XW X0
      go_upto_region 4 with fail
      generalize (wr.alloc (.cells #[.int .i64 e.1, .int .i64 e.2.1, .int .i64 e.2.2.1, .int .i64 e.2.2.2.1, .bool e.2.2.2.2] 52)) = w1 at *
      have HW := Lib.hid (Below.refl w1.heap.size w1)
      have hz0 := HX0.out.lt
      have HB1 := Lib.hid (HB.out.trans (HWW.out.mono HB.out.size))
      clear x0 x1 x2 x3 x4 hd
      have z0 := (HX0.out).cell 0 _ rfl
      have z1 := (HX0.out).cell 1 _ rfl
      have z2 := (HX0.out).cell 2 _ rfl
      have z3 := (HX0.out).cell 3 _ rfl
      have z4 := (HX0.out).cell 4 _ rfl
      by_cases hc : e.2.2.1 = c
      · have HF := Lib.hid (burdB_hit m c i e HX.out hc)
        have hcc : (e.2.2.1 == c) = true := by simpa using hc
        clear hc
        go_wp2_with fail
        go_ret
        exact ⟨congrArg (fun b => Ending.returned (.bool b)) HF.out.symm, HW0.out.trans (HB1.out.mono HW0.out.size)⟩
      · have hcc : (e.2.2.1 == c) = false := by simpa using hc
        have HF : Hid (burdN m c (i + 1) = false) := Lib.hid (by rw [burdN_succ m c i e HX.out, HT.out, hcc]; rfl)
        clear hc
        go_wp2_with fail
        exact ⟨⟨i + 1, by omega, by go_num, HF.out, HB1.out⟩, by simp [intOf]; omega⟩
    · have HW0 := Lib.hid HWW.out
      have hd : decide ((i : Int) < (n : Int)) = false := by simp; omega
      have HF : Hid (burdB m c = false) := Lib.hid (by have := HT.out; unfold burdN at this; rwa [show i = m.en.length by rw [← HN.out]; omega, List.take_length] at this)
      go_wp2_with fail
      go_ret
      exact ⟨congrArg (fun b => Ending.returned (.bool b)) HF.out.symm, HW0.out.trans (HB.out.mono HW0.out.size)⟩
set_option maxHeartbeats 2000000 in
theorem unburdened_any (m : ImgV) (a : ImgA) (c : Int) (w : World) (he : m.en.length ≤ 1000) (hm : RdM w m a) :
    Calls Try.prog 43 #[cvM m a, .int .i64 c] w fun r w' => r = .returned (.bool (!burdB m c)) ∧ Below w.heap.size w w' := by
  have X0 : Blk (w.alloc (.cells #[.slice a.p m.ph.length a.pc, .slice a.f m.fg.length a.fc, .slice a.l m.lv.length a.lc, .slice a.e m.en.length a.ec] 35)) w.heap.size [.slice a.p m.ph.length a.pc, .slice a.f m.fg.length a.fc, .slice a.l m.lv.length a.lc, .slice a.e m.en.length a.ec] := by
    have hx := Blk.new w [.slice a.p m.ph.length a.pc, .slice a.f m.fg.length a.fc, .slice a.l m.lv.length a.lc, .slice a.e m.en.length a.ec] 35
    exact hx
  have XW : Below w.heap.size w (w.alloc (.cells #[.slice a.p m.ph.length a.pc, .slice a.f m.fg.length a.fc, .slice a.l m.lv.length a.lc, .slice a.e m.en.length a.ec] 35)) := below1' w _
  have HWW := Lib.hid XW; have HX0 := Lib.hid X0
  clear XW X0
  have HM := Lib.hid (hm.next HWW.out)
  obtain ⟨n, hn⟩ : ∃ n, n = m.en.length := ⟨_, rfl⟩
  rw [← hn] at he
  have HN := Lib.hid hn
  clear hm hn
  go_enter Try.func43, Try.ntmps43
  go_upto_region 1 with fail
  generalize (w.alloc (.cells #[.slice a.p m.ph.length a.pc, .slice a.f m.fg.length a.fc, .slice a.l m.lv.length a.lc, .slice a.e m.en.length a.ec] 35)) = w0 at *
  have HW := Lib.hid (Below.refl w0.heap.size w0)
  have hz0 := HX0.out.lt
  go_wp2_with fail
  have HW0 := Lib.hid HWW.out
  go_loopw [5] (fun v wr => ∃ i : Nat, i ≤ n ∧ v = .int .i64 i ∧ burdN m c i = false ∧ Below w0.heap.size w0 wr) (fun v _ => n - (intOf v).toNat)
  case atStart => exact ⟨0, by omega, rfl, rfl, HW.out⟩
  case round =>
    clear HW
    obtain ⟨i, hi, rfl, ht, hb⟩ := hrel
    have HB := Lib.hid hb; have HT := Lib.hid ht
    clear hb ht
    have y3 := (HX0.out.next HB.out).cell 3 _ rfl
    rw [← HN.out] at y3
    by_cases hlt : i < n
    · have hd : decide ((i : Int) < (n : Int)) = true := by simp; omega
      obtain ⟨e, hx⟩ : ∃ e, m.en[i]? = some e := ⟨_, List.getElem?_eq_getElem (by rw [← HN.out]; exact hlt)⟩
      obtain ⟨A, hqA, _, x0, x1, x2, x3, x4⟩ := (HM.out.next HB.out).2.2.2.en5 hx
      rw [hqA] at y3
      have HX := Lib.hid hx
      have hi0 : (0 : Int) ≤ (i : Int) := by omega
      have hin : (i : Int) < (n : Int) := by omega
      clear hx hqA
      by_cases hc : e.2.2.1 = c
      · have HF := Lib.hid (burdB_hit m c i e HX.out hc)
        have hcc : (e.2.2.1 == c) = true := by simpa using hc
        clear hc
        go_wp2_with fail
        go_ret
        exact ⟨by rw [HF.out]; rfl, HW0.out.trans (HB.out.mono HW0.out.size)⟩
      · have hcc : (e.2.2.1 == c) = false := by simpa using hc
        have HF : Hid (burdN m c (i + 1) = false) := Lib.hid (by rw [burdN_succ m c i e HX.out, HT.out, hcc]; rfl)
        clear hc
        go_wp2_with fail
        exact ⟨⟨i + 1, by omega, by go_num, HF.out, HB.out⟩, by simp [intOf]; omega⟩
    · have HW0 := Lib.hid HWW.out
      have hd : decide ((i : Int) < (n : Int)) = false := by simp; omega
      have HF : Hid (burdB m c = false) := Lib.hid (by have := HT.out; unfold burdN at this; rwa [show i = m.en.length by rw [← HN.out]; omega, List.take_length] at this)
      go_wp2_with fail
      go_ret
      exact ⟨by rw [HF.out]; rfl, HW0.out.trans (HB.out.mono HW0.out.size)⟩
theorem imgB_facts {b : BldV} {m : ImgV} (h : imgB b m = true) : m.lv.length = m.ph.length ∧ m.fg.length = m.ph.length ∧ m.ph.length = b.cars.length ∧ ∀ p ∈ m.ph, inR 0 4 p = true := by
  simp only [imgB, headM, Bool.and_eq_true, decide_eq_true_eq] at h
  refine ⟨by omega, by omega, by omega, ?_⟩
  have := h.1.2
  unfold phB at this
  rw [List.all_eq_true] at this
  exact this
def freeF (b : BldV) (m : ImgV) : Bool := imgB b m && freeB m
set_option maxHeartbeats 2000000 in
set_option maxRecDepth 100000 in
theorem pfree_any (b : BldV) (q : Option Addr) (cap : Nat) (m : ImgV) (a : ImgA) (w : World) (hlen : b.cars.length ≤ 1000) (hsl : ∀ c ∈ b.cars, -9223372036854775808 ≤ c.sl ∧ c.sl < 9223372036854775807) (hp : m.ph.length ≤ 1000) (he : m.en.length ≤ 1000) (hr : RdC w q b.cars) (hm : RdM w m a) :
    Calls Try.prog 25 #[cvB b q cap, cvM m a] w fun r w' => r = .returned (.bool (freeF b m)) ∧ Below w.heap.size w w' := by
  have X0 : Blk (w.alloc (.cells #[.int .i64 b.fl, .int .i64 b.deb, .int .i64 b.room, .int .i64 b.park, .float .f64 b.em, .float .f64 b.fu, .float .f64 b.ov, .slice q b.cars.length cap] 29)) w.heap.size [.int .i64 b.fl, .int .i64 b.deb, .int .i64 b.room, .int .i64 b.park, .float .f64 b.em, .float .f64 b.fu, .float .f64 b.ov, .slice q b.cars.length cap] := by
    have hx := Blk.new w [.int .i64 b.fl, .int .i64 b.deb, .int .i64 b.room, .int .i64 b.park, .float .f64 b.em, .float .f64 b.fu, .float .f64 b.ov, .slice q b.cars.length cap] 29
    exact hx
  replace X0 : Blk ((w.alloc (.cells #[.int .i64 b.fl, .int .i64 b.deb, .int .i64 b.room, .int .i64 b.park, .float .f64 b.em, .float .f64 b.fu, .float .f64 b.ov, .slice q b.cars.length cap] 29)).alloc (.cells #[.slice a.p m.ph.length a.pc, .slice a.f m.fg.length a.fc, .slice a.l m.lv.length a.lc, .slice a.e m.en.length a.ec] 35)) w.heap.size [.int .i64 b.fl, .int .i64 b.deb, .int .i64 b.room, .int .i64 b.park, .float .f64 b.em, .float .f64 b.fu, .float .f64 b.ov, .slice q b.cars.length cap] := X0.next (below1' _ _)
  have X1 : Blk ((w.alloc (.cells #[.int .i64 b.fl, .int .i64 b.deb, .int .i64 b.room, .int .i64 b.park, .float .f64 b.em, .float .f64 b.fu, .float .f64 b.ov, .slice q b.cars.length cap] 29)).alloc (.cells #[.slice a.p m.ph.length a.pc, .slice a.f m.fg.length a.fc, .slice a.l m.lv.length a.lc, .slice a.e m.en.length a.ec] 35)) (w.heap.size + 1) [.slice a.p m.ph.length a.pc, .slice a.f m.fg.length a.fc, .slice a.l m.lv.length a.lc, .slice a.e m.en.length a.ec] := by
    have hx := Blk.new (w.alloc (.cells #[.int .i64 b.fl, .int .i64 b.deb, .int .i64 b.room, .int .i64 b.park, .float .f64 b.em, .float .f64 b.fu, .float .f64 b.ov, .slice q b.cars.length cap] 29)) [.slice a.p m.ph.length a.pc, .slice a.f m.fg.length a.fc, .slice a.l m.lv.length a.lc, .slice a.e m.en.length a.ec] 35
    rw [World.size_alloc] at hx
    exact hx
  have XW : Below w.heap.size w (w.alloc (.cells #[.int .i64 b.fl, .int .i64 b.deb, .int .i64 b.room, .int .i64 b.park, .float .f64 b.em, .float .f64 b.fu, .float .f64 b.ov, .slice q b.cars.length cap] 29)) := below1' w _
  replace XW : Below w.heap.size w ((w.alloc (.cells #[.int .i64 b.fl, .int .i64 b.deb, .int .i64 b.room, .int .i64 b.park, .float .f64 b.em, .float .f64 b.fu, .float .f64 b.ov, .slice q b.cars.length cap] 29)).alloc (.cells #[.slice a.p m.ph.length a.pc, .slice a.f m.fg.length a.fc, .slice a.l m.lv.length a.lc, .slice a.e m.en.length a.ec] 35)) := XW.trans ((below1' _ _).mono XW.size)
  have HWW := Lib.hid XW; have HX0 := Lib.hid X0; have HX1 := Lib.hid X1
  clear XW X0 X1
  have HR := Lib.hid (hr.next HWW.out); have HM := Lib.hid (hm.next HWW.out)
  have HL := Lib.hid hlen; have HP := Lib.hid hp; have HE := Lib.hid he; have HSL := Lib.hid hsl
  clear hr hm hlen hp he hsl
  go_enter Try.func25, Try.ntmps25
  go_upto_region 1 with fail
  generalize ((w.alloc (.cells #[.int .i64 b.fl, .int .i64 b.deb, .int .i64 b.room, .int .i64 b.park, .float .f64 b.em, .float .f64 b.fu, .float .f64 b.ov, .slice q b.cars.length cap] 29)).alloc (.cells #[.slice a.p m.ph.length a.pc, .slice a.f m.fg.length a.fc, .slice a.l m.lv.length a.lc, .slice a.e m.en.length a.ec] 35)) = w0 at *
  generalize hg1 : w.heap.size + 1 = g1 at *
  have HG1 := Lib.hid hg1; have hq1 : w.heap.size + 1 ≤ g1 := by omega
  clear hg1
  have HW := Lib.hid (Below.refl w0.heap.size w0)
  have hz0 := HX0.out.lt; have hz1 := HX1.out.lt
  have k0 := (HX0.out).cell 0 _ rfl
  have k1 := (HX0.out).cell 1 _ rfl
  have k2 := (HX0.out).cell 2 _ rfl
  have k3 := (HX0.out).cell 3 _ rfl
  have k4 := (HX0.out).cell 4 _ rfl
  have k5 := (HX0.out).cell 5 _ rfl
  have k6 := (HX0.out).cell 6 _ rfl
  have k7 := (HX0.out).cell 7 _ rfl
  have y0 := (HX1.out).cell 0 _ rfl
  have y1 := (HX1.out).cell 1 _ rfl
  have y2 := (HX1.out).cell 2 _ rfl
  have y3 := (HX1.out).cell 3 _ rfl
  go_wp2_with fail
  have hh := isImage_any b q cap m a w0 HL.out HP.out HE.out HR.out HM.out
  refine hh.mono ?_
  clear hh
  rintro e w1 ⟨rfl, hb1⟩
  have HX1' := Lib.hid (HX1.out.next hb1); have HM1 := Lib.hid (HM.out.next hb1); have HW1 := Lib.hid (HWW.out.trans (hb1.mono HWW.out.size))
  clear hb1 HX0 HX1 HWW HR HM HW k0 k1 k2 k3 k4 k5 k6 k7 y0 y1 y2 y3
  have y0 := (HX1'.out).cell 0 _ rfl
  have y1 := (HX1'.out).cell 1 _ rfl
  have y2 := (HX1'.out).cell 2 _ rfl
  have y3 := (HX1'.out).cell 3 _ rfl
  cases hi : imgB b m
  · have HF : Hid (freeF b m = false) := Lib.hid (by unfold freeF; rw [hi]; rfl)
    clear hi
    go_wp2_with fail
    go_ret
    exact ⟨congrArg (fun b => Ending.returned (.bool b)) HF.out.symm, HW1.out⟩
  · have HF : Hid (freeF b m = freeB m) := Lib.hid (by unfold freeF; rw [hi]; rfl)
    have hf := imgB_facts hi
    have hh := (free_any m a _ HP.out hf.1 hf.2.2.2 HM1.out)
    clear hi hf
    go_wp2_with fail
    refine hh.mono ?_
    clear hh
    rintro e w2 ⟨rfl, hb2⟩
    have HW2 := Lib.hid (HW1.out.trans (hb2.mono HW1.out.size))
    clear hb2
    go_wp2_with fail
    go_ret
    refine ⟨congrArg (fun b => Ending.returned (.bool b)) ?_, HW2.out⟩
    first
      | exact HF.out.symm
      | (rw [HF.out]; unfold freeB; rw [Bool.eq_iff_iff]; simp only [beq_iff_eq, decide_eq_true_eq]; omega)
set_option maxHeartbeats 2000000 in
set_option maxRecDepth 100000 in
theorem refFree_any (b : BldV) (q : Option Addr) (cap : Nat) (m : ImgV) (a : ImgA) (w : World) (hlen : b.cars.length ≤ 1000) (hsl : ∀ c ∈ b.cars, -9223372036854775808 ≤ c.sl ∧ c.sl < 9223372036854775807) (hp : m.ph.length ≤ 1000) (he : m.en.length ≤ 1000) (hr : RdC w q b.cars) (hm : RdM w m a) :
    Calls Try.prog 26 #[cvB b q cap, cvM m a] w fun r w' => r = .returned (.bool (freeF b m)) ∧ Below w.heap.size w w' := by
  have X0 : Blk (w.alloc (.cells #[.int .i64 b.fl, .int .i64 b.deb, .int .i64 b.room, .int .i64 b.park, .float .f64 b.em, .float .f64 b.fu, .float .f64 b.ov, .slice q b.cars.length cap] 29)) w.heap.size [.int .i64 b.fl, .int .i64 b.deb, .int .i64 b.room, .int .i64 b.park, .float .f64 b.em, .float .f64 b.fu, .float .f64 b.ov, .slice q b.cars.length cap] := by
    have hx := Blk.new w [.int .i64 b.fl, .int .i64 b.deb, .int .i64 b.room, .int .i64 b.park, .float .f64 b.em, .float .f64 b.fu, .float .f64 b.ov, .slice q b.cars.length cap] 29
    exact hx
  replace X0 : Blk ((w.alloc (.cells #[.int .i64 b.fl, .int .i64 b.deb, .int .i64 b.room, .int .i64 b.park, .float .f64 b.em, .float .f64 b.fu, .float .f64 b.ov, .slice q b.cars.length cap] 29)).alloc (.cells #[.slice a.p m.ph.length a.pc, .slice a.f m.fg.length a.fc, .slice a.l m.lv.length a.lc, .slice a.e m.en.length a.ec] 35)) w.heap.size [.int .i64 b.fl, .int .i64 b.deb, .int .i64 b.room, .int .i64 b.park, .float .f64 b.em, .float .f64 b.fu, .float .f64 b.ov, .slice q b.cars.length cap] := X0.next (below1' _ _)
  have X1 : Blk ((w.alloc (.cells #[.int .i64 b.fl, .int .i64 b.deb, .int .i64 b.room, .int .i64 b.park, .float .f64 b.em, .float .f64 b.fu, .float .f64 b.ov, .slice q b.cars.length cap] 29)).alloc (.cells #[.slice a.p m.ph.length a.pc, .slice a.f m.fg.length a.fc, .slice a.l m.lv.length a.lc, .slice a.e m.en.length a.ec] 35)) (w.heap.size + 1) [.slice a.p m.ph.length a.pc, .slice a.f m.fg.length a.fc, .slice a.l m.lv.length a.lc, .slice a.e m.en.length a.ec] := by
    have hx := Blk.new (w.alloc (.cells #[.int .i64 b.fl, .int .i64 b.deb, .int .i64 b.room, .int .i64 b.park, .float .f64 b.em, .float .f64 b.fu, .float .f64 b.ov, .slice q b.cars.length cap] 29)) [.slice a.p m.ph.length a.pc, .slice a.f m.fg.length a.fc, .slice a.l m.lv.length a.lc, .slice a.e m.en.length a.ec] 35
    rw [World.size_alloc] at hx
    exact hx
  have XW : Below w.heap.size w (w.alloc (.cells #[.int .i64 b.fl, .int .i64 b.deb, .int .i64 b.room, .int .i64 b.park, .float .f64 b.em, .float .f64 b.fu, .float .f64 b.ov, .slice q b.cars.length cap] 29)) := below1' w _
  replace XW : Below w.heap.size w ((w.alloc (.cells #[.int .i64 b.fl, .int .i64 b.deb, .int .i64 b.room, .int .i64 b.park, .float .f64 b.em, .float .f64 b.fu, .float .f64 b.ov, .slice q b.cars.length cap] 29)).alloc (.cells #[.slice a.p m.ph.length a.pc, .slice a.f m.fg.length a.fc, .slice a.l m.lv.length a.lc, .slice a.e m.en.length a.ec] 35)) := XW.trans ((below1' _ _).mono XW.size)
  have HWW := Lib.hid XW; have HX0 := Lib.hid X0; have HX1 := Lib.hid X1
  clear XW X0 X1
  have HR := Lib.hid (hr.next HWW.out); have HM := Lib.hid (hm.next HWW.out)
  have HL := Lib.hid hlen; have HP := Lib.hid hp; have HE := Lib.hid he; have HSL := Lib.hid hsl
  clear hr hm hlen hp he hsl
  go_enter Try.func26, Try.ntmps26
  go_upto_region 1 with fail
  generalize ((w.alloc (.cells #[.int .i64 b.fl, .int .i64 b.deb, .int .i64 b.room, .int .i64 b.park, .float .f64 b.em, .float .f64 b.fu, .float .f64 b.ov, .slice q b.cars.length cap] 29)).alloc (.cells #[.slice a.p m.ph.length a.pc, .slice a.f m.fg.length a.fc, .slice a.l m.lv.length a.lc, .slice a.e m.en.length a.ec] 35)) = w0 at *
  generalize hg1 : w.heap.size + 1 = g1 at *
  have HG1 := Lib.hid hg1; have hq1 : w.heap.size + 1 ≤ g1 := by omega
  clear hg1
  have HW := Lib.hid (Below.refl w0.heap.size w0)
  have hz0 := HX0.out.lt; have hz1 := HX1.out.lt
  have k0 := (HX0.out).cell 0 _ rfl
  have k1 := (HX0.out).cell 1 _ rfl
  have k2 := (HX0.out).cell 2 _ rfl
  have k3 := (HX0.out).cell 3 _ rfl
  have k4 := (HX0.out).cell 4 _ rfl
  have k5 := (HX0.out).cell 5 _ rfl
  have k6 := (HX0.out).cell 6 _ rfl
  have k7 := (HX0.out).cell 7 _ rfl
  have y0 := (HX1.out).cell 0 _ rfl
  have y1 := (HX1.out).cell 1 _ rfl
  have y2 := (HX1.out).cell 2 _ rfl
  have y3 := (HX1.out).cell 3 _ rfl
  go_wp2_with fail
  have hh := refIsImage_any b q cap m a w0 HL.out HSL.out HP.out HE.out HR.out HM.out
  refine hh.mono ?_
  clear hh
  rintro e w1 ⟨rfl, hb1⟩
  have HX1' := Lib.hid (HX1.out.next hb1); have HM1 := Lib.hid (HM.out.next hb1); have HW1 := Lib.hid (HWW.out.trans (hb1.mono HWW.out.size))
  clear hb1 HX0 HX1 HWW HR HM HW k0 k1 k2 k3 k4 k5 k6 k7 y0 y1 y2 y3
  have y0 := (HX1'.out).cell 0 _ rfl
  have y1 := (HX1'.out).cell 1 _ rfl
  have y2 := (HX1'.out).cell 2 _ rfl
  have y3 := (HX1'.out).cell 3 _ rfl
  cases hi : imgB b m
  · have HF : Hid (freeF b m = false) := Lib.hid (by unfold freeF; rw [hi]; rfl)
    clear hi
    go_wp2_with fail
    go_ret
    exact ⟨congrArg (fun b => Ending.returned (.bool b)) HF.out.symm, HW1.out⟩
  · have HF : Hid (freeF b m = freeB m) := Lib.hid (by unfold freeF; rw [hi]; rfl)
    have hf := imgB_facts hi
    have hh := (transit_any m a _ HP.out hf.1 HM1.out)
    clear hi hf
    go_wp2_with fail
    refine hh.mono ?_
    clear hh
    rintro e w2 ⟨rfl, hb2⟩
    have HW2 := Lib.hid (HW1.out.trans (hb2.mono HW1.out.size))
    clear hb2
    go_wp2_with fail
    go_ret
    refine ⟨congrArg (fun b => Ending.returned (.bool b)) ?_, HW2.out⟩
    first
      | exact HF.out.symm
      | (rw [HF.out]; unfold freeB; rw [Bool.eq_iff_iff]; simp only [beq_iff_eq, decide_eq_true_eq]; omega)
end Go.Proofs.Ytgoojlfpngmdlaa
