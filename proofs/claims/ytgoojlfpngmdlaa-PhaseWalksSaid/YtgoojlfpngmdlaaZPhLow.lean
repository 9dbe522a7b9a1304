/- The walks over the small functions of phase and its reference: free and Transit, isCar, Ready, Serving, burdened. Conditions: an image that can be read. -/
import Derived.Test.YtgoojlfpngmdlaaZEdge
import Derived.Test.YtgoojlfpngmdlaaZImgI
import Derived.Test.YtgoojlfpngmdlaaZImgR
namespace Go.Proofs.Ytgoojlfpngmdlaa
open Go.RowKit
def phAt (m : ImgV) (i : Nat) : Int := (m.ph[i]?).getD 0
def fgAt (m : ImgV) (i : Nat) : Bool := (m.fg[i]?).getD false
def lvAt (m : ImgV) (i : Nat) : Bool := (m.lv[i]?).getD false
/-- Whether a car is in transition. -/
def transB (p : Int) (l : Bool) : Bool := (!(p == 0) && !(p == 4)) || l
/-- How many of the first k are. -/
def transN (m : ImgV) : Nat → Nat
  | 0 => 0
  | k + 1 => transN m k + if transB (phAt m k) (lvAt m k) then 1 else 0
theorem transN_le (m : ImgV) (k : Nat) : transN m k ≤ k := by
  induction k with
  | zero => exact Nat.le_refl _
  | succ k ih => unfold transN; split <;> omega
theorem transN_mono (m : ImgV) (i n : Nat) (h : i ≤ n) : transN m i ≤ transN m n := by
  induction n with
  | zero => obtain rfl : i = 0 := by omega
            exact Nat.le_refl _
  | succ n ih =>
    by_cases e : i = n + 1
    · subst e; exact Nat.le_refl _
    · have := ih (by omega)
      have h2 : transN m (n + 1) = transN m n + if transB (phAt m n) (lvAt m n) then 1 else 0 := rfl
      omega
def freeB (m : ImgV) : Bool := decide (transN m m.ph.length = 0)
theorem freeB_not (m : ImgV) (i : Nat) (hi : i < m.ph.length) (h : transB (phAt m i) (lvAt m i) = true) : freeB m = false := by
  have h1 := transN_mono m (i + 1) m.ph.length (by omega)
  have h2 : transN m (i + 1) = transN m i + 1 := by simp [transN, h]
  unfold freeB
  exact decide_eq_false (by omega)
theorem phAt_of {m : ImgV} {i : Nat} {x : Int} (h : m.ph[i]? = some x) : phAt m i = x := by simp [phAt, h]
theorem fgAt_of {m : ImgV} {i : Nat} {x : Bool} (h : m.fg[i]? = some x) : fgAt m i = x := by simp [fgAt, h]
theorem lvAt_of {m : ImgV} {i : Nat} {x : Bool} (h : m.lv[i]? = some x) : lvAt m i = x := by simp [lvAt, h]
theorem ph_five {p : Int} (h : inR 0 4 p = true) : p = 0 ∨ p = 1 ∨ p = 2 ∨ p = 3 ∨ p = 4 := by
  rw [inR_iff] at h; omega
set_option maxHeartbeats 4000000 in
set_option maxRecDepth 100000 in
theorem free_any (m : ImgV) (a : ImgA) (w : World) (hp : m.ph.length ≤ 1000) (hl : m.lv.length = m.ph.length) (h5 : ∀ p ∈ m.ph, inR 0 4 p = true) (hm : RdM w m a) :
    Calls Try.prog 44 #[cvM m a] w fun r w' => r = .returned (.bool (freeB m)) ∧ Below w.heap.size w w' := by
  have X0 : Blk (w.alloc (.cells #[.slice a.p m.ph.length a.pc, .slice a.f m.fg.length a.fc, .slice a.l m.lv.length a.lc, .slice a.e m.en.length a.ec] 35)) w.heap.size [.slice a.p m.ph.length a.pc, .slice a.f m.fg.length a.fc, .slice a.l m.lv.length a.lc, .slice a.e m.en.length a.ec] := by
    have hx := Blk.new w [.slice a.p m.ph.length a.pc, .slice a.f m.fg.length a.fc, .slice a.l m.lv.length a.lc, .slice a.e m.en.length a.ec] 35
    exact hx
  have XW : Below w.heap.size w (w.alloc (.cells #[.slice a.p m.ph.length a.pc, .slice a.f m.fg.length a.fc, .slice a.l m.lv.length a.lc, .slice a.e m.en.length a.ec] 35)) := below1' w _
  have HWW := Lib.hid XW; have HX0 := Lib.hid X0
  clear XW X0
  have HM := Lib.hid (hm.next HWW.out); have H5 := Lib.hid h5
  obtain ⟨n, hn⟩ : ∃ n, n = m.ph.length := ⟨_, rfl⟩
  rw [← hn] at hp hl
  have HN := Lib.hid hn; have HLV := Lib.hid hl
  clear hm hn h5 hl
  go_enter Try.func44, Try.ntmps44
  go_upto_region 1 with fail
  generalize (w.alloc (.cells #[.slice a.p m.ph.length a.pc, .slice a.f m.fg.length a.fc, .slice a.l m.lv.length a.lc, .slice a.e m.en.length a.ec] 35)) = w0 at *
  have HW := Lib.hid (Below.refl w0.heap.size w0)
  have hz0 := HX0.out.lt
  have y0 := (HX0.out).cell 0 _ rfl
  have y1 := (HX0.out).cell 1 _ rfl
  have y2 := (HX0.out).cell 2 _ rfl
  have y3 := (HX0.out).cell 3 _ rfl
  rw [← HN.out] at y0
  go_wp2_with fail
  clear y0 y1 y2 y3
  go_loopw [8] (fun v wr => ∃ i : Nat, i ≤ n ∧ v = .int .i64 i ∧ transN m i = 0 ∧ Below w0.heap.size w0 wr) (fun v _ => n - (intOf v).toNat)
  case atStart => exact ⟨0, by omega, rfl, rfl, HW.out⟩
  case round =>
    clear HW
    obtain ⟨i, hi, rfl, ht, hb⟩ := hrel
    have HB := Lib.hid hb; have HT := Lib.hid ht
    clear hb ht
    have HWN := Lib.hid (HWW.out.trans (HB.out.mono HWW.out.size))
    by_cases hlt : i < n
    · have hd : decide ((i : Int) < (n : Int)) = true := by simp; omega
      obtain ⟨p, hp⟩ : ∃ p, m.ph[i]? = some p := ⟨_, List.getElem?_eq_getElem (by rw [← HN.out]; exact hlt)⟩
      obtain ⟨l, hl⟩ : ∃ l, m.lv[i]? = some l := ⟨_, List.getElem?_eq_getElem (by rw [HLV.out]; exact hlt)⟩
      obtain ⟨A, hqA, _, cA⟩ := (HM.out.next HB.out).1.it hp
      obtain ⟨B, hqB, _, cB⟩ := (HM.out.next HB.out).2.2.1.bl hl
      have y2 := (HX0.out.next HB.out).cell 2 _ rfl
      rw [hqB, HLV.out] at y2
      rw [hqA]
      have HS : Hid (transN m (i + 1) = transN m i + if transB p l then 1 else 0) := Lib.hid (by rw [transN, phAt_of hp, lvAt_of hl])
      have HF : Hid (transB p l = true → freeB m = false) := Lib.hid fun h => freeB_not m i (by rw [← HN.out]; exact hlt) (by rw [phAt_of hp, lvAt_of hl]; exact h)
      have hi0 : (0 : Int) ≤ (i : Int) := by omega
      have hin : (i : Int) < (n : Int) := by omega
      have h5p := ph_five (H5.out p (List.mem_of_getElem? hp))
      clear hp hl hqA hqB
      rcases h5p with rfl | rfl | rfl | rfl | rfl
      · cases l
        · have HS2 : Hid (transN m (i + 1) = 0) := Lib.hid (by rw [HS.out, HT.out]; rfl)
          go_wp2_with fail
          exact ⟨⟨i + 1, by omega, by go_num, HS2.out, HB.out⟩, by simp [intOf]; omega⟩
        · have HFF := Lib.hid (HF.out rfl)
          go_wp2_with fail
          go_ret
          exact ⟨congrArg (fun b => Ending.returned (.bool b)) HFF.out.symm, HWN.out⟩
      · have HFF := Lib.hid (HF.out rfl)
        go_wp2_with fail
        go_ret
        exact ⟨congrArg (fun b => Ending.returned (.bool b)) HFF.out.symm, HWN.out⟩
      · have HFF := Lib.hid (HF.out rfl)
        go_wp2_with fail
        go_ret
        exact ⟨congrArg (fun b => Ending.returned (.bool b)) HFF.out.symm, HWN.out⟩
      · have HFF := Lib.hid (HF.out rfl)
        go_wp2_with fail
        go_ret
        exact ⟨congrArg (fun b => Ending.returned (.bool b)) HFF.out.symm, HWN.out⟩
      · cases l
        · have HS2 : Hid (transN m (i + 1) = 0) := Lib.hid (by rw [HS.out, HT.out]; rfl)
          go_wp2_with fail
          exact ⟨⟨i + 1, by omega, by go_num, HS2.out, HB.out⟩, by simp [intOf]; omega⟩
        · have HFF := Lib.hid (HF.out rfl)
          go_wp2_with fail
          go_ret
          exact ⟨congrArg (fun b => Ending.returned (.bool b)) HFF.out.symm, HWN.out⟩
    · have hd : decide ((i : Int) < (n : Int)) = false := by simp; omega
      have HR : freeB m = true := by unfold freeB; rw [show m.ph.length = i by rw [← HN.out]; omega, HT.out]; rfl
      have HRR := Lib.hid HR
      clear HR
      go_wp2_with fail
      go_ret
      exact ⟨congrArg (fun b => Ending.returned (.bool b)) HRR.out.symm, HWN.out⟩
set_option maxHeartbeats 4000000 in
set_option maxRecDepth 100000 in
theorem transit_any (m : ImgV) (a : ImgA) (w : World) (hp : m.ph.length ≤ 1000) (hl : m.lv.length = m.ph.length) (hm : RdM w m a) :
    Calls Try.prog 17 #[cvM m a] w fun r w' => r = .returned (.int .i64 (transN m m.ph.length : Int)) ∧ Below w.heap.size w w' := by
  have X0 : Blk (w.alloc (.cells #[.slice a.p m.ph.length a.pc, .slice a.f m.fg.length a.fc, .slice a.l m.lv.length a.lc, .slice a.e m.en.length a.ec] 35)) w.heap.size [.slice a.p m.ph.length a.pc, .slice a.f m.fg.length a.fc, .slice a.l m.lv.length a.lc, .slice a.e m.en.length a.ec] := by
    have hx := Blk.new w [.slice a.p m.ph.length a.pc, .slice a.f m.fg.length a.fc, .slice a.l m.lv.length a.lc, .slice a.e m.en.length a.ec] 35
    exact hx
  have XW : Below w.heap.size w (w.alloc (.cells #[.slice a.p m.ph.length a.pc, .slice a.f m.fg.length a.fc, .slice a.l m.lv.length a.lc, .slice a.e m.en.length a.ec] 35)) := below1' w _
  have HWW := Lib.hid XW; have HX0 := Lib.hid X0
  clear XW X0
  have HM := Lib.hid (hm.next HWW.out)
  obtain ⟨n, hn⟩ : ∃ n, n = m.ph.length := ⟨_, rfl⟩
  rw [← hn] at hp hl ⊢
  have HN := Lib.hid hn; have HLV := Lib.hid hl
  clear hm hn hl
  go_enter Try.func17, Try.ntmps17
  go_upto_region 1 with fail
  generalize (w.alloc (.cells #[.slice a.p m.ph.length a.pc, .slice a.f m.fg.length a.fc, .slice a.l m.lv.length a.lc, .slice a.e m.en.length a.ec] 35)) = w0 at *
  have HW := Lib.hid (Below.refl w0.heap.size w0)
  have hz0 := HX0.out.lt
  go_wp2_with fail
  go_loopw [3, 4] (fun v3 v wr => ∃ i : Nat, i ≤ n ∧ v = .int .i64 i ∧ v3 = .int .i64 (transN m i : Int) ∧ Below w0.heap.size w0 wr) (fun _ v _ => n - (intOf v).toNat)
  case atStart => exact ⟨0, by omega, rfl, rfl, HW.out⟩
  case round =>
    clear HW
    obtain ⟨i, hi, rfl, rfl, hb⟩ := hrel
    have HB := Lib.hid hb
    clear hb
    have HWN := Lib.hid (HWW.out.trans (HB.out.mono HWW.out.size))
    have y0 := (HX0.out.next HB.out).cell 0 _ rfl
    have y2 := (HX0.out.next HB.out).cell 2 _ rfl
    rw [← HN.out] at y0
    rw [HLV.out] at y2
    by_cases hlt : i < n
    · have hd : decide ((i : Int) < (n : Int)) = true := by simp; omega
      obtain ⟨p, hp⟩ : ∃ p, m.ph[i]? = some p := ⟨_, List.getElem?_eq_getElem (by rw [← HN.out]; exact hlt)⟩
      obtain ⟨l, hl⟩ : ∃ l, m.lv[i]? = some l := ⟨_, List.getElem?_eq_getElem (by rw [HLV.out]; exact hlt)⟩
      obtain ⟨A, hqA, _, cA⟩ := (HM.out.next HB.out).1.it hp
      obtain ⟨B, hqB, _, cB⟩ := (HM.out.next HB.out).2.2.1.bl hl
      rw [hqB] at y2
      rw [hqA] at y0
      have HS : Hid (transN m (i + 1) = transN m i + if transB p l then 1 else 0) := Lib.hid (by rw [transN, phAt_of hp, lvAt_of hl])
      have hi0 : (0 : Int) ≤ (i : Int) := by omega
      have hin : (i : Int) < (n : Int) := by omega
      have HT := Lib.hid (transN_le m i)
      clear hp hl hqA hqB
      obtain ⟨t, ht⟩ : ∃ t, transN m i = t := ⟨_, rfl⟩
      rw [ht] at HS HT ⊢
      have ht0 : (0 : Int) ≤ (t : Int) := by omega
      have htm : (t : Int) < 1000 := by have := HT.out; omega
      clear ht
      by_cases e0 : p = 0
      · subst e0
        cases l
        · have HS2 : Hid (transN m (i + 1) = t) := Lib.hid (by rw [HS.out]; rfl)
          go_wp2_with fail
          exact ⟨⟨i + 1, by omega, by go_num, by rw [HS2.out], HB.out⟩, by simp [intOf]; omega⟩
        · have HS2 : Hid (transN m (i + 1) = t + 1) := Lib.hid (by rw [HS.out]; rfl)
          go_wp2_with fail
          exact ⟨⟨i + 1, by omega, by go_num, by rw [HS2.out]; go_num, HB.out⟩, by simp [intOf]; omega⟩
      · by_cases e4 : p = 4
        · subst e4
          cases l
          · have HS2 : Hid (transN m (i + 1) = t) := Lib.hid (by rw [HS.out]; rfl)
            go_wp2_with fail
            exact ⟨⟨i + 1, by omega, by go_num, by rw [HS2.out], HB.out⟩, by simp [intOf]; omega⟩
          · have HS2 : Hid (transN m (i + 1) = t + 1) := Lib.hid (by rw [HS.out]; rfl)
            go_wp2_with fail
            exact ⟨⟨i + 1, by omega, by go_num, by rw [HS2.out]; go_num, HB.out⟩, by simp [intOf]; omega⟩
        · have HS2 : Hid (transN m (i + 1) = t + 1) := Lib.hid (by rw [HS.out]; simp [transB, e0, e4])
          go_wp2_with fail
          exact ⟨⟨i + 1, by omega, by go_num, by rw [HS2.out]; go_num, HB.out⟩, by simp [intOf]; omega⟩
    · have hd : decide ((i : Int) < (n : Int)) = false := by simp; omega
      obtain rfl : i = n := by omega
      go_wp2_with fail
      go_ret
      exact ⟨rfl, HWN.out⟩
end Go.Proofs.Ytgoojlfpngmdlaa
