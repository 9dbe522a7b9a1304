/- The walks over overlayref10.Find and entered. Conditions: entries that can be read, at most 1000. -/
import Derived.Test.YtgoojlfpngmdlaaZImgC
import Derived.Test.YtgoojlfpngmdlaaZInit
import Derived.IntWalk
namespace Go.Proofs.Ytgoojlfpngmdlaa
open Go.RowKit
/-- The place of the entry of a call. -/
def isAt (f d : Int) (e : E5) : Bool := decide (e.1 = f) && decide (e.2.1 = d)
def findN (l : List E5) (f d : Int) : Nat → Option Nat
  | 0 => none
  | k + 1 => match findN l f d k with
    | some i => some i
    | none => match l[k]? with
      | some e => if isAt f d e then some k else none
      | none => none
def findI (l : List E5) (f d : Int) : Int := match findN l f d l.length with
  | some i => i
  | none => -1
theorem findN_le (l : List E5) (f d : Int) (k n i : Nat) (h : findN l f d k = some i) (hk : k ≤ n) : findN l f d n = some i := by
  induction n with
  | zero => obtain rfl : k = 0 := by omega
            exact h
  | succ n ih =>
    by_cases e : k = n + 1
    · subst e; exact h
    · unfold findN; rw [ih (by omega)]
theorem findN_lt (l : List E5) (f d : Int) (k i : Nat) (h : findN l f d k = some i) : i < k ∧ i < l.length ∧ ∃ e, l[i]? = some e ∧ isAt f d e = true := by
  induction k with
  | zero => simp [findN] at h
  | succ k ih =>
    unfold findN at h
    cases h1 : findN l f d k with
    | some j =>
      rw [h1] at h
      simp at h; subst h
      have := ih h1
      exact ⟨by omega, this.2⟩
    | none =>
      rw [h1] at h
      cases h2 : l[k]? with
      | none => rw [h2] at h; simp at h
      | some e =>
        rw [h2] at h
        simp at h
        obtain ⟨h3, rfl⟩ := h
        exact ⟨by omega, (List.getElem?_eq_some_iff.1 h2).1, e, h2, h3⟩
theorem findI_some (l : List E5) (f d : Int) (k i : Nat) (h : findN l f d k = some i) (hk : k ≤ l.length) : findI l f d = i := by
  unfold findI
  rw [findN_le l f d k _ i h hk]
theorem findN_hit (l : List E5) (f d : Int) (k : Nat) (e : E5) (h : findN l f d k = none) (he : l[k]? = some e) (hi : isAt f d e = true) : findN l f d (k + 1) = some k := by
  simp only [findN, h, he, hi, if_true]
theorem findN_miss (l : List E5) (f d : Int) (k : Nat) (e : E5) (h : findN l f d k = none) (he : l[k]? = some e) (hi : isAt f d e = false) : findN l f d (k + 1) = none := by
  simp only [findN, h, he, hi]; rfl
set_option maxHeartbeats 4000000 in
set_option maxRecDepth 100000 in
theorem find_any (m : ImgV) (a : ImgA) (f d : Int) (w : World) (he : m.en.length ≤ 1000) (hm : RdX w a.e (entCells m.en)) :
    Calls Try.prog 38 #[cvM m a, .int .i64 f, .int .i64 d] w fun r w' => r = .returned (.int .i64 (findI m.en f d)) ∧ Below w.heap.size w w' := by
  have X0 : Blk (w.alloc (.cells #[.slice a.p m.ph.length a.pc, .slice a.f m.fg.length a.fc, .slice a.l m.lv.length a.lc, .slice a.e m.en.length a.ec] 35)) w.heap.size [.slice a.p m.ph.length a.pc, .slice a.f m.fg.length a.fc, .slice a.l m.lv.length a.lc, .slice a.e m.en.length a.ec] := by
    have hx := Blk.new w [.slice a.p m.ph.length a.pc, .slice a.f m.fg.length a.fc, .slice a.l m.lv.length a.lc, .slice a.e m.en.length a.ec] 35
    exact hx
  have XW : Below w.heap.size w (w.alloc (.cells #[.slice a.p m.ph.length a.pc, .slice a.f m.fg.length a.fc, .slice a.l m.lv.length a.lc, .slice a.e m.en.length a.ec] 35)) := below1' w _
  have HWW := Lib.hid XW; have HX0 := Lib.hid X0
  clear XW X0
  have HM := Lib.hid (hm.next HWW.out)
  obtain ⟨k, hk⟩ : ∃ k, k = m.en.length := ⟨_, rfl⟩
  rw [← hk] at he
  have HK := Lib.hid hk
  clear hm hk
  go_enter Try.func38, Try.ntmps38
  go_upto_region 1 with fail
  generalize (w.alloc (.cells #[.slice a.p m.ph.length a.pc, .slice a.f m.fg.length a.fc, .slice a.l m.lv.length a.lc, .slice a.e m.en.length a.ec] 35)) = w0 at *
  have HW := Lib.hid (Below.refl w0.heap.size w0)
  have hz0 := HX0.out.lt
  go_wp2_with fail
  go_loopw [7] (fun v wr => ∃ i : Nat, i ≤ k ∧ v = .int .i64 i ∧ findN m.en f d i = none ∧ Below w0.heap.size w0 wr) (fun v _ => k - (intOf v).toNat)
  case atStart => exact ⟨0, by omega, rfl, rfl, HW.out⟩
  case round =>
    clear HW
    obtain ⟨i, hi, rfl, hn, hb⟩ := hrel
    have HB := Lib.hid hb; have HN := Lib.hid hn
    clear hb hn
    have y3 := (HX0.out.next HB.out).cell 3 _ rfl
    rw [← HK.out] at y3
    by_cases hlt : i < k
    · have hd : decide ((i : Int) < (k : Int)) = true := by simp; omega
      obtain ⟨e, hx⟩ : ∃ e, m.en[i]? = some e := ⟨_, List.getElem?_eq_getElem (by rw [← HK.out]; exact hlt)⟩
      obtain ⟨A, hq, hA, x0, x1, _, _, _⟩ := (HM.out.next HB.out).en5 hx
      have HX := Lib.hid hx
      rw [hq] at y3
      have hi0 : (0 : Int) ≤ (i : Int) := by omega
      have hik : (i : Int) < (k : Int) := by omega
      clear hx hA hq
      have HWN := Lib.hid (HWW.out.trans (HB.out.mono HWW.out.size))
      cases h1 : (e.1 == f)
      · have HM2 := Lib.hid (findN_miss m.en f d i e HN.out HX.out (by have := h1; simp at this; simp [isAt, this]))
        go_wp2_with fail
        exact ⟨⟨i + 1, by omega, by go_num, HM2.out, HB.out⟩, by simp [intOf]; omega⟩
      · cases h2 : (e.2.1 == d)
        · have HM2 := Lib.hid (findN_miss m.en f d i e HN.out HX.out (by have := h2; simp at this; simp [isAt, this]))
          go_wp2_with fail
          exact ⟨⟨i + 1, by omega, by go_num, HM2.out, HB.out⟩, by simp [intOf]; omega⟩
        · have HI := Lib.hid (findI_some m.en f d (i + 1) i (findN_hit m.en f d i e HN.out HX.out (by simp at h1 h2; simp [isAt, h1, h2])) (by rw [← HK.out]; omega))
          go_wp2_with fail
          go_ret
          exact ⟨by rw [HI.out]; rfl, HWN.out⟩
    · have hd : decide ((i : Int) < (k : Int)) = false := by simp; omega
      have HI : Hid (findI m.en f d = -1) := Lib.hid (by unfold findI; rw [show m.en.length = i by rw [← HK.out]; omega, HN.out])
      have HWN := Lib.hid (HWW.out.trans (HB.out.mono HWW.out.size))
      go_wp2_with fail
      go_ret
      exact ⟨by rw [HI.out]; rfl, HWN.out⟩
end Go.Proofs.Ytgoojlfpngmdlaa
