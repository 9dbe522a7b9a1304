/- Small functions: ranges, the comparison of numbers, what is wired and allowed. Conditions: none. -/
import Derived.Test.YtgoojlfpngmdlaaZBld
namespace Go.Proofs.Ytgoojlfpngmdlaa
open Go.RowKit
def wiredB (p : Int) : Bool := decide (p = 0) || decide (p = 1)

set_option maxHeartbeats 400000 in
theorem isNaN_any (x : Int) (w : World) :
    Calls Try.prog 62 #[.int .i64 x] w fun e w' => e = .returned (.bool false) ∧ Below w.heap.size w w' := by
  go_enter Try.func62, Try.ntmps62
  go_wp2_with fail
  go_ret
  exact ⟨by simp, Below.refl _ _⟩
def cmpI (x y : Int) : Int := if x < y then -1 else if y < x then 1 else 0
set_option maxHeartbeats 400000 in
theorem cmp_any (x y : Int) (w : World) :
    Calls Try.prog 60 #[.int .i64 x, .int .i64 y] w fun e w' => e = .returned (.int .i64 (cmpI x y)) ∧ Below w.heap.size w w' := by
  go_enter Try.func60, Try.ntmps60
  go_wp2_with fail
  refine (isNaN_any x _).mono ?_
  rintro e w1 ⟨rfl, hb1⟩
  go_wp2_with fail
  refine (isNaN_any y _).mono ?_
  rintro e w2 ⟨rfl, hb2⟩
  have hb := hb1.trans (hb2.mono hb1.size)
  by_cases h1 : x < y
  · go_wp2_with fail
    all_goals (go_ret; exact ⟨by simp [cmpI, h1], hb⟩)
  · by_cases h2 : y < x
    · go_wp2_with fail
      all_goals (go_ret; exact ⟨by simp [cmpI, h1, h2], hb⟩)
    · go_wp2_with fail
      all_goals (go_ret; exact ⟨by rw [cmpI, if_neg (by omega), if_neg (by omega)]; rfl, hb⟩)
def orL (l : List Int) : Int := (l.find? (fun x => x != 0)).getD 0
set_option maxHeartbeats 1000000 in
theorem or_any (v : Value) (l : List Int) (w : World) (hl : l.length ≤ 1000) (hr : RdI w v l) :
    Calls Try.prog 59 #[v] w fun e w' => e = .returned (.int .i64 (orL l)) ∧ Below w.heap.size w w' := by
  obtain ⟨q, cap, rfl, hc⟩ := hr
  obtain ⟨n, hn⟩ : ∃ n, n = l.length := ⟨_, rfl⟩
  rw [← hn] at hl ⊢
  have HN := Lib.hid hn; have HC := Lib.hid hc
  clear hn hc
  go_enter Try.func59, Try.ntmps59
  go_wp2_with fail
  go_loopw [8] (fun v wr => ∃ i : Nat, i ≤ n ∧ v = .int .i64 i ∧ (l.take i).find? (fun x => x != 0) = none ∧ Below w.heap.size w wr) (fun v _ => n - (intOf v).toNat)
  case atStart => exact ⟨0, by omega, rfl, rfl, Below.refl _ _⟩
  case round =>
    obtain ⟨i, hi', rfl, hall, hb⟩ := hrel
    have hsz := hb.size
    by_cases hlt : i < n
    · have hd : decide ((i : Int) < (n : Int)) = true := by simp; omega
      obtain ⟨x, hx⟩ : ∃ x, l[i]? = some x := ⟨_, List.getElem?_eq_getElem (by rw [← HN.out]; exact hlt)⟩
      obtain ⟨A, rfl, hA, hcell⟩ := HC.out i x hx
      have c0 : wr.cell? (A.add i) = some (.int .i64 x) := by rw [hb.cell (by rw [addr_block]; exact hA)]; exact hcell
      have hsplit : l = l.take i ++ (x :: l.drop (i + 1)) := by
        have hi2 : i < l.length := (List.getElem?_eq_some_iff.1 hx).1
        have := (List.getElem?_eq_some_iff.1 hx).2
        rw [← this, ← List.drop_eq_getElem_cons hi2, List.take_append_drop]
      have H1 := Lib.hid hx; have H2 := Lib.hid hall; have H3 := Lib.hid hsplit
      clear hx hcell hall hA hsplit
      by_cases h1 : x = 0
      · subst h1
        go_wp2_with fail
        exact ⟨⟨i + 1, by omega, by go_num, by rw [List.take_add_one, H1.out, List.find?_append, H2.out]; rfl, hb⟩, by simp [intOf]; omega⟩
      · have e : (x == 0) = false := by simpa using h1
        have e2 : orL l = x := by
          unfold orL
          rw [H3.out, List.find?_append, H2.out]
          simp [h1]
        have HE := Lib.hid e2
        clear e2
        go_wp2_with fail
        go_ret
        exact ⟨by rw [HE.out]; rfl, hb⟩
    · have e1 : decide ((i : Int) < (n : Int)) = false := by simp; omega
      have e : orL l = 0 := by
        unfold orL
        rw [show i = l.length by rw [← HN.out]; omega, List.take_length] at hall
        rw [hall]; rfl
      have HE := Lib.hid e
      clear e hall
      go_wp2_with fail
      go_ret
      exact ⟨by rw [HE.out]; rfl, hb⟩
end Go.Proofs.Ytgoojlfpngmdlaa
