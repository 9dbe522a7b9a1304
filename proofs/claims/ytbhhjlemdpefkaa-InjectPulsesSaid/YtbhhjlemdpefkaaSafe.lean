/- What is allowed and safe in a phase: the code and its reference. Conditions: none. -/
import Derived.Test.YtbhhjlemdpefkaaSmall
import Derived.Test.YtbhhjlemdpefkaaCalls
namespace Go.Proofs.Ytbhhjlemdpefkaa
open Go.RowKit
attribute [local go_sem ↓] run_eql_cs run_neq_cs
def allowedB (p k : Int) : Bool := decide (k = 0) || decide (p = 3) || decide (p = 4)
set_option maxHeartbeats 400000 in
theorem allowed_any (p k : Int) (w : World) :
    Calls Try.prog 13 #[.int .i64 p, .int .i64 k] w fun e w' => e = .returned (.bool (allowedB p k)) ∧ Below w.heap.size w w' := by
  by_cases h1 : k = 0
  · subst h1
    go_enter Try.func13, Try.ntmps13
    go_wp2_with fail
    go_ret
    exact ⟨by simp [allowedB], Below.refl _ _⟩
  · have e1 : (k == 0) = false := by simpa using h1
    by_cases h2 : p = 3
    · subst h2
      go_enter Try.func13, Try.ntmps13
      go_wp2_with fail
      go_ret
      exact ⟨by simp [allowedB], Below.refl _ _⟩
    · have e2 : (p == 3) = false := by simpa using h2
      by_cases h3 : p = 4
      · subst h3
        go_enter Try.func13, Try.ntmps13
        go_wp2_with fail
        go_ret
        exact ⟨by simp [allowedB], Below.refl _ _⟩
      · have e3 : (p == 4) = false := by simpa using h3
        have he : allowedB p k = false := by simp [allowedB, h1, h2, h3]
        have HE := Lib.hid he
        clear he
        go_enter Try.func13, Try.ntmps13
        go_wp2_with fail
        go_ret
        exact ⟨by rw [HE.out]; rfl, Below.refl _ _⟩
set_option maxHeartbeats 400000 in
theorem refAllowed_any (p k : Int) (w : World) :
    Calls Try.prog 14 #[.int .i64 p, .int .i64 k] w fun e w' => e = .returned (.bool (allowedB p k)) ∧ Below w.heap.size w w' := by
  by_cases h1 : k = 0
  · subst h1
    go_enter Try.func14, Try.ntmps14
    go_wp2_with fail
    go_ret
    exact ⟨by simp [allowedB], Below.refl _ _⟩
  · have e1 : (k == 0) = false := by simpa using h1
    by_cases h2 : p = 3
    · subst h2
      go_enter Try.func14, Try.ntmps14
      go_wp2_with fail
      go_ret
      exact ⟨by simp [allowedB], Below.refl _ _⟩
    · have e2 : (p == 3) = false := by simpa using h2
      by_cases h3 : p = 4
      · subst h3
        go_enter Try.func14, Try.ntmps14
        go_wp2_with fail
        go_ret
        exact ⟨by simp [allowedB], Below.refl _ _⟩
      · have e3 : (p == 4) = false := by simpa using h3
        have he : allowedB p k = false := by simp [allowedB, h1, h2, h3]
        have HE := Lib.hid he
        clear he
        go_enter Try.func14, Try.ntmps14
        go_wp2_with fail
        go_ret
        exact ⟨by rw [HE.out]; rfl, Below.refl _ _⟩

/-- Coils: the injected calls, cut out. -/
abbrev cvK (c : CS) (o : Bool) : Value := .agg #[.int .u32 (c.1.toNat : Int), .int .u32 (c.2.toNat : Int), .bool o]
def safeB (p : Int) (c : CS) (o : Bool) : Bool := (c == (0#32, 0#32)) || (!o && wiredB p)
theorem cv_eq (c : CS) : ((c.1.toNat : Int) == 0 && (c.2.toNat : Int) == 0) = (c == (0#32, 0#32)) := by
  have h := cv_ne c
  unfold bne at h
  generalize ((c.1.toNat : Int) == 0) = x at *
  generalize ((c.2.toNat : Int) == 0) = y at *
  generalize (c == (0#32, 0#32)) = z at *
  revert h
  cases x <;> cases y <;> cases z <;> decide
set_option maxHeartbeats 400000 in
theorem safe_any (p : Int) (c : CS) (o : Bool) (w : World) :
    Calls Try.prog 12 #[.int .i64 p, cvK c o] w fun e w' => e = .returned (.bool (safeB p c o)) ∧ Below w.heap.size w w' := by
  have hq := cv_eq c
  cases hc : (c == (0#32, 0#32))
  · rw [hc] at hq
    cases o
    · have HC := Lib.hid hc
      clear hc
      go_enter Try.func12, Try.ntmps12
      go_wp2_with fail
      refine (wired_any p _).mono ?_
      rintro e w1 ⟨rfl, hb1⟩
      go_wp2_with fail
      go_ret
      exact ⟨by simp [safeB, HC.out], (below1 _ _).trans (hb1.mono (by simp))⟩
    · have HC := Lib.hid hc
      clear hc
      go_enter Try.func12, Try.ntmps12
      go_wp2_with fail
      go_ret
      exact ⟨by simp [safeB, HC.out], below1 _ _⟩
  · rw [hc] at hq
    have HC := Lib.hid hc
    clear hc
    go_enter Try.func12, Try.ntmps12
    go_wp2_with fail
    go_ret
    exact ⟨by simp [safeB, HC.out], below1 _ _⟩
set_option maxHeartbeats 400000 in
theorem refSafe_any (p : Int) (c : CS) (o : Bool) (w : World) :
    Calls Try.prog 15 #[.int .i64 p, cvK c o] w fun e w' => e = .returned (.bool (safeB p c o)) ∧ Below w.heap.size w w' := by
  have hq := cv_eq c
  cases hc : (c == (0#32, 0#32))
  · rw [hc] at hq
    cases o
    · have HC := Lib.hid hc
      clear hc
      by_cases h1 : p = 0
      · subst h1
        go_enter Try.func15, Try.ntmps15
        go_wp2_with fail
        go_ret
        exact ⟨by simp [safeB, HC.out, wiredB], below1 _ _⟩
      · have e1 : (p == 0) = false := by simpa using h1
        by_cases h2 : p = 1
        · subst h2
          go_enter Try.func15, Try.ntmps15
          go_wp2_with fail
          go_ret
          exact ⟨by simp [safeB, HC.out, wiredB], below1 _ _⟩
        · have e2 : (p == 1) = false := by simpa using h2
          have he : safeB p c false = false := by simp [safeB, HC.out, wiredB, h1, h2]
          have HE := Lib.hid he
          clear he
          go_enter Try.func15, Try.ntmps15
          go_wp2_with fail
          go_ret
          exact ⟨by rw [HE.out]; rfl, below1 _ _⟩
    · have HC := Lib.hid hc
      clear hc
      go_enter Try.func15, Try.ntmps15
      go_wp2_with fail
      go_ret
      exact ⟨by simp [safeB, HC.out], below1 _ _⟩
  · rw [hc] at hq
    have HC := Lib.hid hc
    clear hc
    go_enter Try.func15, Try.ntmps15
    go_wp2_with fail
    go_ret
    exact ⟨by simp [safeB, HC.out], below1 _ _⟩
end Go.Proofs.Ytbhhjlemdpefkaa
