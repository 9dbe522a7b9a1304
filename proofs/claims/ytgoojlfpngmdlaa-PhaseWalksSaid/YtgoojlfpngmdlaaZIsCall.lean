/- The walks over IsCall of package building and of its reference. Conditions: cars that can be read. -/
import Derived.Test.YtgoojlfpngmdlaaZBldRef
namespace Go.Proofs.Ytgoojlfpngmdlaa
open Go.RowKit

def isCallB (fl f d : Int) : Bool := (decide (d = 1) && inR 0 (fl - 2) f) || (decide (d = 2) && inR 1 (fl - 1) f)
set_option maxHeartbeats 1000000 in
theorem isCall_any (fl f d : Int) (w : World) (h2 : 2 ≤ fl) (h32 : fl ≤ 32) :
    Calls Try.prog 61 #[.int .i64 fl, .int .i64 f, .int .i64 d] w fun e w' => e = .returned (.bool (isCallB fl f d)) ∧ Below w.heap.size w w' := by
  by_cases h1 : d = 1
  · subst h1
    go_enter Try.func61, Try.ntmps61
    go_wp2_with fail
    refine (within_new 0 (fl - 2) _ [f] _ _ _ _ rfl rfl rfl (by simp)).mono ?_
    rintro e w2 ⟨rfl, hb⟩
    cases e1 : inAll 0 (fl - 2) [f]
    · have HE := Lib.hid e1
      go_wp2_with fail
      go_ret
      have := HE.out
      rw [inAll_single] at this
      exact ⟨by simp [isCallB, this], hb⟩
    · have HE := Lib.hid e1
      go_wp2_with fail
      go_ret
      have := HE.out
      rw [inAll_single] at this
      exact ⟨by simp [isCallB, this], hb⟩
  · by_cases hd2 : d = 2
    · subst hd2
      go_enter Try.func61, Try.ntmps61
      go_wp2_with fail
      refine (within_new 1 (fl - 1) _ [f] _ _ _ _ rfl rfl rfl (by simp)).mono ?_
      rintro e w2 ⟨rfl, hb⟩
      go_wp2_with fail
      go_ret
      exact ⟨by simp [isCallB, inAll_single], hb⟩
    · have e1 : (d == 1) = false := by simpa using h1
      have e2 : (d == 2) = false := by simpa using hd2
      have he : isCallB fl f d = false := by simp [isCallB, h1, hd2]
      have HE := Lib.hid he
      clear he
      go_enter Try.func61, Try.ntmps61
      go_wp2_with fail
      go_ret
      exact ⟨by rw [HE.out]; rfl, Below.refl _ _⟩
theorem valid_fl (b : BldV) (h : validN b = 0) : 2 ≤ b.fl ∧ b.fl ≤ 32 := by
  by_cases e : inAll 2 32 [b.fl] = true
  · exact (inAll_one _ _ _).1 e
  · have e' : inAll 2 32 [b.fl] = false := by simpa using e
    simp [validN, e'] at h
def callB (b : BldV) (f d : Int) : Bool := decide (validN b = 0) && isCallB b.fl f d
set_option maxHeartbeats 1000000 in
theorem bIsCall_any (b : BldV) (q : Option Addr) (cap : Nat) (f d : Int) (w : World) (hlen : b.cars.length ≤ maxLen) (hr : RdC w q b.cars) :
    Calls Try.prog 58 #[cvB b q cap, .int .i64 f, .int .i64 d] w fun e w' => e = .returned (.bool (callB b f d)) ∧ Below w.heap.size w w' := by
  have B0 := Blk.new w [.int .i64 b.fl, .int .i64 b.deb, .int .i64 b.room, .int .i64 b.park, .float .f64 b.em, .float .f64 b.fu, .float .f64 b.ov, .slice q b.cars.length cap] 29
  have hb0 := below1' w (.cells #[.int .i64 b.fl, .int .i64 b.deb, .int .i64 b.room, .int .i64 b.park, .float .f64 b.em, .float .f64 b.fu, .float .f64 b.ov, .slice q b.cars.length cap] 29)
  change Blk (w.alloc (.cells #[.int .i64 b.fl, .int .i64 b.deb, .int .i64 b.room, .int .i64 b.park, .float .f64 b.em, .float .f64 b.fu, .float .f64 b.ov, .slice q b.cars.length cap] 29)) _ _ at B0
  have R0 := hr.next hb0
  have HB := Lib.hid B0; have HW := Lib.hid hb0; have HR := Lib.hid R0; have HL := Lib.hid hlen
  clear B0 hb0 R0 hr hlen
  go_enter Try.func58, Try.ntmps58
  go_wp2_with fail
  refine (valid_any b q cap _ HL.out HR.out).mono ?_
  rintro e w2 ⟨rfl, hb1⟩
  have B2 := HB.out.next hb1
  have hb2 := HW.out.trans (hb1.mono HW.out.size)
  clear HB HW HR hb1
  generalize w.alloc (.cells #[.int .i64 b.fl, .int .i64 b.deb, .int .i64 b.room, .int .i64 b.park, .float .f64 b.em, .float .f64 b.fu, .float .f64 b.ov, .slice q b.cars.length cap] 29) = w1 at *
  have k0 := B2.cell 0 _ rfl
  clear B2
  by_cases hv : validN b = 0
  · obtain ⟨h2, h32⟩ := valid_fl b hv
    have HV := Lib.hid hv
    have e1 : (validN b == 0) = true := by simpa using hv
    clear hv
    go_wp2_with fail
    refine (isCall_any b.fl f d _ h2 h32).mono ?_
    rintro e w3 ⟨rfl, hb3⟩
    clear k0 e1
    go_wp2_with fail
    go_ret
    exact ⟨by simp [callB, HV.out], hb2.trans (hb3.mono hb2.size)⟩
  · have HV := Lib.hid hv
    have e1 : (validN b == 0) = false := by simpa using hv
    clear hv
    go_wp2_with fail
    go_ret
    exact ⟨by simp [callB, HV.out], hb2⟩
set_option maxHeartbeats 1000000 in
theorem refIsCall_any (b : BldV) (q : Option Addr) (cap : Nat) (f d : Int) (w : World) (hlen : b.cars.length ≤ maxLen) (hsl : ∀ c ∈ b.cars, -9223372036854775808 ≤ c.sl ∧ c.sl < 9223372036854775807) (hr : RdC w q b.cars) :
    Calls Try.prog 35 #[cvB b q cap, .int .i64 f, .int .i64 d] w fun e w' => e = .returned (.bool (callB b f d)) ∧ Below w.heap.size w w' := by
  have B0 := Blk.new w [.int .i64 b.fl, .int .i64 b.deb, .int .i64 b.room, .int .i64 b.park, .float .f64 b.em, .float .f64 b.fu, .float .f64 b.ov, .slice q b.cars.length cap] 29
  have hb0 := below1' w (.cells #[.int .i64 b.fl, .int .i64 b.deb, .int .i64 b.room, .int .i64 b.park, .float .f64 b.em, .float .f64 b.fu, .float .f64 b.ov, .slice q b.cars.length cap] 29)
  change Blk (w.alloc (.cells #[.int .i64 b.fl, .int .i64 b.deb, .int .i64 b.room, .int .i64 b.park, .float .f64 b.em, .float .f64 b.fu, .float .f64 b.ov, .slice q b.cars.length cap] 29)) _ _ at B0
  have R0 := hr.next hb0
  have HB := Lib.hid B0; have HW := Lib.hid hb0; have HR := Lib.hid R0; have HL := Lib.hid hlen; have HS := Lib.hid hsl
  clear B0 hb0 R0 hr hlen hsl
  go_enter Try.func35, Try.ntmps35
  go_wp2_with fail
  refine (refValid_any b q cap _ HL.out HS.out HR.out).mono ?_
  rintro e w2 ⟨rfl, hb1⟩
  have B2 := HB.out.next hb1
  have hb2 := HW.out.trans (hb1.mono HW.out.size)
  clear HB HW HR hb1
  generalize w.alloc (.cells #[.int .i64 b.fl, .int .i64 b.deb, .int .i64 b.room, .int .i64 b.park, .float .f64 b.em, .float .f64 b.fu, .float .f64 b.ov, .slice q b.cars.length cap] 29) = w1 at *
  have k0 := B2.cell 0 _ rfl
  clear B2
  by_cases hv : validN b = 0
  · obtain ⟨h2, h32⟩ := valid_fl b hv
    have HV := Lib.hid hv
    have e1 : (validN b == 0) = true := by simpa using hv
    clear hv
    by_cases h1 : d = 1
    · subst h1
      go_wp2_with fail
      refine (refIn_any f 0 (b.fl - 2) _).mono ?_
      rintro e w3 ⟨rfl, hb3⟩
      cases e3 : inR 0 (b.fl - 2) f
      · have HE := Lib.hid e3
        go_wp2_with fail
        go_ret
        exact ⟨by simp [callB, HV.out, isCallB, HE.out], hb2.trans (hb3.mono hb2.size)⟩
      · have HE := Lib.hid e3
        go_wp2_with fail
        go_ret
        exact ⟨by simp [callB, HV.out, isCallB, HE.out], hb2.trans (hb3.mono hb2.size)⟩
    · by_cases hd2 : d = 2
      · subst hd2
        go_wp2_with fail
        refine (refIn_any f 1 (b.fl - 1) _).mono ?_
        rintro e w3 ⟨rfl, hb3⟩
        clear k0 e1
        go_wp2_with fail
        go_ret
        exact ⟨by simp [callB, HV.out, isCallB], hb2.trans (hb3.mono hb2.size)⟩
      · have d1 : (d == 1) = false := by simpa using h1
        have d2 : (d == 2) = false := by simpa using hd2
        have he : callB b f d = false := by simp [callB, isCallB, h1, hd2]
        have HE := Lib.hid he
        clear he
        go_wp2_with fail
        go_ret
        exact ⟨by rw [HE.out]; rfl, hb2⟩
  · have HV := Lib.hid hv
    have e1 : (validN b == 0) = false := by simpa using hv
    clear hv
    go_wp2_with fail
    go_ret
    exact ⟨by simp [callB, HV.out], hb2⟩
end Go.Proofs.Ytgoojlfpngmdlaa
