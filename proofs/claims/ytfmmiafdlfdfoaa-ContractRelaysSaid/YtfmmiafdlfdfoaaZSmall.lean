/- The walks over IsCall of package building and of its reference. Conditions: cars that can be read. · Small functions: ranges, the comparison of numbers, what is wired and allowed. Conditions: none. -/
import Derived.Test.YtfmmiafdlfdfoaaZBldRef
import Derived.Test.YtfmmiafdlfdfoaaZBld
namespace Go.Proofs.Ytfmmiafdlfdfoaa
open Go.RowKit

def isCallB (fl f d : Int) : Bool := (decide (d = 1) && inR 0 (fl - 2) f) || (decide (d = 2) && inR 1 (fl - 1) f)
theorem valid_fl (b : BldV) (h : validN b = 0) : 2 ≤ b.fl ∧ b.fl ≤ 32 := by
  by_cases e : inAll 2 32 [b.fl] = true
  · exact (inAll_one _ _ _).1 e
  · have e' : inAll 2 32 [b.fl] = false := by simpa using e
    simp [validN, e'] at h
def callB (b : BldV) (f d : Int) : Bool := decide (validN b = 0) && isCallB b.fl f d
set_option maxHeartbeats 1000000 in
theorem refIsCall_any (b : BldV) (q : Option Addr) (cap : Nat) (f d : Int) (w : World) (hlen : b.cars.length ≤ maxLen) (hsl : ∀ c ∈ b.cars, -9223372036854775808 ≤ c.sl ∧ c.sl < 9223372036854775807) (hr : RdC w q b.cars) :
    Calls Try.prog 35 #[cvB b q cap, .int .i64 f, .int .i64 d] w fun e w' => e = .returned (.bool (callB b f d)) ∧ Below w.heap.size w w' := by
  have B0 := Blk.new w [.int .i64 b.fl, .int .i64 b.deb, .int .i64 b.room, .int .i64 b.park, .float .f64 b.em, .float .f64 b.fu, .float .f64 b.ov, .slice q b.cars.length cap] 29
  have hb0 := below1' w (.cells #[.int .i64 b.fl, .int .i64 b.deb, .int .i64 b.room, .int .i64 b.park, .float .f64 b.em, .float .f64 b.fu, .float .f64 b.ov, .slice q b.cars.length cap] 29)
  change Blk (w.alloc (.cells #[.int .i64 b.fl, .int .i64 b.deb, .int .i64 b.room, .int .i64 b.park, .float .f64 b.em, .float .f64 b.fu, .float .f64 b.ov, .slice q b.cars.length cap] 29)) _ _ at B0
  have R0 := hr.next hb0
  have HB := Lib.hid B0; have HW := Lib.hid hb0; have HR := Lib.hid R0; have HL := Lib.hid hlen; have HS := Lib.hid hsl
  clear B0 hb0 R0 hr hlen hsl
  go_enter Try.func35, Try.ntmps35
  go_wp2_with fail
  refine (refValid_any b q cap _ HL.out HS.out HR.out).mono ?_
  rintro e w2 ⟨rfl, hb1⟩
  have B2 := HB.out.next hb1
  have hb2 := HW.out.trans (hb1.mono HW.out.size)
  clear HB HW HR hb1
  generalize w.alloc (.cells #[.int .i64 b.fl, .int .i64 b.deb, .int .i64 b.room, .int .i64 b.park, .float .f64 b.em, .float .f64 b.fu, .float .f64 b.ov, .slice q b.cars.length cap] 29) = w1 at *
  have k0 := B2.cell 0 _ rfl
  clear B2
  by_cases hv : validN b = 0
  · obtain ⟨h2, h32⟩ := valid_fl b hv
    have HV := Lib.hid hv
    have e1 : (validN b == 0) = true := by simpa using hv
    clear hv
    by_cases h1 : d = 1
    · subst h1
      go_wp2_with fail
      refine (refIn_any f 0 (b.fl - 2) _).mono ?_
      rintro e w3 ⟨rfl, hb3⟩
      cases e3 : inR 0 (b.fl - 2) f
      · have HE := Lib.hid e3
        go_wp2_with fail
        go_ret
        exact ⟨by simp [callB, HV.out, isCallB, HE.out], hb2.trans (hb3.mono hb2.size)⟩
      · have HE := Lib.hid e3
        go_wp2_with fail
        go_ret
        exact ⟨by simp [callB, HV.out, isCallB, HE.out], hb2.trans (hb3.mono hb2.size)⟩
    · by_cases hd2 : d = 2
      · subst hd2
        go_wp2_with fail
        refine (refIn_any f 1 (b.fl - 1) _).mono ?_
        rintro e w3 ⟨rfl, hb3⟩
        clear k0 e1
        go_wp2_with fail
        go_ret
        exact ⟨by simp [callB, HV.out, isCallB], hb2.trans (hb3.mono hb2.size)⟩
      · have d1 : (d == 1) = false := by simpa using h1
        have d2 : (d == 2) = false := by simpa using hd2
        have he : callB b f d = false := by simp [callB, isCallB, h1, hd2]
        have HE := Lib.hid he
        clear he
        go_wp2_with fail
        go_ret
        exact ⟨by rw [HE.out]; rfl, hb2⟩
  · have HV := Lib.hid hv
    have e1 : (validN b == 0) = false := by simpa using hv
    clear hv
    go_wp2_with fail
    go_ret
    exact ⟨by simp [callB, HV.out], hb2⟩
end Go.Proofs.Ytfmmiafdlfdfoaa
namespace Go.Proofs.Ytfmmiafdlfdfoaa
open Go.RowKit
def wiredB (p : Int) : Bool := decide (p = 0) || decide (p = 1)

set_option maxHeartbeats 400000 in
theorem isNaN_any (x : Int) (w : World) :
    Calls Try.prog 88 #[.int .i64 x] w fun e w' => e = .returned (.bool false) ∧ Below w.heap.size w w' := by
  go_enter Try.func88, Try.ntmps88
  go_wp2_with fail
  go_ret
  exact ⟨by simp, Below.refl _ _⟩
def cmpI (x y : Int) : Int := if x < y then -1 else if y < x then 1 else 0
set_option maxHeartbeats 400000 in
theorem cmp_any (x y : Int) (w : World) :
    Calls Try.prog 79 #[.int .i64 x, .int .i64 y] w fun e w' => e = .returned (.int .i64 (cmpI x y)) ∧ Below w.heap.size w w' := by
  go_enter Try.func79, Try.ntmps79
  go_wp2_with fail
  refine (isNaN_any x _).mono ?_
  rintro e w1 ⟨rfl, hb1⟩
  go_wp2_with fail
  refine (isNaN_any y _).mono ?_
  rintro e w2 ⟨rfl, hb2⟩
  have hb := hb1.trans (hb2.mono hb1.size)
  by_cases h1 : x < y
  · go_wp2_with fail
    all_goals (go_ret; exact ⟨by simp [cmpI, h1], hb⟩)
  · by_cases h2 : y < x
    · go_wp2_with fail
      all_goals (go_ret; exact ⟨by simp [cmpI, h1, h2], hb⟩)
    · go_wp2_with fail
      all_goals (go_ret; exact ⟨by rw [cmpI, if_neg (by omega), if_neg (by omega)]; rfl, hb⟩)
def orL (l : List Int) : Int := (l.find? (fun x => x != 0)).getD 0
set_option maxHeartbeats 1000000 in
theorem or_any (v : Value) (l : List Int) (w : World) (hl : l.length ≤ 1000) (hr : RdI w v l) :
    Calls Try.prog 78 #[v] w fun e w' => e = .returned (.int .i64 (orL l)) ∧ Below w.heap.size w w' := by
  obtain ⟨q, cap, rfl, hc⟩ := hr
  obtain ⟨n, hn⟩ : ∃ n, n = l.length := ⟨_, rfl⟩
  rw [← hn] at hl ⊢
  have HN := Lib.hid hn; have HC := Lib.hid hc
  clear hn hc
  go_enter Try.func78, Try.ntmps78
  go_wp2_with fail
  go_loopw [8] (fun v wr => ∃ i : Nat, i ≤ n ∧ v = .int .i64 i ∧ (l.take i).find? (fun x => x != 0) = none ∧ Below w.heap.size w wr) (fun v _ => n - (intOf v).toNat)
  case atStart => exact ⟨0, by omega, rfl, rfl, Below.refl _ _⟩
  case round =>
    obtain ⟨i, hi', rfl, hall, hb⟩ := hrel
    have hsz := hb.size
    by_cases hlt : i < n
    · have hd : decide ((i : Int) < (n : Int)) = true := by simp; omega
      obtain ⟨x, hx⟩ : ∃ x, l[i]? = some x := ⟨_, List.getElem?_eq_getElem (by rw [← HN.out]; exact hlt)⟩
      obtain ⟨A, rfl, hA, hcell⟩ := HC.out i x hx
      have c0 : wr.cell? (A.add i) = some (.int .i64 x) := by rw [hb.cell (by rw [addr_block]; exact hA)]; exact hcell
      have hsplit : l = l.take i ++ (x :: l.drop (i + 1)) := by
        have hi2 : i < l.length := (List.getElem?_eq_some_iff.1 hx).1
        have := (List.getElem?_eq_some_iff.1 hx).2
        rw [← this, ← List.drop_eq_getElem_cons hi2, List.take_append_drop]
      have H1 := Lib.hid hx; have H2 := Lib.hid hall; have H3 := Lib.hid hsplit
      clear hx hcell hall hA hsplit
      by_cases h1 : x = 0
      · subst h1
        go_wp2_with fail
        exact ⟨⟨i + 1, by omega, by go_num, by rw [List.take_add_one, H1.out, List.find?_append, H2.out]; rfl, hb⟩, by simp [intOf]; omega⟩
      · have e : (x == 0) = false := by simpa using h1
        have e2 : orL l = x := by
          unfold orL
          rw [H3.out, List.find?_append, H2.out]
          simp [h1]
        have HE := Lib.hid e2
        clear e2
        go_wp2_with fail
        go_ret
        exact ⟨by rw [HE.out]; rfl, hb⟩
    · have e1 : decide ((i : Int) < (n : Int)) = false := by simp; omega
      have e : orL l = 0 := by
        unfold orL
        rw [show i = l.length by rw [← HN.out]; omega, List.take_length] at hall
        rw [hall]; rfl
      have HE := Lib.hid e
      clear e hall
      go_wp2_with fail
      go_ret
      exact ⟨by rw [HE.out]; rfl, hb⟩
end Go.Proofs.Ytfmmiafdlfdfoaa
