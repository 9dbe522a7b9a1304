/- The walks over the reference of package building. Conditions: cars that can be read, and a slack that is not the greatest number. -/
import Derived.Test.YtfmmiafdlfdfoaaZBld
import Derived.Deep.Cut
import Derived.Deep.CutRange
namespace Go.Proofs.Ytfmmiafdlfdfoaa
open Go.RowKit

set_option maxHeartbeats 400000 in
theorem refIn_any (x lo hi : Int) (w : World) :
    Calls Try.prog 47 #[.int .i64 x, .int .i64 lo, .int .i64 hi] w fun e w' => e = .returned (.bool (inR lo hi x)) ∧ Below w.heap.size w w' := by
  by_cases h1 : lo ≤ x
  · go_enter Try.func47, Try.ntmps47
    go_wp2_with fail
    all_goals (go_ret; exact ⟨by simp [inR, h1], Below.refl _ _⟩)
  · have h2 : x < lo := by omega
    go_enter Try.func47, Try.ntmps47
    go_wp2_with fail
    all_goals (go_ret; exact ⟨by simp [inR]; intro h; omega, Below.refl _ _⟩)
theorem inAll_single (lo hi x : Int) : inAll lo hi [x] = inR lo hi x := by simp [inAll]
set_option maxHeartbeats 1000000 in
theorem refTimes_any (b : BldV) (q : Option Addr) (n cap : Nat) (c : CarV) (w : World) (h2 : 2 ≤ b.fl) (h32 : b.fl ≤ 32) (hs0 : -9223372036854775808 ≤ c.sl) (hs1 : c.sl < 9223372036854775807) :
    Calls Try.prog 49 #[.agg #[.int .i64 b.fl, .int .i64 b.deb, .int .i64 b.room, .int .i64 b.park, .float .f64 b.em, .float .f64 b.fu, .float .f64 b.ov, .slice q n cap], cvCar c] w fun e w' => e = .returned (.bool (timesB c b.fl)) ∧ Below w.heap.size w w' := by
  have B0 : Blk (((w.alloc (.cells #[.int .i64 b.fl, .int .i64 b.deb, .int .i64 b.room, .int .i64 b.park, .float .f64 b.em, .float .f64 b.fu, .float .f64 b.ov, .slice q n cap] 29)).alloc (.cells #[.int .i64 c.dl, .int .i64 c.pu, .int .i64 c.qu, .int .i64 c.sl, .int .i64 c.st, .int .i64 c.tr, .int .i64 c.dw, .int .i64 c.ho, .int .i64 c.hm] 40)).alloc (.cells #[.int .i64 c.dl, .int .i64 c.pu, .int .i64 c.qu, .int .i64 c.st, .int .i64 c.tr, .int .i64 c.dw, .int .i64 c.ho, .int .i64 (c.sl + 1)] 3)) w.heap.size [.int .i64 b.fl, .int .i64 b.deb, .int .i64 b.room, .int .i64 b.park, .float .f64 b.em, .float .f64 b.fu, .float .f64 b.ov, .slice q n cap] :=
    ((Blk.new w [.int .i64 b.fl, .int .i64 b.deb, .int .i64 b.room, .int .i64 b.park, .float .f64 b.em, .float .f64 b.fu, .float .f64 b.ov, .slice q n cap] 29).next (below1' _ _)).next (below1' _ _)
  have C0 : Blk (((w.alloc (.cells #[.int .i64 b.fl, .int .i64 b.deb, .int .i64 b.room, .int .i64 b.park, .float .f64 b.em, .float .f64 b.fu, .float .f64 b.ov, .slice q n cap] 29)).alloc (.cells #[.int .i64 c.dl, .int .i64 c.pu, .int .i64 c.qu, .int .i64 c.sl, .int .i64 c.st, .int .i64 c.tr, .int .i64 c.dw, .int .i64 c.ho, .int .i64 c.hm] 40)).alloc (.cells #[.int .i64 c.dl, .int .i64 c.pu, .int .i64 c.qu, .int .i64 c.st, .int .i64 c.tr, .int .i64 c.dw, .int .i64 c.ho, .int .i64 (c.sl + 1)] 3)) (w.heap.size + 1) c.cells := by
    have := (Blk.new (w.alloc (.cells #[.int .i64 b.fl, .int .i64 b.deb, .int .i64 b.room, .int .i64 b.park, .float .f64 b.em, .float .f64 b.fu, .float .f64 b.ov, .slice q n cap] 29)) c.cells 40).next (below1' _ (.cells #[.int .i64 c.dl, .int .i64 c.pu, .int .i64 c.qu, .int .i64 c.st, .int .i64 c.tr, .int .i64 c.dw, .int .i64 c.ho, .int .i64 (c.sl + 1)] 3))
    rw [World.size_alloc] at this; exact this
  have L0 : Blk (((w.alloc (.cells #[.int .i64 b.fl, .int .i64 b.deb, .int .i64 b.room, .int .i64 b.park, .float .f64 b.em, .float .f64 b.fu, .float .f64 b.ov, .slice q n cap] 29)).alloc (.cells #[.int .i64 c.dl, .int .i64 c.pu, .int .i64 c.qu, .int .i64 c.sl, .int .i64 c.st, .int .i64 c.tr, .int .i64 c.dw, .int .i64 c.ho, .int .i64 c.hm] 40)).alloc (.cells #[.int .i64 c.dl, .int .i64 c.pu, .int .i64 c.qu, .int .i64 c.st, .int .i64 c.tr, .int .i64 c.dw, .int .i64 c.ho, .int .i64 (c.sl + 1)] 3)) (w.heap.size + 1 + 1) [.int .i64 c.dl, .int .i64 c.pu, .int .i64 c.qu, .int .i64 c.st, .int .i64 c.tr, .int .i64 c.dw, .int .i64 c.ho, .int .i64 (c.sl + 1)] := by
    have := Blk.new ((w.alloc (.cells #[.int .i64 b.fl, .int .i64 b.deb, .int .i64 b.room, .int .i64 b.park, .float .f64 b.em, .float .f64 b.fu, .float .f64 b.ov, .slice q n cap] 29)).alloc (.cells #[.int .i64 c.dl, .int .i64 c.pu, .int .i64 c.qu, .int .i64 c.sl, .int .i64 c.st, .int .i64 c.tr, .int .i64 c.dw, .int .i64 c.ho, .int .i64 c.hm] 40)) [.int .i64 c.dl, .int .i64 c.pu, .int .i64 c.qu, .int .i64 c.st, .int .i64 c.tr, .int .i64 c.dw, .int .i64 c.ho, .int .i64 (c.sl + 1)] 3
    rw [World.size_alloc, World.size_alloc] at this; exact this
  have hb0 : Below w.heap.size w (((w.alloc (.cells #[.int .i64 b.fl, .int .i64 b.deb, .int .i64 b.room, .int .i64 b.park, .float .f64 b.em, .float .f64 b.fu, .float .f64 b.ov, .slice q n cap] 29)).alloc (.cells #[.int .i64 c.dl, .int .i64 c.pu, .int .i64 c.qu, .int .i64 c.sl, .int .i64 c.st, .int .i64 c.tr, .int .i64 c.dw, .int .i64 c.ho, .int .i64 c.hm] 40)).alloc (.cells #[.int .i64 c.dl, .int .i64 c.pu, .int .i64 c.qu, .int .i64 c.st, .int .i64 c.tr, .int .i64 c.dw, .int .i64 c.ho, .int .i64 (c.sl + 1)] 3)) := ((below1' w (.cells #[.int .i64 b.fl, .int .i64 b.deb, .int .i64 b.room, .int .i64 b.park, .float .f64 b.em, .float .f64 b.fu, .float .f64 b.ov, .slice q n cap] 29)).trans ((below1' _ (.cells #[.int .i64 c.dl, .int .i64 c.pu, .int .i64 c.qu, .int .i64 c.sl, .int .i64 c.st, .int .i64 c.tr, .int .i64 c.dw, .int .i64 c.ho, .int .i64 c.hm] 40)).mono (by simp))).trans ((below1' _ (.cells #[.int .i64 c.dl, .int .i64 c.pu, .int .i64 c.qu, .int .i64 c.st, .int .i64 c.tr, .int .i64 c.dw, .int .i64 c.ho, .int .i64 (c.sl + 1)] 3)).mono (by simp; omega))
  have HB := Lib.hid B0; have HC := Lib.hid C0; have HL := Lib.hid L0; have HW := Lib.hid hb0
  clear B0 C0 L0 hb0
  go_enter Try.func49, Try.ntmps49
  go_upto_region 2 with fail
  generalize ((w.alloc (.cells #[.int .i64 b.fl, .int .i64 b.deb, .int .i64 b.room, .int .i64 b.park, .float .f64 b.em, .float .f64 b.fu, .float .f64 b.ov, .slice q n cap] 29)).alloc (.cells #[.int .i64 c.dl, .int .i64 c.pu, .int .i64 c.qu, .int .i64 c.sl, .int .i64 c.st, .int .i64 c.tr, .int .i64 c.dw, .int .i64 c.ho, .int .i64 c.hm] 40)).alloc (.cells #[.int .i64 c.dl, .int .i64 c.pu, .int .i64 c.qu, .int .i64 c.st, .int .i64 c.tr, .int .i64 c.dw, .int .i64 c.ho, .int .i64 (c.sl + 1)] 3) = w0 at *
  have k3 := HC.out.cell 3 _ rfl
  by_cases hlo : c.sl < 0
  · have e : inAll 0 10000 [c.sl] = false := by rw [inAll_single, inR, decide_eq_false (by omega)]; rfl
    have HE := Lib.hid e
    clear e
    go_wp2_with fail
    go_ret
    exact ⟨by simp [timesB, HE.out], HW.out⟩
  by_cases hhi : 10000 < c.sl
  · have e : inAll 0 10000 [c.sl] = false := by rw [inAll_single, inR, decide_eq_false (p := c.sl ≤ 10000) (by omega)]; simp
    have HE := Lib.hid e
    clear e
    go_wp2_with fail
    go_ret
    exact ⟨by simp [timesB, HE.out], HW.out⟩
  have e : inAll 0 10000 [c.sl] = true := by rw [inAll_single, inR, decide_eq_true (by omega), decide_eq_true (by omega)]; rfl
  have HS := Lib.hid e
  clear e
  obtain ⟨L, hL⟩ : ∃ L : List Int, L = [c.dl, c.pu, c.qu, c.st, c.tr, c.dw, c.ho] := ⟨_, rfl⟩
  have hcell : ∀ i x, i < 7 → L[i]? = some x → w0.cell? ⟨w.heap.size + 1 + 1, i, none⟩ = some (.int .i64 x) := fun i x hi hx => by
    refine HL.out.cell i _ ?_
    subst hL
    match i, hi with
    | 0, _ | 1, _ | 2, _ | 3, _ | 4, _ | 5, _ | 6, _ => simp at hx; subst hx; rfl
  have hlen : L.length = 7 := by rw [hL]; rfl
  have HLL := Lib.hid hL; have HCL := Lib.hid hcell; have HLN := Lib.hid hlen
  have hlt0 : w.heap.size + 1 + 1 < w0.heap.size := HL.out.lt
  clear hL hcell hlen
  go_wp2_with fail
  go_loopw [6] (fun v wr => ∃ i : Nat, i ≤ 7 ∧ v = .int .i64 i ∧ inAll 1 10000 (L.take i) = true ∧ Below w0.heap.size w0 wr) (fun v _ => 7 - (intOf v).toNat)
  case atStart => exact ⟨0, by omega, rfl, rfl, Below.refl _ _⟩
  case round =>
    obtain ⟨i, hi, rfl, hall, hb⟩ := hrel
    have hsz := hb.size
    by_cases hlt : i < 7
    · have hd : decide ((i : Int) < 7) = true := by simp; omega
      obtain ⟨x, hx⟩ : ∃ x, L[i]? = some x := ⟨_, List.getElem?_eq_getElem (by rw [HLN.out]; exact hlt)⟩
      have c0 : wr.cell? ⟨w.heap.size + 1 + 1, i, none⟩ = some (.int .i64 x) := by rw [hb.cell hlt0]; exact HCL.out i x hlt hx
      have hbad : inR 1 10000 x = false → inAll 1 10000 L = false := fun h => by
        unfold inAll
        rw [List.all_eq_false]
        exact ⟨x, List.mem_of_getElem? hx, by simp [h]⟩
      have hgood : inR 1 10000 x = true → inAll 1 10000 (L.take (i + 1)) = true := fun h => by
        unfold inAll at *
        rw [List.take_add_one, hx, List.all_append, hall]; simp [h]
      have H1 := Lib.hid hbad; have H2 := Lib.hid hgood
      clear hx hbad hgood hall
      go_wp2_with fail
      refine (refIn_any x 1 10000 _).mono ?_
      rintro e w1 ⟨rfl, hb1⟩
      have hb2 := hb.trans (hb1.mono hsz)
      clear hb1 c0
      cases e3 : inR 1 10000 x
      · have HE := Lib.hid (H1.out e3)
        go_wp2_with fail
        go_ret
        have h7 := HE.out
        rw [HLL.out] at h7
        exact ⟨by simp [timesB, h7], HW.out.trans (hb2.mono HW.out.size)⟩
      · have HE := Lib.hid (H2.out e3)
        go_wp2_with fail
        exact ⟨⟨i + 1, by omega, by go_num, HE.out, hb2⟩, by simp [intOf]; omega⟩
    · have e1 : decide ((i : Int) < 7) = false := by simp; omega
      obtain rfl : i = 7 := by omega
      have h7 : inAll 1 10000 [c.dl, c.pu, c.qu, c.st, c.tr, c.dw, c.ho] = true := by
        have ht : L.take 7 = L := by rw [← HLN.out, List.take_length]
        rw [ht, HLL.out] at hall; exact hall
      have H7 := Lib.hid h7
      have C := HC.out.next hb; have B := HB.out.next hb
      have k6 := C.cell 6 _ rfl; have k7 := C.cell 7 _ rfl; have k8 := C.cell 8 _ rfl; have m0 := B.cell 0 _ rfl
      have HW2 := Lib.hid (HW.out.trans (hb.mono HW.out.size))
      clear h7 hall C B hb k3
      cases e3 : decide (c.dw ≤ c.ho)
      · have HE3 := Lib.hid e3
        go_wp2_with fail
        go_ret
        exact ⟨by simp only [timesB, H7.out, HS.out, HE3.out]; rfl, HW2.out⟩
      · have HE3 := Lib.hid e3
        go_wp2_with fail
        refine (refIn_any c.hm 0 (b.fl - 1) _).mono ?_
        rintro e w5 ⟨rfl, hb5⟩
        clear k6 k7 k8 m0 e3
        go_wp2_with fail
        go_ret
        exact ⟨by simp only [timesB, H7.out, HS.out, HE3.out, inAll_single]; rfl, HW2.out.trans (hb5.mono HW2.out.size)⟩
set_option maxHeartbeats 4000000 in
theorem refValid_any (b : BldV) (q : Option Addr) (cap : Nat) (w : World) (hlen : b.cars.length ≤ maxLen) (hsl : ∀ c ∈ b.cars, -9223372036854775808 ≤ c.sl ∧ c.sl < 9223372036854775807) (hr : RdC w q b.cars) :
    Calls Try.prog 38 #[cvB b q cap] w fun e w' => e = .returned (.int .i64 (validN b)) ∧ Below w.heap.size w w' := by
  unfold maxLen at hlen
  obtain ⟨n, hn⟩ : ∃ n, n = b.cars.length := ⟨_, rfl⟩
  have B0 := Blk.new w [.int .i64 b.fl, .int .i64 b.deb, .int .i64 b.room, .int .i64 b.park, .float .f64 b.em, .float .f64 b.fu, .float .f64 b.ov, .slice q n cap] 29
  have hb0 := below1' w (.cells #[.int .i64 b.fl, .int .i64 b.deb, .int .i64 b.room, .int .i64 b.park, .float .f64 b.em, .float .f64 b.fu, .float .f64 b.ov, .slice q n cap] 29)
  change Blk (w.alloc (.cells #[.int .i64 b.fl, .int .i64 b.deb, .int .i64 b.room, .int .i64 b.park, .float .f64 b.em, .float .f64 b.fu, .float .f64 b.ov, .slice q n cap] 29)) _ _ at B0
  have R0 := hr.next hb0
  show Calls _ _ #[.agg #[.int .i64 b.fl, .int .i64 b.deb, .int .i64 b.room, .int .i64 b.park, .float .f64 b.em, .float .f64 b.fu, .float .f64 b.ov, .slice q b.cars.length cap]] _ _
  rw [← hn] at hlen ⊢
  have hz : (w.alloc (.cells #[.int .i64 b.fl, .int .i64 b.deb, .int .i64 b.room, .int .i64 b.park, .float .f64 b.em, .float .f64 b.fu, .float .f64 b.ov, .slice q n cap] 29)).heap.size = w.heap.size + 1 := by simp
  have HB0 := Lib.hid B0; have Hb0 := Lib.hid hb0; have HR0 := Lib.hid R0; have HN := Lib.hid hn; have HSL := Lib.hid hsl
  clear B0 hb0 R0 hn hr hsl
  go_enter Try.func38, Try.ntmps38
  go_wp2_with fail
  refine (refIn_any b.fl 2 32 _).mono ?_
  rintro e w2 ⟨rfl, hb1⟩
  have B2 := HB0.out.next hb1
  have R2 := HR0.out.next hb1
  have hb2 := Hb0.out.trans (hb1.mono (by omega))
  clear HB0 Hb0 hb1 hz HR0
  generalize w.alloc (.cells #[.int .i64 b.fl, .int .i64 b.deb, .int .i64 b.room, .int .i64 b.park, .float .f64 b.em, .float .f64 b.fu, .float .f64 b.ov, .slice q n cap] 29) = w1 at *
  have k7 := B2.cell 7 _ rfl
  have HB := Lib.hid B2; have HR := Lib.hid R2
  clear B2 R2
  cases e1 : inR 2 32 b.fl
  · have HE := Lib.hid e1
    clear e1
    go_wp2_with fail
    go_ret
    exact ⟨by simp [validN, inAll_single, HE.out], hb2⟩
  have H1 := Lib.hid e1
  rw [← inAll_single] at e1
  have hfl := (inAll_one _ _ _).1 e1
  obtain ⟨hf2, hf32⟩ := hfl
  clear e1
  go_wp2_with fail
  refine (refIn_any (n : Int) 1 8 _).mono ?_
  rintro e w3 ⟨rfl, hb3⟩
  have B3 := HB.out.next hb3; have R3 := HR.out.next hb3
  have hb4 := hb2.trans (hb3.mono hb2.size)
  clear HB HR hb3 hb2 k7
  have k1 := B3.cell 1 _ rfl
  have HB := Lib.hid B3; have HR := Lib.hid R3
  clear B3 R3
  cases e2 : inR 1 8 (n : Int)
  · have HE := Lib.hid e2
    clear e2
    go_wp2_with fail
    go_ret
    exact ⟨by simp [validN, inAll_single, H1.out, ← HN.out, HE.out], hb4⟩
  have H2 := Lib.hid e2
  rw [← inAll_single] at e2
  have hn8 := ((inAll_one _ _ _).1 e2).2
  clear e2
  go_upto_region 5 with fail
  go_cut [3] from 14 to 21 (fun g wx => g = .bool (inR 1 16 b.deb && inR 1 10000 b.park) ∧ Blk wx w.heap.size [.int .i64 b.fl, .int .i64 b.deb, .int .i64 b.room, .int .i64 b.park, .float .f64 b.em, .float .f64 b.fu, .float .f64 b.ov, .slice q n cap] ∧ RdC wx q b.cars ∧ Below w.heap.size w wx)
  case first =>
    go_wp2_with fail
    refine (refIn_any b.deb 1 16 _).mono ?_
    rintro e w5 ⟨rfl, hb5⟩
    have B5 := HB.out.next hb5; have R5 := HR.out.next hb5
    have hb6 := hb4.trans (hb5.mono hb4.size)
    clear HB HR hb5 hb4 k1
    have k3 := B5.cell 3 _ rfl
    have HB := Lib.hid B5; have HR := Lib.hid R5
    clear B5 R5
    cases e3 : inR 1 16 b.deb
    · have HE := Lib.hid e3
      go_wp2_with fail
      go_meet
      exact ⟨by simp [HE.out], HB.out, HR.out, hb6⟩
    · have HE := Lib.hid e3
      go_wp2_with fail
      refine (refIn_any b.park 1 10000 _).mono ?_
      rintro e w7 ⟨rfl, hb7⟩
      go_wp2_with fail
      go_meet
      exact ⟨by simp [HE.out], HB.out.next hb7, HR.out.next hb7, hb6.trans (hb7.mono hb6.size)⟩
  case rest =>
    obtain ⟨rfl, B5, R5, hb6⟩ := hcut
    have g0 : (inR 1 16 b.deb && inR 1 10000 b.park) = goodB b 0 := by simp [goodB, inAll_single]
    rw [g0]
    have HB := Lib.hid B5; have HR := Lib.hid R5; have HW := Lib.hid hb6
    clear B5 R5 hb6 g0
    go_wp2_with fail
    go_loopw [4, 3] (fun v g wr => ∃ i : Nat, i ≤ n ∧ v = .int .i64 i ∧ g = .bool (goodB b i) ∧ Blk wr w.heap.size [.int .i64 b.fl, .int .i64 b.deb, .int .i64 b.room, .int .i64 b.park, .float .f64 b.em, .float .f64 b.fu, .float .f64 b.ov, .slice q n cap] ∧ RdC wr q b.cars ∧ Below w.heap.size w wr) (fun v _ _ => n - (intOf v).toNat)
    case atStart => exact ⟨0, by omega, rfl, rfl, HB.out, HR.out, HW.out⟩
    case round =>
      obtain ⟨i, hi, rfl, rfl, B, R, hb⟩ := hrel
      have hsz := hb.size
      have j7 := B.cell 7 _ rfl
      by_cases hlt : i < n
      · have hd : decide ((i : Int) < (n : Int)) = true := by simp; omega
        obtain ⟨c, hc⟩ : ∃ c, b.cars[i]? = some c := ⟨_, List.getElem?_eq_getElem (by rw [← HN.out]; exact hlt)⟩
        have hsc := HSL.out c (List.mem_of_getElem? hc)
        have hgood := goodB_succ b i c hc
        have HG := Lib.hid hgood
        clear hgood
        cases e3 : goodB b i
        · have HE := Lib.hid e3
          have H3 := Lib.hid B; have H4 := Lib.hid R
          clear B R hc
          go_wp2_with fail
          (refine Grow.wp_region Grow.noPlan Grow.noPlan_stable (by kernel_rfl) (by kernel_rfl) ?_; intro opsq Hopsq)
          repeat (first | (refine Grow.lex_move rfl ?_ rfl ?_; (· first | exact Grow.wanted_none | (rw [Hopsq.out]; rfl)); intro K hK; simp only [Grow.put_lit, Grow.setAt, Grow.eval_lit, Grow.ev]; refine hK _ _ ?_; clear hK K) | (refine Grow.lex_assign rfl ?_ rfl ?_; (· first | exact Grow.wanted_none | (rw [Hopsq.out]; rfl)); intro K hK; simp only [Grow.put_lit, Grow.setAt, Grow.eval_lit, Grow.ev]; refine hK _ _ ?_; clear hK K) | (refine Grow.lex_plain rfl rfl ?_ rfl ?_; (· first | exact Grow.wanted_none | (rw [Hopsq.out]; rfl)); apply Exists.intro; refine ⟨fun wq hCq _ => ?_, ?_⟩; (· (go_wp2_with fail; refine ⟨rfl, Below.refl _ _, ?_⟩; simp only [Grow.getD_lit, Grow.nth]; rfl)); intro K hK; simp only [Grow.put_lit, Grow.setAt]; refine hK _ _ ?_; clear hK K) | (refine Grow.lex_nilCheck rfl rfl ?_ rfl ?_; (· first | exact Grow.wanted_none | (rw [Hopsq.out]; rfl)); intro K hK; simp only [Grow.put_lit, Grow.setAt]; refine hK _ _ ?_; clear hK K) | (refine Grow.lex_skip ?_ ?_; (· (rw [Hopsq.out]; rfl)); intro K hK; simp only [Grow.put_lit, Grow.setAt]; refine hK _ _ ?_; clear hK K))
          (refine Grow.lex_nil ?_; intro w7 hb7 _; replace hb7 := Grow.Cl.base hb7; clear Hopsq opsq)
          go_wp2_with fail
          exact ⟨⟨i + 1, by omega, by go_num, by rw [HG.out, HE.out]; rfl, H3.out.next hb7, H4.out.next hb7, hb.trans (hb7.mono hb.size)⟩, by simp [intOf]; omega⟩
        · have HE := Lib.hid e3
          obtain ⟨A, rfl, hA, hcell⟩ := R i c hc
          have m0 : ∀ W, Grow.Cl wr.drew W → W.cell? ⟨w.heap.size, 0, none⟩ = some (.int .i64 b.fl) := fun W h => cell_later (Grow.Cl.base h) (B.cell 0 _ rfl)
          have m1 : ∀ W, Grow.Cl wr.drew W → W.cell? ⟨w.heap.size, 1, none⟩ = some (.int .i64 b.deb) := fun W h => cell_later (Grow.Cl.base h) (B.cell 1 _ rfl)
          have m2 : ∀ W, Grow.Cl wr.drew W → W.cell? ⟨w.heap.size, 2, none⟩ = some (.int .i64 b.room) := fun W h => cell_later (Grow.Cl.base h) (B.cell 2 _ rfl)
          have m3 : ∀ W, Grow.Cl wr.drew W → W.cell? ⟨w.heap.size, 3, none⟩ = some (.int .i64 b.park) := fun W h => cell_later (Grow.Cl.base h) (B.cell 3 _ rfl)
          have m4 : ∀ W, Grow.Cl wr.drew W → W.cell? ⟨w.heap.size, 4, none⟩ = some (.float .f64 b.em) := fun W h => cell_later (Grow.Cl.base h) (B.cell 4 _ rfl)
          have m5 : ∀ W, Grow.Cl wr.drew W → W.cell? ⟨w.heap.size, 5, none⟩ = some (.float .f64 b.fu) := fun W h => cell_later (Grow.Cl.base h) (B.cell 5 _ rfl)
          have m6 : ∀ W, Grow.Cl wr.drew W → W.cell? ⟨w.heap.size, 6, none⟩ = some (.float .f64 b.ov) := fun W h => cell_later (Grow.Cl.base h) (B.cell 6 _ rfl)
          have m7 : ∀ W, Grow.Cl wr.drew W → W.cell? ⟨w.heap.size, 7, none⟩ = some (.slice (some A) n cap) := fun W h => cell_later (Grow.Cl.base h) (B.cell 7 _ rfl)
          have c0 : ∀ W, Grow.Cl wr.drew W → W.cell? (A.add (i * 9)) = some (.int .i64 c.dl) := fun W h => cell_later (Grow.Cl.base h) (hcell 0 _ rfl)
          have hup : ∀ j u, c.cells[j + 1]? = some u → wr.cell? ⟨(A.add (i * 9)).block, (A.add (i * 9)).off + (j + 1), none⟩ = some u := fun j u hu => by rw [← addr_one]; exact hcell (j + 1) u hu
          have c1 : ∀ W, Grow.Cl wr.drew W → W.cell? ⟨(A.add (i * 9)).block, (A.add (i * 9)).off + 1, none⟩ = some (.int .i64 c.pu) := fun W h => cell_later (Grow.Cl.base h) (hup 0 _ rfl)
          have c2 : ∀ W, Grow.Cl wr.drew W → W.cell? ⟨(A.add (i * 9)).block, (A.add (i * 9)).off + 2, none⟩ = some (.int .i64 c.qu) := fun W h => cell_later (Grow.Cl.base h) (hup 1 _ rfl)
          have c3 : ∀ W, Grow.Cl wr.drew W → W.cell? ⟨(A.add (i * 9)).block, (A.add (i * 9)).off + 3, none⟩ = some (.int .i64 c.sl) := fun W h => cell_later (Grow.Cl.base h) (hup 2 _ rfl)
          have c4 : ∀ W, Grow.Cl wr.drew W → W.cell? ⟨(A.add (i * 9)).block, (A.add (i * 9)).off + 4, none⟩ = some (.int .i64 c.st) := fun W h => cell_later (Grow.Cl.base h) (hup 3 _ rfl)
          have c5 : ∀ W, Grow.Cl wr.drew W → W.cell? ⟨(A.add (i * 9)).block, (A.add (i * 9)).off + 5, none⟩ = some (.int .i64 c.tr) := fun W h => cell_later (Grow.Cl.base h) (hup 4 _ rfl)
          have c6 : ∀ W, Grow.Cl wr.drew W → W.cell? ⟨(A.add (i * 9)).block, (A.add (i * 9)).off + 6, none⟩ = some (.int .i64 c.dw) := fun W h => cell_later (Grow.Cl.base h) (hup 5 _ rfl)
          have c7 : ∀ W, Grow.Cl wr.drew W → W.cell? ⟨(A.add (i * 9)).block, (A.add (i * 9)).off + 7, none⟩ = some (.int .i64 c.ho) := fun W h => cell_later (Grow.Cl.base h) (hup 6 _ rfl)
          have c8 : ∀ W, Grow.Cl wr.drew W → W.cell? ⟨(A.add (i * 9)).block, (A.add (i * 9)).off + 8, none⟩ = some (.int .i64 c.hm) := fun W h => cell_later (Grow.Cl.base h) (hup 7 _ rfl)
          have H3 := Lib.hid B; have H4 := Lib.hid R
          clear B R hc hcell hup hA
          go_wp2_with fail
          (refine Grow.wp_region Grow.noPlan Grow.noPlan_stable (by kernel_rfl) (by kernel_rfl) ?_; intro opsq Hopsq)
          repeat (first | (refine Grow.lex_move rfl ?_ rfl ?_; (· first | exact Grow.wanted_none | (rw [Hopsq.out]; rfl)); intro K hK; simp only [Grow.put_lit, Grow.setAt, Grow.eval_lit, Grow.ev]; refine hK _ _ ?_; clear hK K) | (refine Grow.lex_assign rfl ?_ rfl ?_; (· first | exact Grow.wanted_none | (rw [Hopsq.out]; rfl)); intro K hK; simp only [Grow.put_lit, Grow.setAt, Grow.eval_lit, Grow.ev]; refine hK _ _ ?_; clear hK K) | (refine Grow.lex_plain rfl rfl ?_ rfl ?_; (· first | exact Grow.wanted_none | (rw [Hopsq.out]; rfl)); apply Exists.intro; refine ⟨fun wq hCq _ => ?_, ?_⟩; (· (go_wp2_with fail; refine ⟨rfl, Below.refl _ _, ?_⟩; simp only [Grow.getD_lit, Grow.nth]; rfl)); intro K hK; simp only [Grow.put_lit, Grow.setAt]; refine hK _ _ ?_; clear hK K) | (refine Grow.lex_nilCheck rfl rfl ?_ rfl ?_; (· first | exact Grow.wanted_none | (rw [Hopsq.out]; rfl)); intro K hK; simp only [Grow.put_lit, Grow.setAt]; refine hK _ _ ?_; clear hK K) | (refine Grow.lex_skip ?_ ?_; (· (rw [Hopsq.out]; rfl)); intro K hK; simp only [Grow.put_lit, Grow.setAt]; refine hK _ _ ?_; clear hK K))
          (refine Grow.lex_call ?_ rfl ?_; (· first | exact Grow.wanted_none | (rw [Hopsq.out]; rfl)); apply Exists.intro; apply Exists.intro; refine ⟨fun wq => ?_, ?_⟩; (· (go_simp; exact ⟨rfl, rfl⟩)); apply Exists.intro; refine ⟨fun wq hCq hKq => ?_, ?_⟩; (· exact refTimes_any b (some A) n cap c _ hf2 hf32 hsc.1 hsc.2); intro K hK; simp only [Grow.put_lit, Grow.setAt]; refine hK _ _ ?_; clear hK K)
          repeat (first | (refine Grow.lex_move rfl ?_ rfl ?_; (· first | exact Grow.wanted_none | (rw [Hopsq.out]; rfl)); intro K hK; simp only [Grow.put_lit, Grow.setAt, Grow.eval_lit, Grow.ev]; refine hK _ _ ?_; clear hK K) | (refine Grow.lex_assign rfl ?_ rfl ?_; (· first | exact Grow.wanted_none | (rw [Hopsq.out]; rfl)); intro K hK; simp only [Grow.put_lit, Grow.setAt, Grow.eval_lit, Grow.ev]; refine hK _ _ ?_; clear hK K) | (refine Grow.lex_plain rfl rfl ?_ rfl ?_; (· first | exact Grow.wanted_none | (rw [Hopsq.out]; rfl)); apply Exists.intro; refine ⟨fun wq hCq _ => ?_, ?_⟩; (· (go_wp2_with fail; refine ⟨rfl, Below.refl _ _, ?_⟩; simp only [Grow.getD_lit, Grow.nth]; rfl)); intro K hK; simp only [Grow.put_lit, Grow.setAt]; refine hK _ _ ?_; clear hK K) | (refine Grow.lex_nilCheck rfl rfl ?_ rfl ?_; (· first | exact Grow.wanted_none | (rw [Hopsq.out]; rfl)); intro K hK; simp only [Grow.put_lit, Grow.setAt]; refine hK _ _ ?_; clear hK K) | (refine Grow.lex_skip ?_ ?_; (· (rw [Hopsq.out]; rfl)); intro K hK; simp only [Grow.put_lit, Grow.setAt]; refine hK _ _ ?_; clear hK K))
          (refine Grow.lex_nil ?_; intro w7 hb7 _; replace hb7 := Grow.Cl.base hb7; clear Hopsq opsq)
          clear c0 c1 c2 c3 c4 c5 c6 c7 c8 m0 m1 m2 m3 m4 m5 m6 m7
          go_wp2_with fail
          exact ⟨⟨i + 1, by omega, by go_num, by rw [HG.out, HE.out]; rfl, H3.out.next hb7, H4.out.next hb7, hb.trans (hb7.mono hb.size)⟩, by simp [intOf]; omega⟩
      · have e1 : decide ((i : Int) < (n : Int)) = false := by simp; omega
        obtain rfl : i = n := by omega
        have HV : validN b = if goodB b i = false then 12 else if loadsB b = false then 13 else if inR (18 * (i : Int) + 24) 65536 b.room = false then 14 else 0 := by
          have h2 := H2.out
          rw [HN.out] at h2 ⊢
          simp [validN, inAll_single, H1.out, h2]
        have HVH := Lib.hid HV
        have k2 := B.cell 2 _ rfl
        have k4 := B.cell 4 _ rfl; have k5 := B.cell 5 _ rfl; have k6 := B.cell 6 _ rfl
        have HB2 := Lib.hid B; have HB3 := Lib.hid hb
        clear HV B R hb
        cases e4 : goodB b i
        · have HE := Lib.hid e4
          go_wp2_with fail
          go_ret
          exact ⟨by rw [HVH.out, HE.out]; rfl, HB3.out⟩
        · have HE := Lib.hid e4
          go_upto_region 12 with fail
          have HX := Lib.hid HVH.out
          go_cut [63] from 41 to 62 (fun g wx => g = .bool (!loadsB b) ∧ wx = wr)
          case first =>
            go_wp2_with fail
            all_goals
              go_meet
              exact ⟨by simp [loadsB, flt, fle, *], rfl⟩
          case rest =>
            obtain ⟨rfl, hw⟩ := hcut
            subst hw
            cases e5 : loadsB b
            · have HE5 := Lib.hid e5
              go_wp2_with fail
              go_ret
              exact ⟨by rw [HX.out, HE.out, HE5.out]; rfl, HB3.out⟩
            · have HE5 := Lib.hid e5
              go_wp2_with fail
              refine (refIn_any b.room (18 * (i : Int) + 24) 65536 _).mono ?_
              rintro e w10 ⟨rfl, hb10⟩
              have hb11 := HB3.out.trans (hb10.mono HB3.out.size)
              cases e6 : inR (18 * (i : Int) + 24) 65536 b.room
              · have HE6 := Lib.hid e6
                go_wp2_with fail
                go_ret
                exact ⟨by rw [HX.out, HE.out, HE5.out, HE6.out]; rfl, hb11⟩
              · have HE6 := Lib.hid e6
                go_wp2_with fail
                go_ret
                exact ⟨by rw [HX.out, HE.out, HE5.out, HE6.out]; rfl, hb11⟩
end Go.Proofs.Ytfmmiafdlfdfoaa
