/- The walks over overlayref11's above, below, marked, counted, proper, Spent. Conditions: those of each theorem. -/
import Derived.Test.YtfmmiafdlfdfoaaZRelW1
import Derived.Test.YtfmmiafdlfdfoaaZSample
namespace Go.Proofs.Ytfmmiafdlfdfoaa
namespace Rel
open Go.RowKit
theorem shr_bit (x : BitVec 32) (f : Nat) : (bits BinOp.and IntKind.u32 ((x.toNat : Int) / 2 ^ f) 1 == 1) = x.getLsbD f := bit32 x f
theorem or3 (s : StV) : bits BinOp.or IntKind.u32 (bits BinOp.or IntKind.u32 (s.1.toNat : Int) (s.2.1.toNat : Int)) (s.2.2.toNat : Int) = ((anyV s).toNat : Int) := by
  rw [or32, or32]; rfl
set_option maxHeartbeats 2000000 in
theorem above_any (s : StV) (p : Int) (w : World) (hp : 0 ≤ p ∧ p < 32) :
    Calls Try.prog 83 #[cvSt s, .int .i64 p] w fun e w' => e = .returned (.tuple #[.bool (aboveV s p).1, .int .i64 (aboveV s p).2]) ∧ Below w.heap.size w w' := by
  obtain ⟨hp0, hp1⟩ := hp
  obtain ⟨x, hx⟩ : ∃ x, aboveV s p = x := ⟨_, rfl⟩
  rw [hx]
  have HX := Lib.hid hx
  clear hx
  have X0 : Blk (w.alloc (.cells #[.int .u32 (s.1.toNat : Int), .int .u32 (s.2.1.toNat : Int), .int .u32 (s.2.2.toNat : Int)] 100)) w.heap.size [.int .u32 (s.1.toNat : Int), .int .u32 (s.2.1.toNat : Int), .int .u32 (s.2.2.toNat : Int)] := by
    have hx := Blk.new w [.int .u32 (s.1.toNat : Int), .int .u32 (s.2.1.toNat : Int), .int .u32 (s.2.2.toNat : Int)] 100
    exact hx
  have XW : Below w.heap.size w (w.alloc (.cells #[.int .u32 (s.1.toNat : Int), .int .u32 (s.2.1.toNat : Int), .int .u32 (s.2.2.toNat : Int)] 100)) := below1' w _
  have HWW := Lib.hid XW; have HX0 := Lib.hid X0
  clear XW X0
  go_enter Try.func83, Try.ntmps83
  go_upto_region 1 with fail
  generalize (w.alloc (.cells #[.int .u32 (s.1.toNat : Int), .int .u32 (s.2.1.toNat : Int), .int .u32 (s.2.2.toNat : Int)] 100)) = w0 at *
  have HW := Lib.hid (Below.refl w0.heap.size w0)
  have hz0 := HX0.out.lt
  go_wp2_with fail
  go_loopw [6] (fun v wr => ∃ k f : Nat, f + k = 32 ∧ v = .int .i64 (f : Int) ∧ upF (anyV s) p k f = x ∧ wr = w0) (fun v _ => 32 - (intOf v).toNat)
  case atStart => exact ⟨(31 - p).toNat, (p + 1).toNat, by omega, by rw [show ((p + 1).toNat : Int) = p + 1 by omega], HX.out, rfl⟩
  case round =>
    obtain ⟨k, f, hk, rfl, hu, rfl⟩ := hrel
    have HU := Lib.hid hu
    clear hu
    have z0 := (HX0.out).cell 0 _ rfl
    have z1 := (HX0.out).cell 1 _ rfl
    have z2 := (HX0.out).cell 2 _ rfl
    by_cases hlt : f < 32
    · have hd : decide ((f : Int) < 32) = true := by simp; omega
      have hf0 : (0 : Int) ≤ (f : Int) := by omega
      have hf1 : (f : Int) < 32 := by omega
      have hor := or3 s
      have hsh := shr_bit (anyV s) f
      obtain ⟨k, rfl⟩ : ∃ k', k = k' + 1 := ⟨k - 1, by omega⟩
      have hUU := HU.out
      unfold upF at hUU
      generalize anyV s = X at *
      cases hb : X.getLsbD f
      · rw [hb] at hUU hsh
        simp only [Bool.false_eq_true, if_false] at hUU
        go_wp2_with fail
        exact ⟨⟨k, f + 1, by omega, by simp, hUU, trivial⟩, by simp [intOf]; omega⟩
      · rw [hb] at hUU hsh
        simp only [if_true] at hUU
        subst hUU
        go_wp2_with fail
        exact bodyPost_ret (v := .tuple #[.bool true, .int .i64 ((f : Int) - p)]) (by simp [results, Try.results83, go_sem]) rfl ⟨rfl, HWW.out⟩
    · have hd : decide ((f : Int) < 32) = false := by simp; omega
      obtain rfl : k = 0 := by omega
      have hUU := HU.out
      unfold upF at hUU
      subst hUU
      go_wp2_with fail
      exact bodyPost_ret (v := .tuple #[.bool false, .int .i64 0]) (by simp [results, Try.results83, go_sem]) rfl ⟨rfl, HWW.out⟩
set_option maxHeartbeats 2000000 in
theorem below_any (s : StV) (p : Int) (w : World) (hp : 0 ≤ p ∧ p < 32) :
    Calls Try.prog 84 #[cvSt s, .int .i64 p] w fun e w' => e = .returned (.tuple #[.bool (belowV s p).1, .int .i64 (belowV s p).2]) ∧ Below w.heap.size w w' := by
  obtain ⟨hp0, hp1⟩ := hp
  obtain ⟨x, hx⟩ : ∃ x, belowV s p = x := ⟨_, rfl⟩
  rw [hx]
  have HX := Lib.hid hx
  clear hx
  have X0 : Blk (w.alloc (.cells #[.int .u32 (s.1.toNat : Int), .int .u32 (s.2.1.toNat : Int), .int .u32 (s.2.2.toNat : Int)] 100)) w.heap.size [.int .u32 (s.1.toNat : Int), .int .u32 (s.2.1.toNat : Int), .int .u32 (s.2.2.toNat : Int)] := by
    have hx := Blk.new w [.int .u32 (s.1.toNat : Int), .int .u32 (s.2.1.toNat : Int), .int .u32 (s.2.2.toNat : Int)] 100
    exact hx
  have XW : Below w.heap.size w (w.alloc (.cells #[.int .u32 (s.1.toNat : Int), .int .u32 (s.2.1.toNat : Int), .int .u32 (s.2.2.toNat : Int)] 100)) := below1' w _
  have HWW := Lib.hid XW; have HX0 := Lib.hid X0
  clear XW X0
  go_enter Try.func84, Try.ntmps84
  go_upto_region 1 with fail
  generalize (w.alloc (.cells #[.int .u32 (s.1.toNat : Int), .int .u32 (s.2.1.toNat : Int), .int .u32 (s.2.2.toNat : Int)] 100)) = w0 at *
  have HW := Lib.hid (Below.refl w0.heap.size w0)
  have hz0 := HX0.out.lt
  go_wp2_with fail
  go_loopw [6] (fun v wr => ∃ k : Nat, k ≤ 32 ∧ v = .int .i64 ((k : Int) - 1) ∧ dnF (anyV s) p k = x ∧ wr = w0) (fun v _ => (intOf v + 1).toNat)
  case atStart => exact ⟨p.toNat, by omega, by rw [show (p.toNat : Int) = p by omega], HX.out, rfl⟩
  case round =>
    obtain ⟨k, hk, rfl, hu, rfl⟩ := hrel
    have HU := Lib.hid hu
    clear hu
    have z0 := (HX0.out).cell 0 _ rfl
    have z1 := (HX0.out).cell 1 _ rfl
    have z2 := (HX0.out).cell 2 _ rfl
    by_cases hlt : 0 < k
    · obtain ⟨f, rfl⟩ : ∃ k', k = k' + 1 := ⟨k - 1, by omega⟩
      have hfe : ((f + 1 : Nat) : Int) - 1 = (f : Int) := by omega
      rw [hfe]
      have hd : decide (0 ≤ (f : Int)) = true := by simp
      have hf0 : (0 : Int) ≤ (f : Int) := by omega
      have hf1 : (f : Int) < 32 := by omega
      have hor := or3 s
      have hsh := shr_bit (anyV s) f
      have hUU := HU.out
      unfold dnF at hUU
      generalize anyV s = X at *
      cases hb : X.getLsbD f
      · rw [hb] at hUU hsh
        simp only [Bool.false_eq_true, if_false] at hUU
        go_wp2_with fail
        exact ⟨⟨f, by omega, rfl, hUU, trivial⟩, by simp [intOf]⟩
      · rw [hb] at hUU hsh
        simp only [if_true] at hUU
        subst hUU
        go_wp2_with fail
        exact bodyPost_ret (v := .tuple #[.bool true, .int .i64 (p - (f : Int))]) (by simp [results, Try.results84, go_sem]) rfl ⟨rfl, HWW.out⟩
    · obtain rfl : k = 0 := by omega
      have hd : decide (0 ≤ ((0 : Nat) : Int) - 1) = false := by decide
      have hUU := HU.out
      unfold dnF at hUU
      subst hUU
      go_wp2_with fail
      exact bodyPost_ret (v := .tuple #[.bool false, .int .i64 0]) (by simp [results, Try.results84, go_sem]) rfl ⟨rfl, HWW.out⟩
theorem and_o {o : Int} (h : 0 ≤ o ∧ o ≤ 7) : bits BinOp.and IntKind.i64 o 2 = (if bt o 1 then 2 else 0) ∧ bits BinOp.and IntKind.i64 o 4 = (if bt o 2 then 4 else 0) := by
  obtain ⟨h1, h2⟩ := h
  have h : o = 0 ∨ o = 1 ∨ o = 2 ∨ o = 3 ∨ o = 4 ∨ o = 5 ∨ o = 6 ∨ o = 7 := by omega
  rcases h with rfl | rfl | rfl | rfl | rfl | rfl | rfl | rfl <;> decide
set_option maxHeartbeats 4000000 in
theorem marked_any (r o p : Int) (s : StV) (w : World) (ho : 0 ≤ o ∧ o ≤ 7) (hp : 0 ≤ p ∧ p < 32) :
    Calls Try.prog 85 #[cvSw r o, .int .i64 p, cvSt s] w fun e w' => e = .returned (cvSt (markV o p s)) ∧ Below w.heap.size w w' := by
  obtain ⟨hp0, hp1⟩ := hp
  obtain ⟨x2, hx2⟩ : ∃ x2, bits BinOp.and IntKind.i64 o 2 = x2 := ⟨_, rfl⟩
  obtain ⟨x4, hx4⟩ : ∃ x4, bits BinOp.and IntKind.i64 o 4 = x4 := ⟨_, rfl⟩
  have ha := and_o ho
  rw [hx2, hx4] at ha
  have HA := Lib.hid ha
  clear ha
  have hpb := pow_bit p hp0 hp1
  have hA1 := and32 s.1 (bit p); have hA2 := and32 s.2.1 (bit p); have hA3 := and32 s.2.2 (bit p)
  have HV : Hid (markV o p s = (if o = 0 then 0#32 else s.1 &&& bit p, (if bt o 1 then s.2.1 &&& bit p else 0#32, if bt o 2 then s.2.2 &&& bit p else 0#32))) := Lib.hid rfl
  obtain ⟨m, hm⟩ : ∃ m, markV o p s = m := ⟨_, rfl⟩
  rw [hm] at HV ⊢
  clear hm
  generalize s.1 &&& bit p = b1 at *
  generalize s.2.1 &&& bit p = b2 at *
  generalize s.2.2 &&& bit p = b3 at *
  generalize bit p = bp at *
  have X0 : Blk (w.alloc (.cells #[.int .i64 r, .int .i64 o] 98)) w.heap.size [.int .i64 r, .int .i64 o] := by
    have hx := Blk.new w [.int .i64 r, .int .i64 o] 98
    exact hx
  replace X0 : Blk ((w.alloc (.cells #[.int .i64 r, .int .i64 o] 98)).alloc (.cells #[.int .u32 (s.1.toNat : Int), .int .u32 (s.2.1.toNat : Int), .int .u32 (s.2.2.toNat : Int)] 100)) w.heap.size [.int .i64 r, .int .i64 o] := X0.next (below1' _ _)
  replace X0 : Blk (((w.alloc (.cells #[.int .i64 r, .int .i64 o] 98)).alloc (.cells #[.int .u32 (s.1.toNat : Int), .int .u32 (s.2.1.toNat : Int), .int .u32 (s.2.2.toNat : Int)] 100)).alloc (.cells #[.int .u32 0, .int .u32 0, .int .u32 0] 100)) w.heap.size [.int .i64 r, .int .i64 o] := X0.next (below1' _ _)
  have X1 : Blk ((w.alloc (.cells #[.int .i64 r, .int .i64 o] 98)).alloc (.cells #[.int .u32 (s.1.toNat : Int), .int .u32 (s.2.1.toNat : Int), .int .u32 (s.2.2.toNat : Int)] 100)) (w.heap.size + 1) [.int .u32 (s.1.toNat : Int), .int .u32 (s.2.1.toNat : Int), .int .u32 (s.2.2.toNat : Int)] := by
    have hx := Blk.new (w.alloc (.cells #[.int .i64 r, .int .i64 o] 98)) [.int .u32 (s.1.toNat : Int), .int .u32 (s.2.1.toNat : Int), .int .u32 (s.2.2.toNat : Int)] 100
    rw [World.size_alloc] at hx
    exact hx
  replace X1 : Blk (((w.alloc (.cells #[.int .i64 r, .int .i64 o] 98)).alloc (.cells #[.int .u32 (s.1.toNat : Int), .int .u32 (s.2.1.toNat : Int), .int .u32 (s.2.2.toNat : Int)] 100)).alloc (.cells #[.int .u32 0, .int .u32 0, .int .u32 0] 100)) (w.heap.size + 1) [.int .u32 (s.1.toNat : Int), .int .u32 (s.2.1.toNat : Int), .int .u32 (s.2.2.toNat : Int)] := X1.next (below1' _ _)
  have X2 : Blk (((w.alloc (.cells #[.int .i64 r, .int .i64 o] 98)).alloc (.cells #[.int .u32 (s.1.toNat : Int), .int .u32 (s.2.1.toNat : Int), .int .u32 (s.2.2.toNat : Int)] 100)).alloc (.cells #[.int .u32 0, .int .u32 0, .int .u32 0] 100)) (w.heap.size + 1 + 1) [.int .u32 0, .int .u32 0, .int .u32 0] := by
    have hx := Blk.new ((w.alloc (.cells #[.int .i64 r, .int .i64 o] 98)).alloc (.cells #[.int .u32 (s.1.toNat : Int), .int .u32 (s.2.1.toNat : Int), .int .u32 (s.2.2.toNat : Int)] 100)) [.int .u32 0, .int .u32 0, .int .u32 0] 100
    rw [World.size_alloc, World.size_alloc] at hx
    exact hx
  have XW : Below w.heap.size w (w.alloc (.cells #[.int .i64 r, .int .i64 o] 98)) := below1' w _
  replace XW : Below w.heap.size w ((w.alloc (.cells #[.int .i64 r, .int .i64 o] 98)).alloc (.cells #[.int .u32 (s.1.toNat : Int), .int .u32 (s.2.1.toNat : Int), .int .u32 (s.2.2.toNat : Int)] 100)) := XW.trans ((below1' _ _).mono XW.size)
  replace XW : Below w.heap.size w (((w.alloc (.cells #[.int .i64 r, .int .i64 o] 98)).alloc (.cells #[.int .u32 (s.1.toNat : Int), .int .u32 (s.2.1.toNat : Int), .int .u32 (s.2.2.toNat : Int)] 100)).alloc (.cells #[.int .u32 0, .int .u32 0, .int .u32 0] 100)) := XW.trans ((below1' _ _).mono XW.size)
  have HWW := Lib.hid XW; have HX0 := Lib.hid X0; have HX1 := Lib.hid X1; have HX2 := Lib.hid X2
  clear XW X0 X1 X2
  go_enter Try.func85, Try.ntmps85
  go_upto_region 1 with fail
  generalize (((w.alloc (.cells #[.int .i64 r, .int .i64 o] 98)).alloc (.cells #[.int .u32 (s.1.toNat : Int), .int .u32 (s.2.1.toNat : Int), .int .u32 (s.2.2.toNat : Int)] 100)).alloc (.cells #[.int .u32 0, .int .u32 0, .int .u32 0] 100)) = w0 at *
  generalize hg2 : w.heap.size + 1 + 1 = g2 at *
  generalize hg1 : w.heap.size + 1 = g1 at *
  have HG1 := Lib.hid hg1; have hq1 : w.heap.size + 1 ≤ g1 := by omega
  have HG2 := Lib.hid hg2; have hq2 : w.heap.size + 2 ≤ g2 := by omega
  clear hg1 hg2
  have HW := Lib.hid (Below.refl w0.heap.size w0)
  have hz0 := HX0.out.lt; have hz1 := HX1.out.lt; have hz2 := HX2.out.lt
  go_upto_region 2 with fail
  have BO := Blk.new w0 [.int .u32 0, .int .u32 0, .int .u32 0] 100
  have hbo := below1' w0 (.cells #[.int .u32 0, .int .u32 0, .int .u32 0] 100)
  change Blk (w0.alloc (.cells #[.int .u32 0, .int .u32 0, .int .u32 0] 100)) _ _ at BO
  have hY0 := HX0.out.next hbo; have hY1 := HX1.out.next hbo; have hY2 := HX2.out.next hbo; have hYW := HWW.out.trans (hbo.mono HWW.out.size)
  have hg1s : g1 < w0.heap.size := HX1.out.lt
  have hg2s : g2 < w0.heap.size := HX2.out.lt
  have hws : w.heap.size < w0.heap.size := HX0.out.lt
  have HO := Lib.hid BO; have HY0 := Lib.hid hY0; have HY1 := Lib.hid hY1; have HY2 := Lib.hid hY2; have HYW := Lib.hid hYW
  clear BO hbo hY0 hY1 hY2 hYW HX0 HX1 HX2 HWW HW
  generalize w0.alloc (.cells #[.int .u32 0, .int .u32 0, .int .u32 0] 100) = w1 at *
  generalize w0.heap.size = g3 at *
  have HB1 := Lib.hid (Below.refl g3 w1)
  have HALL : Hid (∀ W, Below g3 w1 W → Blk W w.heap.size [.int .i64 r, .int .i64 o] ∧ Blk W g1 [.int .u32 (s.1.toNat : Int), .int .u32 (s.2.1.toNat : Int), .int .u32 (s.2.2.toNat : Int)] ∧ Blk W g2 [.int .u32 0, .int .u32 0, .int .u32 0] ∧ Below w.heap.size w W) := Lib.hid fun W h => ⟨HY0.out.later h hws, HY1.out.later h hg1s, HY2.out.later h hg2s, HYW.out.trans (h.mono (Nat.le_of_lt hws))⟩
  clear HY0 HY1 HY2 HYW
  have k1 := (HALL.out w1 HB1.out).1.cell 1 _ rfl
  go_upto_if 14 with fail
  go_cut [] from 15 to 19 (fun wx => Blk wx g3 [.int .u32 ((if o = 0 then 0#32 else b1).toNat : Int), .int .u32 0, .int .u32 0] ∧ Below g3 w1 wx)
  case first =>
    by_cases h0 : o = 0
    · have e2 : (o != 0) = false := by simpa using h0
      have H0 := Lib.hid h0
      clear h0
      go_wp2_with fail
      go_meet
      exact ⟨by rw [if_pos H0.out]; exact HO.out, HB1.out⟩
    · have e2 : (o != 0) = true := by simpa using h0
      have H0 := Lib.hid h0
      clear h0
      have j0 := (HALL.out w1 HB1.out).2.1.cell 0 _ rfl
      have z0 := HO.out.cell 0 _ rfl
      have f0 := HO.out.fr 0
      go_wp2_with fail
      go_meet
      exact ⟨by rw [if_neg H0.out]; exact HO.out.set 0 _, HB1.out.setCell (p := ⟨g3, 0, none⟩) (Nat.le_refl _) _⟩
  case rest =>
  obtain ⟨hO, hB⟩ := hcut
  generalize (if o = 0 then 0#32 else b1) = c1 at *
  generalize wc = w2 at *
  have HO2 := Lib.hid hO; have HB2 := Lib.hid hB
  clear hO hB HO HB1 k1
  have k1 := (HALL.out w2 HB2.out).1.cell 1 _ rfl
  go_upto_if 23 with fail
  go_cut [] from 24 to 30 (fun wx => Blk wx g3 [.int .u32 (c1.toNat : Int), .int .u32 ((if bt o 1 = true then b2 else 0#32).toNat : Int), .int .u32 0] ∧ Below g3 w1 wx)
  case first =>
    cases h0 : bt o 1
    · obtain rfl : x2 = 0 := by have := HA.out.1; rw [h0] at this; simpa using this
      have H0 := Lib.hid h0
      clear h0
      go_wp2_with fail
      go_meet
      exact ⟨by rw [H0.out]; exact HO2.out, HB2.out⟩
    · obtain rfl : x2 = 2 := by have := HA.out.1; rw [h0] at this; simpa using this
      have H0 := Lib.hid h0
      clear h0
      have j0 := (HALL.out w2 HB2.out).2.1.cell 1 _ rfl
      have z0 := HO2.out.cell 1 _ rfl
      have f0 := HO2.out.fr 1
      go_wp2_with fail
      go_meet
      exact ⟨by rw [H0.out]; exact HO2.out.set 1 _, HB2.out.setCell (p := ⟨g3, 1, none⟩) (Nat.le_refl _) _⟩
  case rest =>
  obtain ⟨hO, hB⟩ := hcut
  generalize (if bt o 1 = true then b2 else 0#32) = c2 at *
  generalize wc = w3 at *
  have HO3 := Lib.hid hO; have HB3 := Lib.hid hB
  clear hO hB HO2 HB2 k1
  have k1 := (HALL.out w3 HB3.out).1.cell 1 _ rfl
  go_upto_if 34 with fail
  go_cut [] from 35 to 41 (fun wx => Blk wx g3 [.int .u32 (c1.toNat : Int), .int .u32 (c2.toNat : Int), .int .u32 ((if bt o 2 = true then b3 else 0#32).toNat : Int)] ∧ Below g3 w1 wx)
  case first =>
    cases h0 : bt o 2
    · obtain rfl : x4 = 0 := by have := HA.out.2; rw [h0] at this; simpa using this
      have H0 := Lib.hid h0
      clear h0
      go_wp2_with fail
      go_meet
      exact ⟨by rw [H0.out]; exact HO3.out, HB3.out⟩
    · obtain rfl : x4 = 4 := by have := HA.out.2; rw [h0] at this; simpa using this
      have H0 := Lib.hid h0
      clear h0
      have j0 := (HALL.out w3 HB3.out).2.1.cell 2 _ rfl
      have z0 := HO3.out.cell 2 _ rfl
      have f0 := HO3.out.fr 2
      go_wp2_with fail
      go_meet
      exact ⟨by rw [H0.out]; exact HO3.out.set 2 _, HB3.out.setCell (p := ⟨g3, 2, none⟩) (Nat.le_refl _) _⟩
  case rest =>
  obtain ⟨hO, hB⟩ := hcut
  generalize (if bt o 2 = true then b3 else 0#32) = c3 at *
  generalize wc = w4 at *
  have HO4 := Lib.hid hO; have HB4 := Lib.hid hB
  clear hO hB HO3 HB3 k1
  obtain rfl := HV.out
  clear HV
  have z0 := (HO4.out).cell 0 _ rfl
  have z1 := (HO4.out).cell 1 _ rfl
  have z2 := (HO4.out).cell 2 _ rfl
  have X2 := (HALL.out w4 HB4.out).2.2.1
  have k0 := (X2).cell 0 _ rfl
  have k1 := (X2).cell 1 _ rfl
  have k2 := (X2).cell 2 _ rfl
  have f0 := X2.fr 0; have f1 := X2.fr 1; have f2 := X2.fr 2
  have HX2 := Lib.hid X2; have HW4 := Lib.hid (HALL.out w4 HB4.out).2.2.2
  clear X2
  go_wp2_with fail
  have R3 := ((HX2.out.set 0 (.int .u32 (c1.toNat : Int))).set 1 (.int .u32 (c2.toNat : Int))).set 2 (.int .u32 (c3.toNat : Int))
  have r0 := R3.cell 0 _ rfl; have r1 := R3.cell 1 _ rfl; have r2 := R3.cell 2 _ rfl
  have hle : w.heap.size ≤ g2 := by omega
  exact bodyPost_ret (v := cvSt (c1, (c2, c3))) (by simp [results, Try.results85, go_sem, r0, r1, r2]) rfl ⟨rfl, ((HW4.out.setCell (p := ⟨g2, 0, none⟩) hle _).setCell (p := ⟨g2, 1, none⟩) hle _).setCell (p := ⟨g2, 2, none⟩) hle _⟩
theorem run_eql_st (x y z u v t : Int) (w : World) : (binOp .eql 100 (.agg #[.int .u32 x, .int .u32 y, .int .u32 z]) (.agg #[.int .u32 u, .int .u32 v, .int .u32 t])).run Try.prog w = .ok (.bool (x == u && y == v && z == t)) w := by
  rw [run_eql_struct, run_equalIn_agg w 9999 100 _ _ (by kernel_rfl) (by kernel_rfl)]
  cases h1 : x == u <;> cases h2 : y == v <;> cases h3 : z == t <;> simp [go_sem, h1, h2, h3]
end Rel
end Go.Proofs.Ytfmmiafdlfdfoaa
