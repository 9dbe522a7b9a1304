/- The walk over the made building of chapter 10; it is valid, its cars can be read. Conditions: two bytes. -/
import Derived.Test.YtgoojlfpngmdlaaZHallB
namespace Go.Proofs.Ytgoojlfpngmdlaa
open Go.RowKit
attribute [local go_sem] run_store_float
def fl10 (n : Nat) : Int := 2 + (n : Int) % 7
def k10 (n : Nat) : Nat := 1 + n / 7 % 3
def b10 (n r : Nat) : BldV := ⟨fl10 n, 1, 18 * (k10 n : Int) + 24 + r, 30, 4591870180066957722, 4605380978949069210, 4607632778762754458, carsS (k10 n) (fl10 n)⟩
theorem fl10_range (n : Nat) : 2 ≤ fl10 n ∧ fl10 n ≤ 8 := by unfold fl10; omega
theorem k10_range (n : Nat) : 1 ≤ k10 n ∧ k10 n ≤ 3 := by unfold k10; omega
theorem cars10_len (n r : Nat) : (b10 n r).cars.length = k10 n := by simp [b10, carsS]
theorem timesS (fl : Int) (i : Nat) (h2 : 2 ≤ fl) : timesB (carS i fl) fl = true := by
  have h0 := Int.emod_nonneg (i : Int) (show fl ≠ 0 by omega)
  have h1 := Int.emod_lt_of_pos (i : Int) (show 0 < fl by omega)
  have e4 : inAll 0 (fl - 1) [(carS i fl).hm] = true := by rw [inAll_one]; show 0 ≤ (i : Int) % fl ∧ (i : Int) % fl ≤ fl - 1; omega
  unfold timesB
  rw [e4]
  rfl
theorem valid10 (n r : Nat) (hr : r < 256) : validN (b10 n r) = 0 := by
  obtain ⟨f2, f8⟩ := fl10_range n
  obtain ⟨k1, k3⟩ := k10_range n
  have e1 : inAll 2 32 [(b10 n r).fl] = true := by rw [inAll_one]; show 2 ≤ fl10 n ∧ fl10 n ≤ 32; omega
  have el : ((b10 n r).cars.length : Int) = k10 n := by rw [cars10_len]
  have e2 : inAll 1 8 [((b10 n r).cars.length : Int)] = true := by rw [inAll_one, el]; omega
  have e3 : goodB (b10 n r) (b10 n r).cars.length = true := by
    unfold goodB
    rw [List.take_length]
    have a1 : inAll 1 16 [(b10 n r).deb] = true := by rw [inAll_one]; show (1 : Int) ≤ 1 ∧ (1 : Int) ≤ 16; omega
    have a2 : inAll 1 10000 [(b10 n r).park] = true := by rw [inAll_one]; show (1 : Int) ≤ 30 ∧ (30 : Int) ≤ 10000; omega
    rw [a1, a2]
    show (true && true && (carsS (k10 n) (fl10 n)).all (timesB · (fl10 n))) = true
    rw [Bool.true_and, Bool.true_and, List.all_eq_true]
    intro c hc
    obtain ⟨i, _, rfl⟩ := List.mem_map.1 hc
    exact timesS _ i f2
  have e4 : loadsB (b10 n r) = true := by
    obtain ⟨l1, l2, l3, l4⟩ := loads18
    show (flt 0 4591870180066957722 && flt 4591870180066957722 4605380978949069210 && flt 4605380978949069210 4607632778762754458 && fle 4607632778762754458 9218868437227405311) = true
    rw [l1, l2, l3, l4]; rfl
  have e5 : inAll (18 * ((b10 n r).cars.length : Int) + 24) 65536 [(b10 n r).room] = true := by
    rw [inAll_one, el]; show 18 * (k10 n : Int) + 24 ≤ 18 * (k10 n : Int) + 24 + r ∧ 18 * (k10 n : Int) + 24 + r ≤ 65536; omega
  unfold validN
  rw [e1, e2, e3, e4, e5]
  rfl
theorem slack10 (n r : Nat) : ∀ c ∈ (b10 n r).cars, -9223372036854775808 ≤ c.sl ∧ c.sl < 9223372036854775807 := by
  intro c hc
  obtain ⟨i, _, rfl⟩ := List.mem_map.1 hc
  show (-9223372036854775808 : Int) ≤ 5 ∧ (5 : Int) < 9223372036854775807
  omega
set_option maxHeartbeats 4000000 in
theorem b10_any (n r : Nat) (w : World) (hn : n < 256) (hr : r < 256) :
    Calls Try.prog 10 #[.int .u8 n, .int .u8 r] w fun e w' => ∃ g cap, e = .returned (cvB (b10 n r) (some ⟨g, 0, none⟩) cap) ∧ w.heap.size < g ∧ g < w'.heap.size ∧ RdC w' (some ⟨g, 0, none⟩) (b10 n r).cars ∧ Below w.heap.size w w' := by
  obtain ⟨k, hkk⟩ : ∃ k : Nat, 1 + n / 7 % 3 = k := ⟨_, rfl⟩
  obtain ⟨fl, hfl⟩ : ∃ fl : Int, 2 + (n : Int) % 7 = fl := ⟨_, rfl⟩
  have hk : 1 + (n : Int) / 7 % 3 = k := by omega
  have hk1 : 1 ≤ k := by omega
  have hk3 : k ≤ 3 := by omega
  have hf2 : 2 ≤ fl := by omega
  have hf8 : fl ≤ 8 := by omega
  have hb : b10 n r = ⟨fl, 1, 18 * (k : Int) + 24 + r, 30, 4591870180066957722, 4605380978949069210, 4607632778762754458, carsS k fl⟩ := by
    unfold b10 k10 fl10; rw [hkk, hfl]
  rw [hb]
  clear hb hkk
  have hcl : (carsS k fl).length = k := by simp [carsS]
  show Calls _ _ _ _ (fun e w' => ∃ g cap, e = .returned (.agg #[.int .i64 fl, .int .i64 1, .int .i64 (18 * (k : Int) + 24 + r), .int .i64 30, .float .f64 4591870180066957722, .float .f64 4605380978949069210, .float .f64 4607632778762754458, .slice (some ⟨g, 0, none⟩) (carsS k fl).length cap]) ∧ w.heap.size < g ∧ g < w'.heap.size ∧ RdC w' (some ⟨g, 0, none⟩) (carsS k fl) ∧ Below w.heap.size w w')
  obtain ⟨rm, hrm⟩ : ∃ rm : Int, 18 * (k : Int) + 24 + r = rm := ⟨_, rfl⟩
  have HCL := Lib.hid hcl; have HRM := Lib.hid hrm
  rw [hcl, hrm]
  clear hrm
  have X0 : Blk (w.alloc (.cells #[.int .i64 0, .int .i64 0, .int .i64 0, .int .i64 0, .float .f64 0, .float .f64 0, .float .f64 0, .slice none 0 0] 29)) w.heap.size [.int .i64 0, .int .i64 0, .int .i64 0, .int .i64 0, .float .f64 0, .float .f64 0, .float .f64 0, .slice none 0 0] := by
    have hx := Blk.new w [.int .i64 0, .int .i64 0, .int .i64 0, .int .i64 0, .float .f64 0, .float .f64 0, .float .f64 0, .slice none 0 0] 29
    exact hx
  have XW : Below w.heap.size w (w.alloc (.cells #[.int .i64 0, .int .i64 0, .int .i64 0, .int .i64 0, .float .f64 0, .float .f64 0, .float .f64 0, .slice none 0 0] 29)) := below1' w _
  have HWW := Lib.hid XW; have HX0 := Lib.hid X0
  clear XW X0
  have HK := Lib.hid hk; have HF := Lib.hid hfl
  clear hk hfl hcl
  go_enter Try.func10, Try.ntmps10
  go_wp2_with fail
  generalize (w.alloc (.cells #[.int .i64 0, .int .i64 0, .int .i64 0, .int .i64 0, .float .f64 0, .float .f64 0, .float .f64 0, .slice none 0 0] 29)) = w0 at *
  have HW := Lib.hid (Below.refl w0.heap.size w0)
  have hz0 := HX0.out.lt
  rw [HK.out, HF.out]
  refine (sample_any fl k w0 (by omega) (by omega) (by omega)).mono ?_
  rintro e w2 ⟨v, rfl, hown, hb1⟩
  obtain ⟨g, cap, rfl⟩ : ∃ g cap, v = .slice (some ⟨g, 0, none⟩) k cap := by
    rcases hown.2 with ⟨hv, h⟩ | ⟨g', cap', cur, hv, _⟩
    · omega
    · exact ⟨g', cap', hv⟩
  have hg0 := row_ge hown (Nat.le_refl _) (k := g) rfl
  have hgl : g < w2.heap.size := by
    rcases hown.2 with ⟨hv, _⟩ | ⟨g', cap', cur, hv, _, hh, _⟩
    · simp at hv
    · simp at hv; rw [hv.1]; exact (Array.getElem?_eq_some_iff.1 hh).1
  have HRD := Lib.hid (rdC_of_owns hown HCL.out)
  have hlt0 := HX0.out.lt
  have R2 := HX0.out.next hb1
  have hsw := HWW.out.size
  have HR := Lib.hid R2
  have HW2 := Lib.hid (HWW.out.trans (hb1.mono hsw))
  have hs2 := hb1.size
  clear R2 hown hb1 HX0 HW
  go_upto_region 2 with fail
  have B3 := Blk.new w2 [.int .i64 fl, .int .i64 1, .int .i64 4000, .int .i64 30, .float .f64 4591870180066957722, .float .f64 4605380978949069210, .float .f64 4607632778762754458, .slice (some ⟨g, 0, none⟩) k cap] 29
  have hb3 := below1' w2 (.cells #[.int .i64 fl, .int .i64 1, .int .i64 4000, .int .i64 30, .float .f64 4591870180066957722, .float .f64 4605380978949069210, .float .f64 4607632778762754458, .slice (some ⟨g, 0, none⟩) k cap] 29)
  have HB := Lib.hid B3
  have HR3 := Lib.hid (HR.out.next hb3)
  have HRD3 := Lib.hid (HRD.out.next hb3)
  have hs3 := hb3.size
  have HW3 := Lib.hid (HW2.out.trans (hb3.mono HW2.out.size))
  clear B3 hb3 HR HRD HW2
  change Hid (Blk (w2.alloc (.cells #[.int .i64 fl, .int .i64 1, .int .i64 4000, .int .i64 30, .float .f64 4591870180066957722, .float .f64 4605380978949069210, .float .f64 4607632778762754458, .slice (some ⟨g, 0, none⟩) k cap] 29)) _ _) at HB
  change Hid (Blk (w2.alloc (.cells #[.int .i64 fl, .int .i64 1, .int .i64 4000, .int .i64 30, .float .f64 4591870180066957722, .float .f64 4605380978949069210, .float .f64 4607632778762754458, .slice (some ⟨g, 0, none⟩) k cap] 29)) _ _) at HR3
  change Hid (RdC (w2.alloc (.cells #[.int .i64 fl, .int .i64 1, .int .i64 4000, .int .i64 30, .float .f64 4591870180066957722, .float .f64 4605380978949069210, .float .f64 4607632778762754458, .slice (some ⟨g, 0, none⟩) k cap] 29)) _ _) at HRD3
  change Hid (Below _ _ (w2.alloc (.cells #[.int .i64 fl, .int .i64 1, .int .i64 4000, .int .i64 30, .float .f64 4591870180066957722, .float .f64 4605380978949069210, .float .f64 4607632778762754458, .slice (some ⟨g, 0, none⟩) k cap] 29))) at HW3
  change _ ≤ (w2.alloc (.cells #[.int .i64 fl, .int .i64 1, .int .i64 4000, .int .i64 30, .float .f64 4591870180066957722, .float .f64 4605380978949069210, .float .f64 4607632778762754458, .slice (some ⟨g, 0, none⟩) k cap] 29)).heap.size at hs3
  generalize w2.alloc (.cells #[.int .i64 fl, .int .i64 1, .int .i64 4000, .int .i64 30, .float .f64 4591870180066957722, .float .f64 4605380978949069210, .float .f64 4607632778762754458, .slice (some ⟨g, 0, none⟩) k cap] 29) = w3 at *
  generalize hs5 : w2.heap.size = s5 at *
  have k0 := (HB.out).cell 0 _ rfl
  have k1 := (HB.out).cell 1 _ rfl
  have k2 := (HB.out).cell 2 _ rfl
  have k3 := (HB.out).cell 3 _ rfl
  have k4 := (HB.out).cell 4 _ rfl
  have k5 := (HB.out).cell 5 _ rfl
  have k6 := (HB.out).cell 6 _ rfl
  have k7 := (HB.out).cell 7 _ rfl
  have f2 := HB.out.fr 2
  go_upto_region 3 with fail
  clear k0 k1 k2 k3 k4 k5 k6 k7 f2
  rw [HRM.out]
  have HB4 := Lib.hid (HB.out.set 2 (.int .i64 rm))
  have HR4 := Lib.hid (HR3.out.other (show w.heap.size ≠ s5 by omega) (i := 2) (.int .i64 rm))
  have HW4 := Lib.hid (HW3.out.setCell (p := ⟨s5, 2, none⟩) (show w.heap.size ≤ s5 by omega) (.int .i64 rm))
  have HRD4 : Hid (∀ W, (∀ b, b ≠ s5 → b ≠ w.heap.size → W.heap[b]? = w3.heap[b]?) → W.heap.size = w3.heap.size → RdC W (some ⟨g, 0, none⟩) (carsS k fl)) := by
    refine Lib.hid fun W hW hS i c hc => ?_
    obtain ⟨A, hA, hAl, hcell⟩ := HRD3.out i c hc
    obtain rfl : A = ⟨g, 0, none⟩ := by simpa using hA.symm
    refine ⟨_, rfl, by rw [hS]; exact hAl, fun j u hu => ?_⟩
    rw [← hcell j u hu]
    rw [Addr.add_lit]
    unfold World.cell?
    simp only [hW g (by omega) (by omega)]
  clear HB HR3 HW3 HRD3
  have hsz3 : (w3.setCell ⟨s5, 2, none⟩ (.int .i64 rm)).heap.size = w3.heap.size := by simp
  have HO4 : Hid (∀ b, b ≠ s5 → (w3.setCell ⟨s5, 2, none⟩ (.int .i64 rm)).heap[b]? = w3.heap[b]?) := Lib.hid fun b hb => Below.heap_setCell _ _ _ _ hb
  generalize w3.setCell ⟨s5, 2, none⟩ (.int .i64 rm) = w4 at *
  have k0 := (HB4.out).cell 0 _ rfl
  have k1 := (HB4.out).cell 1 _ rfl
  have k2 := (HB4.out).cell 2 _ rfl
  have k3 := (HB4.out).cell 3 _ rfl
  have k4 := (HB4.out).cell 4 _ rfl
  have k5 := (HB4.out).cell 5 _ rfl
  have k6 := (HB4.out).cell 6 _ rfl
  have k7 := (HB4.out).cell 7 _ rfl
  have z0 := (HR4.out).cell 0 _ rfl
  have z1 := (HR4.out).cell 1 _ rfl
  have z2 := (HR4.out).cell 2 _ rfl
  have z3 := (HR4.out).cell 3 _ rfl
  have z4 := (HR4.out).cell 4 _ rfl
  have z5 := (HR4.out).cell 5 _ rfl
  have z6 := (HR4.out).cell 6 _ rfl
  have z7 := (HR4.out).cell 7 _ rfl
  have f0 := HR4.out.fr 0; have f1 := HR4.out.fr 1; have f2 := HR4.out.fr 2; have f3 := HR4.out.fr 3; have f4 := HR4.out.fr 4; have f5 := HR4.out.fr 5; have f6 := HR4.out.fr 6; have f7 := HR4.out.fr 7
  go_wp2_with fail
  have R8 := ((((((((HR4.out.set 0 (.int .i64 fl)).set 1 (.int .i64 1)).set 2 (.int .i64 rm)).set 3 (.int .i64 30)).set 4 (.float .f64 4591870180066957722)).set 5 (.float .f64 4605380978949069210)).set 6 (.float .f64 4607632778762754458)).set 7 (.slice (some ⟨g, 0, none⟩) k cap))
  have r0 := (R8).cell 0 _ rfl
  have r1 := (R8).cell 1 _ rfl
  have r2 := (R8).cell 2 _ rfl
  have r3 := (R8).cell 3 _ rfl
  have r4 := (R8).cell 4 _ rfl
  have r5 := (R8).cell 5 _ rfl
  have r6 := (R8).cell 6 _ rfl
  have r7 := (R8).cell 7 _ rfl
  refine bodyPost_ret (v := .agg #[.int .i64 fl, .int .i64 1, .int .i64 rm, .int .i64 30, .float .f64 4591870180066957722, .float .f64 4605380978949069210, .float .f64 4607632778762754458, .slice (some ⟨g, 0, none⟩) k cap]) (by simp [results, Try.results10, go_sem, r0, r1, r2, r3, r4, r5, r6, r7]) rfl ⟨g, cap, rfl, by omega, by simp; omega, HRD4.out _ ?_ (by simp; omega), ((((((((HW4.out.setCell (p := ⟨w.heap.size, 0, none⟩) (Nat.le_refl _) (.int .i64 fl)).setCell (p := ⟨w.heap.size, 1, none⟩) (Nat.le_refl _) (.int .i64 1)).setCell (p := ⟨w.heap.size, 2, none⟩) (Nat.le_refl _) (.int .i64 rm)).setCell (p := ⟨w.heap.size, 3, none⟩) (Nat.le_refl _) (.int .i64 30)).setCell (p := ⟨w.heap.size, 4, none⟩) (Nat.le_refl _) (.float .f64 4591870180066957722)).setCell (p := ⟨w.heap.size, 5, none⟩) (Nat.le_refl _) (.float .f64 4605380978949069210)).setCell (p := ⟨w.heap.size, 6, none⟩) (Nat.le_refl _) (.float .f64 4607632778762754458)).setCell (p := ⟨w.heap.size, 7, none⟩) (Nat.le_refl _) (.slice (some ⟨g, 0, none⟩) k cap))⟩
  intro b h5 h0
  rw [← HO4.out b h5]
  repeat rw [Below.heap_setCell _ _ _ _ h0]
end Go.Proofs.Ytgoojlfpngmdlaa
