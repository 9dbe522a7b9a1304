/- The walks over the observations of the reference: which are observations, and which call they show. Conditions: none. · The walk over the made building of chapter 18. Conditions: two bytes. · The made building of chapter 18 is valid; its cars can be read. Conditions: none. -/
import Derived.Test.YtfmmiafdlfdfoaaZState
import Derived.Test.YtfmmiafdlfdfoaaZCalls
import Derived.Test.YtfmmiafdlfdfoaaZBld15
namespace Go.Proofs.Ytfmmiafdlfdfoaa
open Go.RowKit
/-- An observation: floor, direction, door. -/
abbrev ObsV : Type := Int × Int × Int
def okB (n : Int) : Bool := decide (2 ≤ n) && decide (n ≤ 32)
def obsB (n : Int) (o : ObsV) : Bool := okB n && inR (-1) (n - 1) o.1 && inR 0 3 o.2.1 && inR 0 3 o.2.2
def showsV (n : Int) (o : ObsV) : CS :=
  if obsB n o = true ∧ o.2.2 = 1 ∧ 0 ≤ o.1 then (if o.2.1 = 1 ∧ o.1 < n - 1 then (bit o.1, 0#32) else if o.2.1 = 2 ∧ 0 < o.1 then (0#32, bit o.1) else (0#32, 0#32)) else (0#32, 0#32)
set_option maxHeartbeats 400000 in
theorem refOk_any (n : Int) (w : World) :
    Calls Try.prog 48 #[.int .i64 n] w fun e w' => e = .returned (.bool (okB n)) ∧ Below w.heap.size w w' := by
  by_cases h1 : 2 ≤ n
  · go_enter Try.func48, Try.ntmps48
    go_wp2_with fail
    all_goals (go_ret; exact ⟨by simp [okB, h1], Below.refl _ _⟩)
  · have h2 : n < 2 := by omega
    go_enter Try.func48, Try.ntmps48
    go_wp2_with fail
    all_goals (go_ret; exact ⟨by simp [okB]; intro h; omega, Below.refl _ _⟩)
set_option maxHeartbeats 1000000 in
theorem refIsObs_any (n : Int) (o : ObsV) (w : World) :
    Calls Try.prog 36 #[.int .i64 n, .agg #[.int .i64 o.1, .int .i64 o.2.1, .int .i64 o.2.2]] w fun e w' => e = .returned (.bool (obsB n o)) ∧ Below w.heap.size w w' := by
  have X0 : Blk (w.alloc (.cells #[.int .i64 o.1, .int .i64 o.2.1, .int .i64 o.2.2] 49)) w.heap.size [.int .i64 o.1, .int .i64 o.2.1, .int .i64 o.2.2] := by
    have hx := Blk.new w [.int .i64 o.1, .int .i64 o.2.1, .int .i64 o.2.2] 49
    exact hx
  have XW : Below w.heap.size w (w.alloc (.cells #[.int .i64 o.1, .int .i64 o.2.1, .int .i64 o.2.2] 49)) := below1' w _
  have HWW := Lib.hid XW; have HX0 := Lib.hid X0
  clear XW X0
  go_enter Try.func36, Try.ntmps36
  go_wp2_with fail
  generalize (w.alloc (.cells #[.int .i64 o.1, .int .i64 o.2.1, .int .i64 o.2.2] 49)) = w0 at *
  have HW := Lib.hid (Below.refl w0.heap.size w0)
  have hz0 := HX0.out.lt
  have k0 := HX0.out.cell 0 _ rfl
  have k1 := HX0.out.cell 1 _ rfl
  have k2 := HX0.out.cell 2 _ rfl
  refine (refOk_any n _).mono ?_
  rintro e w1 ⟨rfl, hbn⟩
  have HWn := Lib.hid (HW.out.trans (hbn.mono HW.out.size))
  try clear c0
  clear HW hbn
  have HW := HWn
  clear HWn
  have c0 := base_cell HW.out
  cases e1 : okB n
  · have E1 := Lib.hid e1
    clear e1
    go_wp2_with fail
    go_ret
    exact ⟨by simp [obsB, E1.out], HWW.out.trans (HW.out.mono HWW.out.size)⟩
  · have E1 := Lib.hid e1
    clear e1
    by_cases h1 : -1 ≤ o.1
    · by_cases h2 : o.1 < n
      · by_cases h3 : 0 ≤ o.2.1
        · by_cases h4 : o.2.1 ≤ 3
          · by_cases h5 : 0 ≤ o.2.2
            · by_cases h6 : o.2.2 ≤ 3
              · have e : obsB n o = true := by simp [obsB, E1.out, inR, h1, h3, h4, h5, h6]; omega
                have HE := Lib.hid e
                clear e
                go_wp2_with fail
                go_ret
                exact ⟨by rw [HE.out]; rfl, HWW.out.trans (HW.out.mono HWW.out.size)⟩
              · have h7 : decide (o.2.2 ≤ 3) = false := by simpa using h6
                have e : obsB n o = false := by simp [obsB, inR, h6]
                have HE := Lib.hid e
                clear e
                go_wp2_with fail
                go_ret
                exact ⟨by rw [HE.out]; rfl, HWW.out.trans (HW.out.mono HWW.out.size)⟩
            · have e : obsB n o = false := by simp [obsB, inR, h5]
              have HE := Lib.hid e
              clear e
              go_wp2_with fail
              go_ret
              exact ⟨by rw [HE.out]; rfl, HWW.out.trans (HW.out.mono HWW.out.size)⟩
          · have e : obsB n o = false := by simp [obsB, inR, h4]
            have HE := Lib.hid e
            clear e
            go_wp2_with fail
            go_ret
            exact ⟨by rw [HE.out]; rfl, HWW.out.trans (HW.out.mono HWW.out.size)⟩
        · have e : obsB n o = false := by simp [obsB, inR, h3]
          have HE := Lib.hid e
          clear e
          go_wp2_with fail
          go_ret
          exact ⟨by rw [HE.out]; rfl, HWW.out.trans (HW.out.mono HWW.out.size)⟩
      · have e : obsB n o = false := by simp [obsB, inR]; intros; omega
        have HE := Lib.hid e
        clear e
        go_wp2_with fail
        go_ret
        exact ⟨by rw [HE.out]; rfl, HWW.out.trans (HW.out.mono HWW.out.size)⟩
    · have e : obsB n o = false := by simp [obsB, inR, h1]
      have HE := Lib.hid e
      clear e
      go_wp2_with fail
      go_ret
      exact ⟨by rw [HE.out]; rfl, HWW.out.trans (HW.out.mono HWW.out.size)⟩
end Go.Proofs.Ytfmmiafdlfdfoaa
namespace Go.Proofs.Ytfmmiafdlfdfoaa
open Go.RowKit
attribute [local go_sem] run_store_float
theorem row_base {w : World} {base B : Nat} {e : TypeId} {size : Nat} {v : Value} {n : Nat} {xs : List Value} (h : w.ownsRow base e size v n xs) (hB : B ≤ base) : w.ownsRow B e size v n xs := by
  obtain ⟨h1, h2⟩ := h
  refine ⟨h1, ?_⟩
  rcases h2 with h2 | ⟨g, cap, cur, hv, hg, r⟩
  · exact .inl h2
  · exact .inr ⟨g, cap, cur, hv, Nat.le_trans hB hg, r⟩
def c18 (t : Nat) (fl : Int) (i : Nat) : CarV := ⟨1 + (t : Int) % 16, 2, 6, 5, 1 + (t : Int) % 3, 1 + (t : Int) / 3 % 3, 1 + (t : Int) / 9 % 3, 1 + (t : Int) / 9 % 3 + (t : Int) / 27 % 5, ((i : Int) + t) % fl⟩
def part18 (t : Nat) (fl : Int) (k i : Nat) : List CarV := (List.range k).map fun j => if j < i then c18 t fl j else c15 t fl j
theorem part18_at (t : Nat) (fl : Int) (k i : Nat) (h : i < k) : (part18 t fl k i)[i]? = some (c15 t fl i) := by simp [part18, h]
theorem part18_set (t : Nat) (fl : Int) (k i : Nat) : (part18 t fl k i).set i (c18 t fl i) = part18 t fl k (i + 1) := by
  apply List.ext_getElem?
  intro j
  by_cases hj : j < k
  · by_cases e : i = j
    · subst e; simp [part18, hj]
    · have : (j < i + 1) = (j < i) := propext ⟨fun h => by omega, fun h => by omega⟩
      rw [List.getElem?_set_ne e]
      simp [part18, hj, this]
  · rw [List.getElem?_eq_none (by simp [part18]; omega), List.getElem?_eq_none (by simp [part18]; omega)]
/-- The made building: floors, cars. -/
def fl18 (n : Nat) : Int := 2 + (n : Int) % 5
def k18 (n : Nat) : Nat := 1 + n / 5 % 3
def cars18 (n t : Nat) : List CarV := (List.range (k18 n)).map (c18 t (fl18 n))
def b18 (n t : Nat) : BldV := ⟨fl18 n, 1, 4000, 1 + (t : Int) % 7, 4591870180066957722, 4605380978949069210, 4607632778762754458, cars18 n t⟩
set_option maxHeartbeats 4000000 in
theorem b18_any (n t : Nat) (w : World) (hn : n < 256) (ht : t < 256) :
    Calls Try.prog 10 #[.int .u8 n, .int .u8 t] w fun e w' => ∃ g cap, e = .returned (.agg (bldP (fl18 n) (1 + (t : Int) % 7) (.slice (some ⟨g, 0, none⟩) (k18 n) cap)).toArray) ∧ w'.ownsRow (w.heap.size + 1) 40 9 (.slice (some ⟨g, 0, none⟩) (k18 n) cap) (k18 n) (carCells (cars18 n t)) ∧ Below w.heap.size w w' := by
  unfold cars18
  have hk1 : 1 ≤ k18 n := by unfold k18; omega
  have hk3 : k18 n ≤ 3 := by unfold k18; omega
  have hf2 : 2 ≤ fl18 n := by unfold fl18; omega
  have hb15 := b15_any n t (w.alloc (.cells #[.int .i64 0, .int .i64 0, .int .i64 0, .int .i64 0, .float .f64 0, .float .f64 0, .float .f64 0, .slice none 0 0] 29)) hn ht
  change Calls _ _ _ _ (fun e w' => ∃ g cap, e = .returned (.agg (bldP (fl18 n) (1 + (t : Int) % 7) (.slice (some ⟨g, 0, none⟩) (k18 n) cap)).toArray) ∧ w'.ownsRow _ 40 9 (.slice (some ⟨g, 0, none⟩) (k18 n) cap) (k18 n) (carCells ((List.range (k18 n)).map (c15 t (fl18 n)))) ∧ Below _ _ w') at hb15
  generalize fl18 n = fl at *
  generalize k18 n = k at *
  obtain ⟨pk, hpk⟩ : ∃ pk : Int, 1 + (t : Int) % 7 = pk := ⟨_, rfl⟩
  rw [hpk] at hb15 ⊢
  have R0 := Blk.new w [.int .i64 0, .int .i64 0, .int .i64 0, .int .i64 0, .float .f64 0, .float .f64 0, .float .f64 0, .slice none 0 0] 29
  have hb0 := below1' w (.cells #[.int .i64 0, .int .i64 0, .int .i64 0, .int .i64 0, .float .f64 0, .float .f64 0, .float .f64 0, .slice none 0 0] 29)
  change Blk (w.alloc (.cells #[.int .i64 0, .int .i64 0, .int .i64 0, .int .i64 0, .float .f64 0, .float .f64 0, .float .f64 0, .slice none 0 0] 29)) _ _ at R0
  have hz : (w.alloc (.cells #[.int .i64 0, .int .i64 0, .int .i64 0, .int .i64 0, .float .f64 0, .float .f64 0, .float .f64 0, .slice none 0 0] 29)).heap.size = w.heap.size + 1 := by simp
  have HR := Lib.hid R0; have HW := Lib.hid hb0; have HZ := Lib.hid hz; have H15 := Lib.hid hb15
  clear R0 hb0 hz hb15 hpk
  go_enter Try.func10, Try.ntmps10
  go_wp2_with fail
  refine H15.out.mono ?_
  rintro e w2 ⟨g, cap, rfl, hown, hb1⟩
  have hg0 := row_ge hown (Nat.le_refl _) (k := g) rfl
  have R2 := HR.out.next hb1
  have hb2 := HW.out.trans (hb1.mono (by have := HZ.out; omega))
  have hs2 := hb1.size
  rw [HZ.out] at hs2 hown hg0
  clear HR HW HZ hb1 H15
  generalize w.alloc (.cells #[.int .i64 0, .int .i64 0, .int .i64 0, .int .i64 0, .float .f64 0, .float .f64 0, .float .f64 0, .slice none 0 0] 29) = w1 at *
  have B3 := Blk.new w2 (bldP fl pk (.slice (some ⟨g, 0, none⟩) k cap)) 29
  have hb3 := below1' w2 (.cells (bldP fl pk (.slice (some ⟨g, 0, none⟩) k cap)).toArray 29)
  change Blk (w2.alloc (.cells #[.int .i64 fl, .int .i64 1, .int .i64 4000, .int .i64 pk, .float .f64 4591870180066957722, .float .f64 4605380978949069210, .float .f64 4607632778762754458, .slice (some ⟨g, 0, none⟩) k cap] 29)) _ _ at B3
  change Below _ _ (w2.alloc (.cells #[.int .i64 fl, .int .i64 1, .int .i64 4000, .int .i64 pk, .float .f64 4591870180066957722, .float .f64 4605380978949069210, .float .f64 4607632778762754458, .slice (some ⟨g, 0, none⟩) k cap] 29)) at hb3
  have R3 := R2.next hb3
  have hown3 := rowLater hown hb3
  have hb4 := hb2.trans (hb3.mono hb2.size)
  have k7 := B3.cell 7 _ rfl
  have hgl : g < w2.heap.size := by
    rcases hown.2 with ⟨hv, _⟩ | ⟨g', cap', cur, hv, _, hh, _⟩
    · simp at hv
    · simp at hv; rw [hv.1]; exact (Array.getElem?_eq_some_iff.1 hh).1
  have HB := Lib.hid B3; have HR := Lib.hid R3; have HO := Lib.hid hown3; have HW := Lib.hid hb4
  clear B3 R3 hown3 hb4 R2 hown hb2 hb3
  go_wp2_with fail
  clear k7
  generalize w2.alloc (.cells #[.int .i64 fl, .int .i64 1, .int .i64 4000, .int .i64 pk, .float .f64 4591870180066957722, .float .f64 4605380978949069210, .float .f64 4607632778762754458, .slice (some ⟨g, 0, none⟩) k cap] 29) = w3 at *
  generalize w2.heap.size = s5 at *
  go_loopw [6] (fun v wr => ∃ i : Nat, i ≤ k ∧ v = .int .i64 i ∧ Blk wr s5 (bldP fl pk (.slice (some ⟨g, 0, none⟩) k cap)) ∧ Blk wr w.heap.size [.int .i64 0, .int .i64 0, .int .i64 0, .int .i64 0, .float .f64 0, .float .f64 0, .float .f64 0, .slice none 0 0] ∧ wr.ownsRow (w.heap.size + 1) 40 9 (.slice (some ⟨g, 0, none⟩) k cap) k (carCells (part18 t fl k i)) ∧ Below w.heap.size w wr) (fun v _ => k - (intOf v).toNat)
  case atStart => exact ⟨0, by omega, rfl, HB.out, HR.out, row_base (by have := HO.out; simpa [part18] using this) (by omega), HW.out⟩
  case round =>
    obtain ⟨i, hi, rfl, B, R, hown, hb⟩ := hrel
    have j7 := B.cell 7 _ rfl
    by_cases hlt : i < k
    · have hd : decide ((i : Int) < (k : Int)) = true := by simp; omega
      have k0 : wr.cell? ⟨g, i * 9, none⟩ = some (.int .i64 (c15 t fl i).dl) := by rw [hown.cellAt _ (by omega)]; exact carCells_at _ i _ (part18_at t fl k i hlt) 0 _ rfl
      have f0 := row_fr hown (i * 9)
      have H1 := Lib.hid B; have H2 := Lib.hid R; have H3 := Lib.hid hown; have H4 := Lib.hid hb
      clear B R hown hb
      go_wp2_with fail
      have hl := carCells_set (part18 t fl k i) i 0 (c15 t fl i) (c18 t fl i) (.int .i64 (1 + (t : Int) % 16)) (by omega) (part18_at t fl k i hlt) rfl
      rw [part18_set] at hl
      refine ⟨⟨i + 1, by omega, by go_num, H1.out.other (by omega) _, H2.out.other (by omega) _, ?_, H4.out.setCell (p := ⟨g, i * 9, none⟩) (by simp; omega) _⟩, by simp [intOf]; omega⟩
      rw [hl]
      exact row_upd H3.out (i * 9) _
    · have hd : decide ((i : Int) < (k : Int)) = false := by simp; omega
      obtain rfl : i = k := by omega
      have pall : part18 t fl i i = (List.range i).map (c18 t fl) := by
        apply List.map_congr_left
        intro j hj
        rw [if_pos (List.mem_range.1 hj)]
      rw [pall] at hown
      have k0 := B.cell 0 _ rfl; have z0 := R.cell 0 _ rfl; have f0 := R.fr 0
      have k1 := B.cell 1 _ rfl; have z1 := R.cell 1 _ rfl; have f1 := R.fr 1
      have k2 := B.cell 2 _ rfl; have z2 := R.cell 2 _ rfl; have f2 := R.fr 2
      have k3 := B.cell 3 _ rfl; have z3 := R.cell 3 _ rfl; have f3 := R.fr 3
      have k4 := B.cell 4 _ rfl; have z4 := R.cell 4 _ rfl; have f4 := R.fr 4
      have k5 := B.cell 5 _ rfl; have z5 := R.cell 5 _ rfl; have f5 := R.fr 5
      have k6 := B.cell 6 _ rfl; have z6 := R.cell 6 _ rfl; have f6 := R.fr 6
      have k7 := B.cell 7 _ rfl; have z7 := R.cell 7 _ rfl; have f7 := R.fr 7
      have H1 := Lib.hid R; have H2 := Lib.hid hown; have H3 := Lib.hid hb
      have hne := row_ne hown (b := w.heap.size) (by omega)
      have N1 := Lib.hid hne
      clear R B hown hb pall hne
      go_wp2_with fail
      have hne := N1.out
      have R8 := ((((((((H1.out.set 0 (.int .i64 fl)).set 1 (.int .i64 1)).set 2 (.int .i64 4000)).set 3 (.int .i64 pk)).set 4 (.float .f64 4591870180066957722)).set 5 (.float .f64 4605380978949069210)).set 6 (.float .f64 4607632778762754458)).set 7 (.slice (some ⟨g, 0, none⟩) i cap))
      have r0 := R8.cell 0 _ rfl
      have r1 := R8.cell 1 _ rfl
      have r2 := R8.cell 2 _ rfl
      have r3 := R8.cell 3 _ rfl
      have r4 := R8.cell 4 _ rfl
      have r5 := R8.cell 5 _ rfl
      have r6 := R8.cell 6 _ rfl
      have r7 := R8.cell 7 _ rfl
      exact bodyPost_ret (v := .agg (bldP fl pk (.slice (some ⟨g, 0, none⟩) i cap)).toArray) (by simp [results, Try.results10, go_sem, r0, r1, r2, r3, r4, r5, r6, r7]) rfl ⟨g, cap, rfl, (row_set (row_set (row_set (row_set (row_set (row_set (row_set (row_set H2.out hne) hne) hne) hne) hne) hne) hne) hne), ((((((((H3.out.setCell (p := ⟨w.heap.size, 0, none⟩) (Nat.le_refl _) (.int .i64 fl)).setCell (p := ⟨w.heap.size, 1, none⟩) (Nat.le_refl _) (.int .i64 1)).setCell (p := ⟨w.heap.size, 2, none⟩) (Nat.le_refl _) (.int .i64 4000)).setCell (p := ⟨w.heap.size, 3, none⟩) (Nat.le_refl _) (.int .i64 pk)).setCell (p := ⟨w.heap.size, 4, none⟩) (Nat.le_refl _) (.float .f64 4591870180066957722)).setCell (p := ⟨w.heap.size, 5, none⟩) (Nat.le_refl _) (.float .f64 4605380978949069210)).setCell (p := ⟨w.heap.size, 6, none⟩) (Nat.le_refl _) (.float .f64 4607632778762754458)).setCell (p := ⟨w.heap.size, 7, none⟩) (Nat.le_refl _) (.slice (some ⟨g, 0, none⟩) i cap))⟩
end Go.Proofs.Ytfmmiafdlfdfoaa
namespace Go.Proofs.Ytfmmiafdlfdfoaa
open Go.RowKit
theorem rdC_of_owns {w : World} {base g n cap : Nat} {l : List CarV} (h : w.ownsRow base 40 9 (.slice (some ⟨g, 0, none⟩) n cap) n (carCells l)) (hn : l.length = n) : RdC w (some ⟨g, 0, none⟩) l := by
  intro i c hc
  have hi := (List.getElem?_eq_some_iff.1 hc).1
  refine ⟨⟨g, 0, none⟩, rfl, ?_, fun j u hu => ?_⟩
  · rcases h.2 with ⟨hv, _⟩ | ⟨g', cap', cur, hv, _, hh, _⟩
    · simp at hv
    · simp at hv; rw [hv.1]; exact (Array.getElem?_eq_some_iff.1 hh).1
  · have hj : j < 9 := (List.getElem?_eq_some_iff.1 hu).1
    rw [Addr.add_lit, Nat.zero_add, h.cellAt _ (by omega)]
    exact carCells_at l i c hc j u hu
theorem cars18_len (n t : Nat) : (cars18 n t).length = k18 n := by simp [cars18]
theorem fl18_range (n : Nat) : 2 ≤ fl18 n ∧ fl18 n ≤ 6 := by unfold fl18; omega
theorem k18_range (n : Nat) : 1 ≤ k18 n ∧ k18 n ≤ 3 := by unfold k18; omega
theorem inR_true {lo hi x : Int} (h1 : lo ≤ x) (h2 : x ≤ hi) : inR lo hi x = true := by simp [inR, h1, h2]
theorem times18 (t : Nat) (fl : Int) (i : Nat) (h2 : 2 ≤ fl) : timesB (c18 t fl i) fl = true := by
  have h0 := Int.emod_nonneg ((i : Int) + t) (show fl ≠ 0 by omega)
  have h1 := Int.emod_lt_of_pos ((i : Int) + t) (show 0 < fl by omega)
  unfold timesB
  have e1 : inAll 1 10000 [(c18 t fl i).dl, (c18 t fl i).pu, (c18 t fl i).qu, (c18 t fl i).st, (c18 t fl i).tr, (c18 t fl i).dw, (c18 t fl i).ho] = true := by
    have a0 : inR 1 10000 (c18 t fl i).dl = true := inR_true (by show 1 ≤ 1 + (t : Int) % 16; omega) (by show 1 + (t : Int) % 16 ≤ 10000; omega)
    have a3 : inR 1 10000 (c18 t fl i).st = true := inR_true (by show 1 ≤ 1 + (t : Int) % 3; omega) (by show 1 + (t : Int) % 3 ≤ 10000; omega)
    have a4 : inR 1 10000 (c18 t fl i).tr = true := inR_true (by show 1 ≤ 1 + (t : Int) / 3 % 3; omega) (by show 1 + (t : Int) / 3 % 3 ≤ 10000; omega)
    have a5 : inR 1 10000 (c18 t fl i).dw = true := inR_true (by show 1 ≤ 1 + (t : Int) / 9 % 3; omega) (by show 1 + (t : Int) / 9 % 3 ≤ 10000; omega)
    have a6 : inR 1 10000 (c18 t fl i).ho = true := inR_true (by show 1 ≤ 1 + (t : Int) / 9 % 3 + (t : Int) / 27 % 5; omega) (by show 1 + (t : Int) / 9 % 3 + (t : Int) / 27 % 5 ≤ 10000; omega)
    simp only [inAll, List.all_cons, List.all_nil, a0, a3, a4, a5, a6]
    rfl
  have e2 : inAll 0 10000 [(c18 t fl i).sl] = true := by rfl
  have e3 : decide ((c18 t fl i).dw ≤ (c18 t fl i).ho) = true := decide_eq_true (by show 1 + (t : Int) / 9 % 3 ≤ 1 + (t : Int) / 9 % 3 + (t : Int) / 27 % 5; omega)
  have e4 : inAll 0 (fl - 1) [(c18 t fl i).hm] = true := by rw [inAll_one]; show 0 ≤ ((i : Int) + t) % fl ∧ ((i : Int) + t) % fl ≤ fl - 1; omega
  rw [e1, e2, e3, e4]
  rfl
theorem loads18 : flt 0 4591870180066957722 = true ∧ flt 4591870180066957722 4605380978949069210 = true ∧ flt 4605380978949069210 4607632778762754458 = true ∧ fle 4607632778762754458 9218868437227405311 = true := by
  refine ⟨?_, ?_, ?_, ?_⟩ <;> decide +kernel
theorem valid18 (n t : Nat) : validN (b18 n t) = 0 := by
  obtain ⟨f2, f6⟩ := fl18_range n
  obtain ⟨k1, k3⟩ := k18_range n
  have e1 : inAll 2 32 [(b18 n t).fl] = true := by rw [inAll_one]; show 2 ≤ fl18 n ∧ fl18 n ≤ 32; omega
  have el : ((b18 n t).cars.length : Int) = k18 n := by show ((cars18 n t).length : Int) = _; rw [cars18_len]
  have e2 : inAll 1 8 [((b18 n t).cars.length : Int)] = true := by rw [inAll_one, el]; omega
  have e3 : goodB (b18 n t) (b18 n t).cars.length = true := by
    unfold goodB
    rw [List.take_length]
    have a1 : inAll 1 16 [(b18 n t).deb] = true := by rw [inAll_one]; show (1 : Int) ≤ 1 ∧ (1 : Int) ≤ 16; omega
    have a2 : inAll 1 10000 [(b18 n t).park] = true := by rw [inAll_one]; show 1 ≤ 1 + (t : Int) % 7 ∧ 1 + (t : Int) % 7 ≤ 10000; omega
    rw [a1, a2]
    show (true && true && (cars18 n t).all (timesB · (fl18 n))) = true
    rw [Bool.true_and, Bool.true_and, List.all_eq_true]
    intro c hc
    obtain ⟨i, _, rfl⟩ := List.mem_map.1 hc
    exact times18 t _ i f2
  have e4 : loadsB (b18 n t) = true := by
    obtain ⟨l1, l2, l3, l4⟩ := loads18
    show (flt 0 4591870180066957722 && flt 4591870180066957722 4605380978949069210 && flt 4605380978949069210 4607632778762754458 && fle 4607632778762754458 9218868437227405311) = true
    rw [l1, l2, l3, l4]; rfl
  have e5 : inAll (18 * ((b18 n t).cars.length : Int) + 24) 65536 [(b18 n t).room] = true := by
    rw [inAll_one, el]; show 18 * (k18 n : Int) + 24 ≤ 4000 ∧ (4000 : Int) ≤ 65536; omega
  unfold validN
  rw [e1, e2, e3, e4, e5]
  rfl
theorem slack18 (n t : Nat) : ∀ c ∈ (b18 n t).cars, -9223372036854775808 ≤ c.sl ∧ c.sl < 9223372036854775807 := by
  intro c hc
  obtain ⟨i, _, rfl⟩ := List.mem_map.1 hc
  show (-9223372036854775808 : Int) ≤ 5 ∧ (5 : Int) < 9223372036854775807
  omega
end Go.Proofs.Ytfmmiafdlfdfoaa
