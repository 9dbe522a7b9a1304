/- The walks over the made buildings of chapters 15 and 18. Conditions: two bytes. -/
import Derived.Test.YtfmmiafdlfdfoaaZSample
namespace Go.Proofs.Ytfmmiafdlfdfoaa
open Go.RowKit
attribute [local go_sem] run_store_float

theorem row_upd {w : World} {base g n cap size : Nat} {e : TypeId} {xs : List Value} (h : w.ownsRow base e size (.slice (some ⟨g, 0, none⟩) n cap) n xs) (k : Nat) (u : Value) :
    (w.setCell ⟨g, k, none⟩ u).ownsRow base e size (.slice (some ⟨g, 0, none⟩) n cap) n (xs.set k u) := by
  obtain ⟨h1, h2⟩ := h
  refine ⟨by simpa using h1, ?_⟩
  rcases h2 with ⟨h2, _⟩ | ⟨g', cap', cur, hv, hg, hh, hn, hm, hs, ht⟩
  · simp at h2
  · simp at hv
    obtain ⟨rfl, rfl⟩ := hv
    obtain ⟨hlt, hkk⟩ := Array.getElem?_eq_some_iff.1 hh
    refine .inr ⟨g, cap, cur.setIfInBounds k u, rfl, hg, ?_, hn, hm, by simpa using hs, ?_⟩
    · show (w.heap.modify g _)[g]? = _
      rw [Array.getElem?_eq_getElem (by rw [Array.size_modify]; exact hlt), Array.getElem_modify_self, hkk]
      simp
    · rw [Array.toList_setIfInBounds, ← ht, List.take_set]
theorem carCells_len (l : List CarV) : (carCells l).length = l.length * 9 := by
  induction l with
  | nil => rfl
  | cons c l ih => simp only [carCells, List.flatMap_cons, List.length_append] at *; rw [ih]; simp [CarV.cells]; omega
theorem carCells_at (l : List CarV) (i : Nat) (c : CarV) (h : l[i]? = some c) (j : Nat) (u : Value) (hu : c.cells[j]? = some u) : (carCells l)[i * 9 + j]? = some u := by
  induction l generalizing i with
  | nil => simp at h
  | cons q l ih =>
    have hj : j < 9 := (List.getElem?_eq_some_iff.1 hu).1
    show (q.cells ++ carCells l)[i * 9 + j]? = some u
    cases i with
    | zero =>
      simp at h; subst h
      rw [List.getElem?_append_left (by simp [CarV.cells]; omega)]
      simpa using hu
    | succ i =>
      rw [List.getElem?_append_right (by simp [CarV.cells]; omega)]
      have : (i + 1) * 9 + j - q.cells.length = i * 9 + j := by simp [CarV.cells]; omega
      rw [this]
      exact ih i (by simpa using h)
theorem carCells_set (l : List CarV) (i j : Nat) (c c' : CarV) (u : Value) (hj : j < 9) (hi : l[i]? = some c) (h : c'.cells = c.cells.set j u) : carCells (l.set i c') = (carCells l).set (i * 9 + j) u := by
  induction l generalizing i with
  | nil => simp at hi
  | cons q l ih =>
    cases i with
    | zero =>
      simp at hi; subst hi
      show c'.cells ++ carCells l = (q.cells ++ carCells l).set (0 * 9 + j) u
      rw [List.set_append_left _ _ (by simp [CarV.cells]; omega), h, Nat.zero_mul, Nat.zero_add]
    | succ i =>
      show q.cells ++ carCells (l.set i c') = (q.cells ++ carCells l).set ((i + 1) * 9 + j) u
      rw [List.set_append_right _ _ (by simp [CarV.cells]; omega), ih i (by simpa using hi)]
      congr 2
      simp [CarV.cells]; omega
def c15 (t : Nat) (fl : Int) (i : Nat) : CarV := ⟨100, 2, 6, 5, 1 + (t : Int) % 3, 1 + (t : Int) / 3 % 3, 1 + (t : Int) / 9 % 3, 1 + (t : Int) / 9 % 3 + (t : Int) / 27 % 5, ((i : Int) + t) % fl⟩
def part15 (t : Nat) (fl : Int) (k i : Nat) : List CarV := (List.range k).map fun j => if j < i then c15 t fl j else carS j fl
theorem part15_at (t : Nat) (fl : Int) (k i : Nat) (h : i < k) : (part15 t fl k i)[i]? = some (carS i fl) := by simp [part15, h]
theorem part15_set (t : Nat) (fl : Int) (k i : Nat) : (part15 t fl k i).set i (c15 t fl i) = part15 t fl k (i + 1) := by
  apply List.ext_getElem?
  intro j
  by_cases hj : j < k
  · by_cases e : i = j
    · subst e; simp [part15, hj]
    · have : (j < i + 1) = (j < i) := propext ⟨fun h => by omega, fun h => by omega⟩
      rw [List.getElem?_set_ne e]
      simp [part15, hj, this]
  · rw [List.getElem?_eq_none (by simp [part15]; omega), List.getElem?_eq_none (by simp [part15]; omega)]
abbrev bldP (fl pk : Int) (v : Value) : List Value := [.int .i64 fl, .int .i64 1, .int .i64 4000, .int .i64 pk, .float .f64 4591870180066957722, .float .f64 4605380978949069210, .float .f64 4607632778762754458, v]
theorem Blk.other {W : World} {b g i : Nat} {xs : List Value} (h : Blk W b xs) (hne : b ≠ g) (u : Value) : Blk (W.setCell ⟨g, i, none⟩ u) b xs := by
  obtain ⟨t, h⟩ := h
  exact ⟨t, (Below.heap_setCell _ _ _ _ hne).trans h⟩
theorem row_fr {w : World} {base g n cap size : Nat} {e : TypeId} {xs : List Value} (h : w.ownsRow base e size (.slice (some ⟨g, 0, none⟩) n cap) n xs) (j : Nat) : w.frozen? ⟨g, j, none⟩ = false := by
  rcases h.2 with ⟨h2, _⟩ | ⟨g', cap', cur, hv, hg, hh, _⟩
  · simp at h2
  · simp at hv
    obtain ⟨rfl, rfl⟩ := hv
    simp [World.frozen?, hh]
theorem set_step (l : List CarV) (i : Nat) (c c' : CarV) (j : Nat) (u : Value) (hi : i < l.length) (hj : j < 9) (h : c'.cells = c.cells.set j u) : carCells (l.set i c') = (carCells (l.set i c)).set (i * 9 + j) u := by
  have := carCells_set (l.set i c) i j c c' u hj (by simp [hi]) h
  rwa [List.set_set] at this
set_option maxHeartbeats 4000000 in
theorem b15_any (n t : Nat) (w : World) (hn : n < 256) (ht : t < 256) :
    Calls Try.prog 23 #[.int .u8 n, .int .u8 t] w fun e w' => ∃ g cap, e = .returned (.agg (bldP (2 + (n : Int) % 5) (1 + (t : Int) % 7) (.slice (some ⟨g, 0, none⟩) (1 + n / 5 % 3) cap)).toArray) ∧ w'.ownsRow (w.heap.size + 1 + 2) 40 9 (.slice (some ⟨g, 0, none⟩) (1 + n / 5 % 3) cap) (1 + n / 5 % 3) (carCells ((List.range (1 + n / 5 % 3)).map (c15 t (2 + (n : Int) % 5)))) ∧ Below w.heap.size w w' := by
  obtain ⟨k, hkk⟩ : ∃ k : Nat, 1 + n / 5 % 3 = k := ⟨_, rfl⟩
  obtain ⟨fl, hfl⟩ : ∃ fl : Int, 2 + (n : Int) % 5 = fl := ⟨_, rfl⟩
  rw [hkk, hfl]
  have hk : 1 + (n : Int) / 5 % 3 = k := by omega
  have hk1 : 1 ≤ k := by omega
  have hk3 : k ≤ 3 := by omega
  have hf2 : 2 ≤ fl := by omega
  have hf6 : fl ≤ 6 := by omega
  clear hkk
  have R0 := Blk.new w [.int .i64 0, .int .i64 0, .int .i64 0, .int .i64 0, .float .f64 0, .float .f64 0, .float .f64 0, .slice none 0 0] 29
  have hb0 := below1' w (.cells #[.int .i64 0, .int .i64 0, .int .i64 0, .int .i64 0, .float .f64 0, .float .f64 0, .float .f64 0, .slice none 0 0] 29)
  change Blk (w.alloc (.cells #[.int .i64 0, .int .i64 0, .int .i64 0, .int .i64 0, .float .f64 0, .float .f64 0, .float .f64 0, .slice none 0 0] 29)) _ _ at R0
  have hz : (w.alloc (.cells #[.int .i64 0, .int .i64 0, .int .i64 0, .int .i64 0, .float .f64 0, .float .f64 0, .float .f64 0, .slice none 0 0] 29)).heap.size = w.heap.size + 1 := by simp
  have HK := Lib.hid hk; have HF := Lib.hid hfl; have HR := Lib.hid R0; have HW := Lib.hid hb0; have HZ := Lib.hid hz
  clear hk hfl R0 hb0 hz
  go_enter Try.func23, Try.ntmps23
  go_wp2_with fail
  rw [HK.out, HF.out]
  refine (sample_any fl k _ (by omega) (by omega) (by omega)).mono ?_
  rintro e w2 ⟨v, rfl, hown, hb1⟩
  obtain ⟨g, cap, rfl⟩ : ∃ g cap, v = .slice (some ⟨g, 0, none⟩) k cap := by
    rcases hown.2 with ⟨hv, h⟩ | ⟨g', cap', cur, hv, _⟩
    · omega
    · exact ⟨g', cap', hv⟩
  rw [HZ.out] at hown
  have R2 := HR.out.next hb1
  have hb2 := HW.out.trans (hb1.mono (by have := HZ.out; omega))
  have hs2 := hb1.size
  rw [HZ.out] at hs2
  clear HR HW HZ hb1
  generalize w.alloc (.cells #[.int .i64 0, .int .i64 0, .int .i64 0, .int .i64 0, .float .f64 0, .float .f64 0, .float .f64 0, .slice none 0 0] 29) = w1 at *
  have B3 := Blk.new w2 (bldC fl (.slice (some ⟨g, 0, none⟩) k cap)) 29
  have hb3 := below1' w2 (.cells (bldC fl (.slice (some ⟨g, 0, none⟩) k cap)).toArray 29)
  change Blk (w2.alloc (.cells #[.int .i64 fl, .int .i64 1, .int .i64 4000, .int .i64 30, .float .f64 4591870180066957722, .float .f64 4605380978949069210, .float .f64 4607632778762754458, .slice (some ⟨g, 0, none⟩) k cap] 29)) _ _ at B3
  change Below _ _ (w2.alloc (.cells #[.int .i64 fl, .int .i64 1, .int .i64 4000, .int .i64 30, .float .f64 4591870180066957722, .float .f64 4605380978949069210, .float .f64 4607632778762754458, .slice (some ⟨g, 0, none⟩) k cap] 29)) at hb3
  have R3 := R2.next hb3
  have hown3 := rowLater hown hb3
  have hb4 := hb2.trans (hb3.mono hb2.size)
  have hz3 : (w2.alloc (.cells #[.int .i64 fl, .int .i64 1, .int .i64 4000, .int .i64 30, .float .f64 4591870180066957722, .float .f64 4605380978949069210, .float .f64 4607632778762754458, .slice (some ⟨g, 0, none⟩) k cap] 29)).heap.size = w2.heap.size + 1 := by simp
  have k7 := B3.cell 7 _ rfl
  have HB := Lib.hid B3; have HR := Lib.hid R3; have HO := Lib.hid hown3; have HW := Lib.hid hb4; have HZ := Lib.hid hz3
  have hg := row_ge hown (Nat.le_refl _) (k := g) rfl
  have hgl : g < w2.heap.size := by
    rcases hown.2 with ⟨hv, _⟩ | ⟨g', cap', cur, hv, _, hh, _⟩
    · simp at hv
    · simp at hv; rw [hv.1]; exact (Array.getElem?_eq_some_iff.1 hh).1
  clear B3 R3 hown3 hb4 hz3 R2 hown hb2 hb3
  go_wp2_with fail
  clear k7
  generalize w2.alloc (.cells #[.int .i64 fl, .int .i64 1, .int .i64 4000, .int .i64 30, .float .f64 4591870180066957722, .float .f64 4605380978949069210, .float .f64 4607632778762754458, .slice (some ⟨g, 0, none⟩) k cap] 29) = w3 at *
  generalize w2.heap.size = s5 at *
  go_loopw [6] (fun v wr => ∃ i : Nat, i ≤ k ∧ v = .int .i64 i ∧ Blk wr s5 (bldC fl (.slice (some ⟨g, 0, none⟩) k cap)) ∧ Blk wr w.heap.size [.int .i64 0, .int .i64 0, .int .i64 0, .int .i64 0, .float .f64 0, .float .f64 0, .float .f64 0, .slice none 0 0] ∧ wr.ownsRow (w.heap.size + 1 + 2) 40 9 (.slice (some ⟨g, 0, none⟩) k cap) k (carCells (part15 t fl k i)) ∧ Below w.heap.size w wr) (fun v _ => k - (intOf v).toNat)
  case atStart => exact ⟨0, by omega, rfl, HB.out, HR.out, by have := HO.out; simpa [part15, carsS] using this, HW.out⟩
  case round =>
    obtain ⟨i, hi, rfl, B, R, hown, hb⟩ := hrel
    have j7 := B.cell 7 _ rfl
    by_cases hlt : i < k
    · have hd : decide ((i : Int) < (k : Int)) = true := by simp; omega
      have k4 : wr.cell? ⟨g, i * 9 + 4, none⟩ = some (.int .i64 (carS i fl).st) := by rw [hown.cellAt _ (by omega)]; exact carCells_at _ i _ (part15_at t fl k i hlt) 4 _ rfl
      have f4 := row_fr hown (i * 9 + 4)
      have k5 : wr.cell? ⟨g, i * 9 + 5, none⟩ = some (.int .i64 (carS i fl).tr) := by rw [hown.cellAt _ (by omega)]; exact carCells_at _ i _ (part15_at t fl k i hlt) 5 _ rfl
      have f5 := row_fr hown (i * 9 + 5)
      have k6 : wr.cell? ⟨g, i * 9 + 6, none⟩ = some (.int .i64 (carS i fl).dw) := by rw [hown.cellAt _ (by omega)]; exact carCells_at _ i _ (part15_at t fl k i hlt) 6 _ rfl
      have f6 := row_fr hown (i * 9 + 6)
      have k7 : wr.cell? ⟨g, i * 9 + 7, none⟩ = some (.int .i64 (carS i fl).ho) := by rw [hown.cellAt _ (by omega)]; exact carCells_at _ i _ (part15_at t fl k i hlt) 7 _ rfl
      have f7 := row_fr hown (i * 9 + 7)
      have k8 : wr.cell? ⟨g, i * 9 + 8, none⟩ = some (.int .i64 (carS i fl).hm) := by rw [hown.cellAt _ (by omega)]; exact carCells_at _ i _ (part15_at t fl k i hlt) 8 _ rfl
      have f8 := row_fr hown (i * 9 + 8)
      have j0 := B.cell 0 _ rfl
      have hfl0 : ¬ fl = 0 := by omega
      have H1 := Lib.hid B; have H2 := Lib.hid R; have H3 := Lib.hid hown; have H4 := Lib.hid hb
      clear B R hown hb
      go_wp2_with fail
      have s0 := set_step (part15 t fl k i) i ⟨100, 2, 6, 5, 4, 2, 3, 10, (i : Int) % fl⟩ ⟨100, 2, 6, 5, 1 + (t : Int) % 3, 2, 3, 10, (i : Int) % fl⟩ 4 (.int .i64 (1 + (t : Int) % 3)) (by simp [part15]; omega) (by omega) rfl
      have s1 := set_step (part15 t fl k i) i ⟨100, 2, 6, 5, 1 + (t : Int) % 3, 2, 3, 10, (i : Int) % fl⟩ ⟨100, 2, 6, 5, 1 + (t : Int) % 3, 1 + (t : Int) / 3 % 3, 3, 10, (i : Int) % fl⟩ 5 (.int .i64 (1 + (t : Int) / 3 % 3)) (by simp [part15]; omega) (by omega) rfl
      have s2 := set_step (part15 t fl k i) i ⟨100, 2, 6, 5, 1 + (t : Int) % 3, 1 + (t : Int) / 3 % 3, 3, 10, (i : Int) % fl⟩ ⟨100, 2, 6, 5, 1 + (t : Int) % 3, 1 + (t : Int) / 3 % 3, 1 + (t : Int) / 9 % 3, 10, (i : Int) % fl⟩ 6 (.int .i64 (1 + (t : Int) / 9 % 3)) (by simp [part15]; omega) (by omega) rfl
      have s3 := set_step (part15 t fl k i) i ⟨100, 2, 6, 5, 1 + (t : Int) % 3, 1 + (t : Int) / 3 % 3, 1 + (t : Int) / 9 % 3, 10, (i : Int) % fl⟩ ⟨100, 2, 6, 5, 1 + (t : Int) % 3, 1 + (t : Int) / 3 % 3, 1 + (t : Int) / 9 % 3, 1 + (t : Int) / 9 % 3 + (t : Int) / 27 % 5, (i : Int) % fl⟩ 7 (.int .i64 (1 + (t : Int) / 9 % 3 + (t : Int) / 27 % 5)) (by simp [part15]; omega) (by omega) rfl
      have s4 := set_step (part15 t fl k i) i ⟨100, 2, 6, 5, 1 + (t : Int) % 3, 1 + (t : Int) / 3 % 3, 1 + (t : Int) / 9 % 3, 1 + (t : Int) / 9 % 3 + (t : Int) / 27 % 5, (i : Int) % fl⟩ ⟨100, 2, 6, 5, 1 + (t : Int) % 3, 1 + (t : Int) / 3 % 3, 1 + (t : Int) / 9 % 3, 1 + (t : Int) / 9 % 3 + (t : Int) / 27 % 5, ((i : Int) + t) % fl⟩ 8 (.int .i64 (((i : Int) + t) % fl)) (by simp [part15]; omega) (by omega) rfl
      have sl : (part15 t fl k i).set i ⟨100, 2, 6, 5, 4, 2, 3, 10, (i : Int) % fl⟩ = part15 t fl k i := by
        apply List.ext_getElem?
        intro j
        by_cases e : i = j
        · subst e; rw [part15_at t fl k i hlt]; simp [part15, hlt, carS]
        · rw [List.getElem?_set_ne e]
      have sf : (part15 t fl k i).set i ⟨100, 2, 6, 5, 1 + (t : Int) % 3, 1 + (t : Int) / 3 % 3, 1 + (t : Int) / 9 % 3, 1 + (t : Int) / 9 % 3 + (t : Int) / 27 % 5, ((i : Int) + t) % fl⟩ = part15 t fl k (i + 1) := part15_set t fl k i
      have hl : carCells (part15 t fl k (i + 1)) = (((((carCells (part15 t fl k i)).set (i * 9 + 4) (.int .i64 (1 + (t : Int) % 3))).set (i * 9 + 5) (.int .i64 (1 + (t : Int) / 3 % 3))).set (i * 9 + 6) (.int .i64 (1 + (t : Int) / 9 % 3))).set (i * 9 + 7) (.int .i64 (1 + (t : Int) / 9 % 3 + (t : Int) / 27 % 5))).set (i * 9 + 8) (.int .i64 (((i : Int) + t) % fl)) := by
        rw [← sf, s4, s3, s2, s1, s0, sl]
      refine ⟨⟨i + 1, by omega, by go_num, (((((H1.out.other (by omega) _).other (by omega) _).other (by omega) _).other (by omega) _).other (by omega) _), (((((H2.out.other (by omega) _).other (by omega) _).other (by omega) _).other (by omega) _).other (by omega) _), ?_, (((((H4.out.setCell (p := ⟨g, i * 9 + 4, none⟩) (by simp; omega) _).setCell (p := ⟨g, i * 9 + 5, none⟩) (by simp; omega) _).setCell (p := ⟨g, i * 9 + 6, none⟩) (by simp; omega) _).setCell (p := ⟨g, i * 9 + 7, none⟩) (by simp; omega) _).setCell (p := ⟨g, i * 9 + 8, none⟩) (by simp; omega) _)⟩, by simp [intOf]; omega⟩
      rw [hl]
      exact (row_upd (row_upd (row_upd (row_upd (row_upd H3.out (i * 9 + 4) _) (i * 9 + 5) _) (i * 9 + 6) _) (i * 9 + 7) _) (i * 9 + 8) _)
    · have hd : decide ((i : Int) < (k : Int)) = false := by simp; omega
      obtain rfl : i = k := by omega
      have pall : part15 t fl i i = (List.range i).map (c15 t fl) := by
        apply List.map_congr_left
        intro j hj
        rw [if_pos (List.mem_range.1 hj)]
      rw [pall] at hown
      have p3 := B.fr 3
      have k0 := B.cell 0 _ rfl; have z0 := R.cell 0 _ rfl; have f0 := R.fr 0
      have k1 := B.cell 1 _ rfl; have z1 := R.cell 1 _ rfl; have f1 := R.fr 1
      have k2 := B.cell 2 _ rfl; have z2 := R.cell 2 _ rfl; have f2 := R.fr 2
      have k3 := B.cell 3 _ rfl; have z3 := R.cell 3 _ rfl; have f3 := R.fr 3
      have k4 := B.cell 4 _ rfl; have z4 := R.cell 4 _ rfl; have f4 := R.fr 4
      have k5 := B.cell 5 _ rfl; have z5 := R.cell 5 _ rfl; have f5 := R.fr 5
      have k6 := B.cell 6 _ rfl; have z6 := R.cell 6 _ rfl; have f6 := R.fr 6
      have k7 := B.cell 7 _ rfl; have z7 := R.cell 7 _ rfl; have f7 := R.fr 7
      have H1 := Lib.hid R; have H2 := Lib.hid hown; have H3 := Lib.hid hb
      have hne := row_ne hown (b := w.heap.size) (by omega)
      have hne5 : some s5 ≠ (Value.slice (some ⟨g, 0, none⟩) i cap).ownBlock := by simp [Value.ownBlock]; omega
      have N1 := Lib.hid hne; have N2 := Lib.hid hne5
      have hs5 : w.heap.size ≠ s5 := by omega
      clear R B hown hb pall hne hne5
      go_wp2_with fail
      have hne := N1.out; have hne5 := N2.out
      have R8 := (((((((((Blk.other (i := 3) H1.out hs5 (.int .i64 (1 + (t : Int) % 7))).set 0 (.int .i64 fl)).set 1 (.int .i64 1)).set 2 (.int .i64 4000)).set 3 (.int .i64 (1 + (t : Int) % 7))).set 4 (.float .f64 4591870180066957722)).set 5 (.float .f64 4605380978949069210)).set 6 (.float .f64 4607632778762754458)).set 7 (.slice (some ⟨g, 0, none⟩) i cap))
      have r0 := R8.cell 0 _ rfl
      have r1 := R8.cell 1 _ rfl
      have r2 := R8.cell 2 _ rfl
      have r3 := R8.cell 3 _ rfl
      have r4 := R8.cell 4 _ rfl
      have r5 := R8.cell 5 _ rfl
      have r6 := R8.cell 6 _ rfl
      have r7 := R8.cell 7 _ rfl
      exact bodyPost_ret (v := .agg (bldP fl (1 + (t : Int) % 7) (.slice (some ⟨g, 0, none⟩) i cap)).toArray) (by simp [results, Try.results23, go_sem, r0, r1, r2, r3, r4, r5, r6, r7]) rfl ⟨g, cap, rfl, (row_set (row_set (row_set (row_set (row_set (row_set (row_set (row_set (row_set (i := 3) (u := .int .i64 (1 + (t : Int) % 7)) H2.out hne5) hne) hne) hne) hne) hne) hne) hne) hne), (((((((((H3.out.setCell (p := ⟨s5, 3, none⟩) (by simp; omega) (.int .i64 (1 + (t : Int) % 7))).setCell (p := ⟨w.heap.size, 0, none⟩) (Nat.le_refl _) (.int .i64 fl)).setCell (p := ⟨w.heap.size, 1, none⟩) (Nat.le_refl _) (.int .i64 1)).setCell (p := ⟨w.heap.size, 2, none⟩) (Nat.le_refl _) (.int .i64 4000)).setCell (p := ⟨w.heap.size, 3, none⟩) (Nat.le_refl _) (.int .i64 (1 + (t : Int) % 7))).setCell (p := ⟨w.heap.size, 4, none⟩) (Nat.le_refl _) (.float .f64 4591870180066957722)).setCell (p := ⟨w.heap.size, 5, none⟩) (Nat.le_refl _) (.float .f64 4605380978949069210)).setCell (p := ⟨w.heap.size, 6, none⟩) (Nat.le_refl _) (.float .f64 4607632778762754458)).setCell (p := ⟨w.heap.size, 7, none⟩) (Nat.le_refl _) (.slice (some ⟨g, 0, none⟩) i cap))⟩
end Go.Proofs.Ytfmmiafdlfdfoaa
