/- The walks over the made buildings of chapters 15 and 18. Conditions: two bytes. · The walk over the made building of chapter 18. Conditions: two bytes. · The made building of chapter 18 is valid; its cars can be read. Conditions: none. -/
import Derived.Test.YtpgcpalemnnbaaaZSample
namespace Go.Proofs.Ytpgcpalemnnbaaa
open Go.RowKit
attribute [local go_sem] run_store_float

theorem row_upd {w : World} {base g n cap size : Nat} {e : TypeId} {xs : List Value} (h : w.ownsRow base e size (.slice (some ⟨g, 0, none⟩) n cap) n xs) (k : Nat) (u : Value) :
    (w.setCell ⟨g, k, none⟩ u).ownsRow base e size (.slice (some ⟨g, 0, none⟩) n cap) n (xs.set k u) := by
  obtain ⟨h1, h2⟩ := h
  refine ⟨by simpa using h1, ?_⟩
  rcases h2 with ⟨h2, _⟩ | ⟨g', cap', cur, hv, hg, hh, hn, hm, hs, ht⟩
  · simp at h2
  · simp at hv
    obtain ⟨rfl, rfl⟩ := hv
    obtain ⟨hlt, hkk⟩ := Array.getElem?_eq_some_iff.1 hh
    refine .inr ⟨g, cap, cur.setIfInBounds k u, rfl, hg, ?_, hn, hm, by simpa using hs, ?_⟩
    · show (w.heap.modify g _)[g]? = _
      rw [Array.getElem?_eq_getElem (by rw [Array.size_modify]; exact hlt), Array.getElem_modify_self, hkk]
      simp
    · rw [Array.toList_setIfInBounds, ← ht, List.take_set]
theorem carCells_len (l : List CarV) : (carCells l).length = l.length * 9 := by
  induction l with
  | nil => rfl
  | cons c l ih => simp only [carCells, List.flatMap_cons, List.length_append] at *; rw [ih]; simp [CarV.cells]; omega
theorem carCells_at (l : List CarV) (i : Nat) (c : CarV) (h : l[i]? = some c) (j : Nat) (u : Value) (hu : c.cells[j]? = some u) : (carCells l)[i * 9 + j]? = some u := by
  induction l generalizing i with
  | nil => simp at h
  | cons q l ih =>
    have hj : j < 9 := (List.getElem?_eq_some_iff.1 hu).1
    show (q.cells ++ carCells l)[i * 9 + j]? = some u
    cases i with
    | zero =>
      simp at h; subst h
      rw [List.getElem?_append_left (by simp [CarV.cells]; omega)]
      simpa using hu
    | succ i =>
      rw [List.getElem?_append_right (by simp [CarV.cells]; omega)]
      have : (i + 1) * 9 + j - q.cells.length = i * 9 + j := by simp [CarV.cells]; omega
      rw [this]
      exact ih i (by simpa using h)
theorem carCells_set (l : List CarV) (i j : Nat) (c c' : CarV) (u : Value) (hj : j < 9) (hi : l[i]? = some c) (h : c'.cells = c.cells.set j u) : carCells (l.set i c') = (carCells l).set (i * 9 + j) u := by
  induction l generalizing i with
  | nil => simp at hi
  | cons q l ih =>
    cases i with
    | zero =>
      simp at hi; subst hi
      show c'.cells ++ carCells l = (q.cells ++ carCells l).set (0 * 9 + j) u
      rw [List.set_append_left _ _ (by simp [CarV.cells]; omega), h, Nat.zero_mul, Nat.zero_add]
    | succ i =>
      show q.cells ++ carCells (l.set i c') = (q.cells ++ carCells l).set ((i + 1) * 9 + j) u
      rw [List.set_append_right _ _ (by simp [CarV.cells]; omega), ih i (by simpa using hi)]
      congr 2
      simp [CarV.cells]; omega
def c15 (t : Nat) (fl : Int) (i : Nat) : CarV := ⟨100, 2, 6, 5, 1 + (t : Int) % 3, 1 + (t : Int) / 3 % 3, 1 + (t : Int) / 9 % 3, 1 + (t : Int) / 9 % 3 + (t : Int) / 27 % 5, ((i : Int) + t) % fl⟩
def part15 (t : Nat) (fl : Int) (k i : Nat) : List CarV := (List.range k).map fun j => if j < i then c15 t fl j else carS j fl
theorem part15_at (t : Nat) (fl : Int) (k i : Nat) (h : i < k) : (part15 t fl k i)[i]? = some (carS i fl) := by simp [part15, h]
theorem part15_set (t : Nat) (fl : Int) (k i : Nat) : (part15 t fl k i).set i (c15 t fl i) = part15 t fl k (i + 1) := by
  apply List.ext_getElem?
  intro j
  by_cases hj : j < k
  · by_cases e : i = j
    · subst e; simp [part15, hj]
    · have : (j < i + 1) = (j < i) := propext ⟨fun h => by omega, fun h => by omega⟩
      rw [List.getElem?_set_ne e]
      simp [part15, hj, this]
  · rw [List.getElem?_eq_none (by simp [part15]; omega), List.getElem?_eq_none (by simp [part15]; omega)]
abbrev bldP (fl pk : Int) (v : Value) : List Value := [.int .i64 fl, .int .i64 1, .int .i64 4000, .int .i64 pk, .float .f64 4591870180066957722, .float .f64 4605380978949069210, .float .f64 4607632778762754458, v]
theorem Blk.other {W : World} {b g i : Nat} {xs : List Value} (h : Blk W b xs) (hne : b ≠ g) (u : Value) : Blk (W.setCell ⟨g, i, none⟩ u) b xs := by
  obtain ⟨t, h⟩ := h
  exact ⟨t, (Below.heap_setCell _ _ _ _ hne).trans h⟩
theorem row_fr {w : World} {base g n cap size : Nat} {e : TypeId} {xs : List Value} (h : w.ownsRow base e size (.slice (some ⟨g, 0, none⟩) n cap) n xs) (j : Nat) : w.frozen? ⟨g, j, none⟩ = false := by
  rcases h.2 with ⟨h2, _⟩ | ⟨g', cap', cur, hv, hg, hh, _⟩
  · simp at h2
  · simp at hv
    obtain ⟨rfl, rfl⟩ := hv
    simp [World.frozen?, hh]
theorem set_step (l : List CarV) (i : Nat) (c c' : CarV) (j : Nat) (u : Value) (hi : i < l.length) (hj : j < 9) (h : c'.cells = c.cells.set j u) : carCells (l.set i c') = (carCells (l.set i c)).set (i * 9 + j) u := by
  have := carCells_set (l.set i c) i j c c' u hj (by simp [hi]) h
  rwa [List.set_set] at this
end Go.Proofs.Ytpgcpalemnnbaaa
namespace Go.Proofs.Ytpgcpalemnnbaaa
open Go.RowKit
attribute [local go_sem] run_store_float
theorem row_base {w : World} {base B : Nat} {e : TypeId} {size : Nat} {v : Value} {n : Nat} {xs : List Value} (h : w.ownsRow base e size v n xs) (hB : B ≤ base) : w.ownsRow B e size v n xs := by
  obtain ⟨h1, h2⟩ := h
  refine ⟨h1, ?_⟩
  rcases h2 with h2 | ⟨g, cap, cur, hv, hg, r⟩
  · exact .inl h2
  · exact .inr ⟨g, cap, cur, hv, Nat.le_trans hB hg, r⟩
def c18 (t : Nat) (fl : Int) (i : Nat) : CarV := ⟨1 + (t : Int) % 16, 2, 6, 5, 1 + (t : Int) % 3, 1 + (t : Int) / 3 % 3, 1 + (t : Int) / 9 % 3, 1 + (t : Int) / 9 % 3 + (t : Int) / 27 % 5, ((i : Int) + t) % fl⟩
def part18 (t : Nat) (fl : Int) (k i : Nat) : List CarV := (List.range k).map fun j => if j < i then c18 t fl j else c15 t fl j
theorem part18_at (t : Nat) (fl : Int) (k i : Nat) (h : i < k) : (part18 t fl k i)[i]? = some (c15 t fl i) := by simp [part18, h]
theorem part18_set (t : Nat) (fl : Int) (k i : Nat) : (part18 t fl k i).set i (c18 t fl i) = part18 t fl k (i + 1) := by
  apply List.ext_getElem?
  intro j
  by_cases hj : j < k
  · by_cases e : i = j
    · subst e; simp [part18, hj]
    · have : (j < i + 1) = (j < i) := propext ⟨fun h => by omega, fun h => by omega⟩
      rw [List.getElem?_set_ne e]
      simp [part18, hj, this]
  · rw [List.getElem?_eq_none (by simp [part18]; omega), List.getElem?_eq_none (by simp [part18]; omega)]
/-- The made building: floors, cars. -/
def fl18 (n : Nat) : Int := 2 + (n : Int) % 5
def k18 (n : Nat) : Nat := 1 + n / 5 % 3
def cars18 (n t : Nat) : List CarV := (List.range (k18 n)).map (c18 t (fl18 n))
def b18 (n t : Nat) : BldV := ⟨fl18 n, 1, 4000, 1 + (t : Int) % 7, 4591870180066957722, 4605380978949069210, 4607632778762754458, cars18 n t⟩
end Go.Proofs.Ytpgcpalemnnbaaa
namespace Go.Proofs.Ytpgcpalemnnbaaa
open Go.RowKit
theorem rdC_of_owns {w : World} {base g n cap : Nat} {l : List CarV} (h : w.ownsRow base 84 9 (.slice (some ⟨g, 0, none⟩) n cap) n (carCells l)) (hn : l.length = n) : RdC w (some ⟨g, 0, none⟩) l := by
  intro i c hc
  have hi := (List.getElem?_eq_some_iff.1 hc).1
  refine ⟨⟨g, 0, none⟩, rfl, ?_, fun j u hu => ?_⟩
  · rcases h.2 with ⟨hv, _⟩ | ⟨g', cap', cur, hv, _, hh, _⟩
    · simp at hv
    · simp at hv; rw [hv.1]; exact (Array.getElem?_eq_some_iff.1 hh).1
  · have hj : j < 9 := (List.getElem?_eq_some_iff.1 hu).1
    rw [Addr.add_lit, Nat.zero_add, h.cellAt _ (by omega)]
    exact carCells_at l i c hc j u hu
theorem cars18_len (n t : Nat) : (cars18 n t).length = k18 n := by simp [cars18]
theorem fl18_range (n : Nat) : 2 ≤ fl18 n ∧ fl18 n ≤ 6 := by unfold fl18; omega
theorem k18_range (n : Nat) : 1 ≤ k18 n ∧ k18 n ≤ 3 := by unfold k18; omega
theorem inR_true {lo hi x : Int} (h1 : lo ≤ x) (h2 : x ≤ hi) : inR lo hi x = true := by simp [inR, h1, h2]
theorem times18 (t : Nat) (fl : Int) (i : Nat) (h2 : 2 ≤ fl) : timesB (c18 t fl i) fl = true := by
  have h0 := Int.emod_nonneg ((i : Int) + t) (show fl ≠ 0 by omega)
  have h1 := Int.emod_lt_of_pos ((i : Int) + t) (show 0 < fl by omega)
  unfold timesB
  have e1 : inAll 1 10000 [(c18 t fl i).dl, (c18 t fl i).pu, (c18 t fl i).qu, (c18 t fl i).st, (c18 t fl i).tr, (c18 t fl i).dw, (c18 t fl i).ho] = true := by
    have a0 : inR 1 10000 (c18 t fl i).dl = true := inR_true (by show 1 ≤ 1 + (t : Int) % 16; omega) (by show 1 + (t : Int) % 16 ≤ 10000; omega)
    have a3 : inR 1 10000 (c18 t fl i).st = true := inR_true (by show 1 ≤ 1 + (t : Int) % 3; omega) (by show 1 + (t : Int) % 3 ≤ 10000; omega)
    have a4 : inR 1 10000 (c18 t fl i).tr = true := inR_true (by show 1 ≤ 1 + (t : Int) / 3 % 3; omega) (by show 1 + (t : Int) / 3 % 3 ≤ 10000; omega)
    have a5 : inR 1 10000 (c18 t fl i).dw = true := inR_true (by show 1 ≤ 1 + (t : Int) / 9 % 3; omega) (by show 1 + (t : Int) / 9 % 3 ≤ 10000; omega)
    have a6 : inR 1 10000 (c18 t fl i).ho = true := inR_true (by show 1 ≤ 1 + (t : Int) / 9 % 3 + (t : Int) / 27 % 5; omega) (by show 1 + (t : Int) / 9 % 3 + (t : Int) / 27 % 5 ≤ 10000; omega)
    simp only [inAll, List.all_cons, List.all_nil, a0, a3, a4, a5, a6]
    rfl
  have e2 : inAll 0 10000 [(c18 t fl i).sl] = true := by rfl
  have e3 : decide ((c18 t fl i).dw ≤ (c18 t fl i).ho) = true := decide_eq_true (by show 1 + (t : Int) / 9 % 3 ≤ 1 + (t : Int) / 9 % 3 + (t : Int) / 27 % 5; omega)
  have e4 : inAll 0 (fl - 1) [(c18 t fl i).hm] = true := by rw [inAll_one]; show 0 ≤ ((i : Int) + t) % fl ∧ ((i : Int) + t) % fl ≤ fl - 1; omega
  rw [e1, e2, e3, e4]
  rfl
theorem loads18 : flt 0 4591870180066957722 = true ∧ flt 4591870180066957722 4605380978949069210 = true ∧ flt 4605380978949069210 4607632778762754458 = true ∧ fle 4607632778762754458 9218868437227405311 = true := by
  refine ⟨?_, ?_, ?_, ?_⟩ <;> decide +kernel
theorem valid18 (n t : Nat) : validN (b18 n t) = 0 := by
  obtain ⟨f2, f6⟩ := fl18_range n
  obtain ⟨k1, k3⟩ := k18_range n
  have e1 : inAll 2 32 [(b18 n t).fl] = true := by rw [inAll_one]; show 2 ≤ fl18 n ∧ fl18 n ≤ 32; omega
  have el : ((b18 n t).cars.length : Int) = k18 n := by show ((cars18 n t).length : Int) = _; rw [cars18_len]
  have e2 : inAll 1 8 [((b18 n t).cars.length : Int)] = true := by rw [inAll_one, el]; omega
  have e3 : goodB (b18 n t) (b18 n t).cars.length = true := by
    unfold goodB
    rw [List.take_length]
    have a1 : inAll 1 16 [(b18 n t).deb] = true := by rw [inAll_one]; show (1 : Int) ≤ 1 ∧ (1 : Int) ≤ 16; omega
    have a2 : inAll 1 10000 [(b18 n t).park] = true := by rw [inAll_one]; show 1 ≤ 1 + (t : Int) % 7 ∧ 1 + (t : Int) % 7 ≤ 10000; omega
    rw [a1, a2]
    show (true && true && (cars18 n t).all (timesB · (fl18 n))) = true
    rw [Bool.true_and, Bool.true_and, List.all_eq_true]
    intro c hc
    obtain ⟨i, _, rfl⟩ := List.mem_map.1 hc
    exact times18 t _ i f2
  have e4 : loadsB (b18 n t) = true := by
    obtain ⟨l1, l2, l3, l4⟩ := loads18
    show (flt 0 4591870180066957722 && flt 4591870180066957722 4605380978949069210 && flt 4605380978949069210 4607632778762754458 && fle 4607632778762754458 9218868437227405311) = true
    rw [l1, l2, l3, l4]; rfl
  have e5 : inAll (18 * ((b18 n t).cars.length : Int) + 24) 65536 [(b18 n t).room] = true := by
    rw [inAll_one, el]; show 18 * (k18 n : Int) + 24 ≤ 4000 ∧ (4000 : Int) ≤ 65536; omega
  unfold validN
  rw [e1, e2, e3, e4, e5]
  rfl
theorem slack18 (n t : Nat) : ∀ c ∈ (b18 n t).cars, -9223372036854775808 ≤ c.sl ∧ c.sl < 9223372036854775807 := by
  intro c hc
  obtain ⟨i, _, rfl⟩ := List.mem_map.1 hc
  show (-9223372036854775808 : Int) ≤ 5 ∧ (5 : Int) < 9223372036854775807
  omega
end Go.Proofs.Ytpgcpalemnnbaaa
