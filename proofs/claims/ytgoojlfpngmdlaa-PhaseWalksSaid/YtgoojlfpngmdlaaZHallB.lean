/- The made building of chapter 18 is valid; its cars can be read. Conditions: none. · The walk over overlayref01.Hall. Conditions: cars that can be read; slack times that are no more than the greatest number less one. · The walk over building.Hall. Conditions: cars that can be read. -/
import Derived.Test.YtgoojlfpngmdlaaZBld18
import Derived.Test.YtgoojlfpngmdlaaZObs
import Derived.IntWalk
namespace Go.Proofs.Ytgoojlfpngmdlaa
open Go.RowKit
theorem rdC_of_owns {w : World} {base g n cap : Nat} {l : List CarV} (h : w.ownsRow base 81 9 (.slice (some ⟨g, 0, none⟩) n cap) n (carCells l)) (hn : l.length = n) : RdC w (some ⟨g, 0, none⟩) l := by
  intro i c hc
  have hi := (List.getElem?_eq_some_iff.1 hc).1
  refine ⟨⟨g, 0, none⟩, rfl, ?_, fun j u hu => ?_⟩
  · rcases h.2 with ⟨hv, _⟩ | ⟨g', cap', cur, hv, _, hh, _⟩
    · simp at hv
    · simp at hv; rw [hv.1]; exact (Array.getElem?_eq_some_iff.1 hh).1
  · have hj : j < 9 := (List.getElem?_eq_some_iff.1 hu).1
    rw [Addr.add_lit, Nat.zero_add, h.cellAt _ (by omega)]
    exact carCells_at l i c hc j u hu
theorem cars18_len (n t : Nat) : (cars18 n t).length = k18 n := by simp [cars18]
theorem fl18_range (n : Nat) : 2 ≤ fl18 n ∧ fl18 n ≤ 6 := by unfold fl18; omega
theorem k18_range (n : Nat) : 1 ≤ k18 n ∧ k18 n ≤ 3 := by unfold k18; omega
theorem inR_true {lo hi x : Int} (h1 : lo ≤ x) (h2 : x ≤ hi) : inR lo hi x = true := by simp [inR, h1, h2]
theorem times18 (t : Nat) (fl : Int) (i : Nat) (h2 : 2 ≤ fl) : timesB (c18 t fl i) fl = true := by
  have h0 := Int.emod_nonneg ((i : Int) + t) (show fl ≠ 0 by omega)
  have h1 := Int.emod_lt_of_pos ((i : Int) + t) (show 0 < fl by omega)
  unfold timesB
  have e1 : inAll 1 10000 [(c18 t fl i).dl, (c18 t fl i).pu, (c18 t fl i).qu, (c18 t fl i).st, (c18 t fl i).tr, (c18 t fl i).dw, (c18 t fl i).ho] = true := by
    have a0 : inR 1 10000 (c18 t fl i).dl = true := inR_true (by show 1 ≤ 1 + (t : Int) % 16; omega) (by show 1 + (t : Int) % 16 ≤ 10000; omega)
    have a3 : inR 1 10000 (c18 t fl i).st = true := inR_true (by show 1 ≤ 1 + (t : Int) % 3; omega) (by show 1 + (t : Int) % 3 ≤ 10000; omega)
    have a4 : inR 1 10000 (c18 t fl i).tr = true := inR_true (by show 1 ≤ 1 + (t : Int) / 3 % 3; omega) (by show 1 + (t : Int) / 3 % 3 ≤ 10000; omega)
    have a5 : inR 1 10000 (c18 t fl i).dw = true := inR_true (by show 1 ≤ 1 + (t : Int) / 9 % 3; omega) (by show 1 + (t : Int) / 9 % 3 ≤ 10000; omega)
    have a6 : inR 1 10000 (c18 t fl i).ho = true := inR_true (by show 1 ≤ 1 + (t : Int) / 9 % 3 + (t : Int) / 27 % 5; omega) (by show 1 + (t : Int) / 9 % 3 + (t : Int) / 27 % 5 ≤ 10000; omega)
    simp only [inAll, List.all_cons, List.all_nil, a0, a3, a4, a5, a6]
    rfl
  have e2 : inAll 0 10000 [(c18 t fl i).sl] = true := by rfl
  have e3 : decide ((c18 t fl i).dw ≤ (c18 t fl i).ho) = true := decide_eq_true (by show 1 + (t : Int) / 9 % 3 ≤ 1 + (t : Int) / 9 % 3 + (t : Int) / 27 % 5; omega)
  have e4 : inAll 0 (fl - 1) [(c18 t fl i).hm] = true := by rw [inAll_one]; show 0 ≤ ((i : Int) + t) % fl ∧ ((i : Int) + t) % fl ≤ fl - 1; omega
  rw [e1, e2, e3, e4]
  rfl
theorem loads18 : flt 0 4591870180066957722 = true ∧ flt 4591870180066957722 4605380978949069210 = true ∧ flt 4605380978949069210 4607632778762754458 = true ∧ fle 4607632778762754458 9218868437227405311 = true := by
  refine ⟨?_, ?_, ?_, ?_⟩ <;> decide +kernel
theorem valid18 (n t : Nat) : validN (b18 n t) = 0 := by
  obtain ⟨f2, f6⟩ := fl18_range n
  obtain ⟨k1, k3⟩ := k18_range n
  have e1 : inAll 2 32 [(b18 n t).fl] = true := by rw [inAll_one]; show 2 ≤ fl18 n ∧ fl18 n ≤ 32; omega
  have el : ((b18 n t).cars.length : Int) = k18 n := by show ((cars18 n t).length : Int) = _; rw [cars18_len]
  have e2 : inAll 1 8 [((b18 n t).cars.length : Int)] = true := by rw [inAll_one, el]; omega
  have e3 : goodB (b18 n t) (b18 n t).cars.length = true := by
    unfold goodB
    rw [List.take_length]
    have a1 : inAll 1 16 [(b18 n t).deb] = true := by rw [inAll_one]; show (1 : Int) ≤ 1 ∧ (1 : Int) ≤ 16; omega
    have a2 : inAll 1 10000 [(b18 n t).park] = true := by rw [inAll_one]; show 1 ≤ 1 + (t : Int) % 7 ∧ 1 + (t : Int) % 7 ≤ 10000; omega
    rw [a1, a2]
    show (true && true && (cars18 n t).all (timesB · (fl18 n))) = true
    rw [Bool.true_and, Bool.true_and, List.all_eq_true]
    intro c hc
    obtain ⟨i, _, rfl⟩ := List.mem_map.1 hc
    exact times18 t _ i f2
  have e4 : loadsB (b18 n t) = true := by
    obtain ⟨l1, l2, l3, l4⟩ := loads18
    show (flt 0 4591870180066957722 && flt 4591870180066957722 4605380978949069210 && flt 4605380978949069210 4607632778762754458 && fle 4607632778762754458 9218868437227405311) = true
    rw [l1, l2, l3, l4]; rfl
  have e5 : inAll (18 * ((b18 n t).cars.length : Int) + 24) 65536 [(b18 n t).room] = true := by
    rw [inAll_one, el]; show 18 * (k18 n : Int) + 24 ≤ 4000 ∧ (4000 : Int) ≤ 65536; omega
  unfold validN
  rw [e1, e2, e3, e4, e5]
  rfl
theorem slack18 (n t : Nat) : ∀ c ∈ (b18 n t).cars, -9223372036854775808 ≤ c.sl ∧ c.sl < 9223372036854775807 := by
  intro c hc
  obtain ⟨i, _, rfl⟩ := List.mem_map.1 hc
  show (-9223372036854775808 : Int) ≤ 5 ∧ (5 : Int) < 9223372036854775807
  omega
end Go.Proofs.Ytgoojlfpngmdlaa
namespace Go.Proofs.Ytgoojlfpngmdlaa
open Go.RowKit
theorem base_cellG {G : Nat} {W w1 : World} (hb : Below G W w1) : ∀ b o, b < G → w1.cell? ⟨b, o, none⟩ = W.cell? ⟨b, o, none⟩ := fun b o h => hb.cell (p := ⟨b, o, none⟩) h
/-- The calls of a direction below floor k, as bits. -/
def hUp (b : BldV) (d : Int) : Nat → BitVec 32
  | 0 => 0#32
  | k + 1 => if callB b k d then hUp b d k ||| bit k else hUp b d k
def hallC (b : BldV) : CS := (hUp b 1 32, hUp b 2 32)
theorem pow_nat (k : Nat) (h : k < 32) : (2 : Int) ^ k % 4294967296 = ((bit k).toNat : Int) := by
  have := pow_bit (k : Int) (by omega) (by omega)
  simpa using this
end Go.Proofs.Ytgoojlfpngmdlaa
namespace Go.Proofs.Ytgoojlfpngmdlaa
open Go.RowKit
def hPure (n : Nat) (d : Int) : Nat → BitVec 32
  | 0 => 0#32
  | k + 1 => if isCallB (n : Int) (k : Int) d then hPure n d k ||| bit k else hPure n d k
theorem hUp_bad (b : BldV) (d : Int) (h : validN b ≠ 0) : ∀ k, hUp b d k = 0#32
  | 0 => rfl
  | k + 1 => by
    have e : callB b k d = false := by unfold callB; simp [h]
    unfold hUp; rw [e, hUp_bad b d h k]; rfl
theorem hUp_pure (b : BldV) (d : Int) (n : Nat) (hn : (n : Int) = b.fl) (h : validN b = 0) : ∀ k, hUp b d k = hPure n d k
  | 0 => rfl
  | k + 1 => by
    have e : callB b k d = isCallB (n : Int) k d := by unfold callB; rw [h, hn]; simp
    unfold hUp hPure; rw [e, hUp_pure b d n hn h k]
theorem hPure_val : ∀ n : Nat, n < 33 → 2 ≤ n → ((2 : Int) ^ (n - 1) - 1) % 4294967296 = ((hPure n 1 32).toNat : Int) ∧ ((2 : Int) ^ (n - 1) - 1) % 4294967296 * 2 % 4294967296 = ((hPure n 2 32).toNat : Int) := by decide +kernel
theorem hall_val (b : BldV) (h : validN b = 0) (h2 : 2 ≤ b.fl) (h32 : b.fl ≤ 32) : ((2 : Int) ^ (b.fl.toNat - 1) - 1) % 4294967296 = ((hallC b).1.toNat : Int) ∧ ((2 : Int) ^ (b.fl.toNat - 1) - 1) % 4294967296 * 2 % 4294967296 = ((hallC b).2.toNat : Int) := by
  have := hPure_val b.fl.toNat (by omega) (by omega)
  show _ = ((hUp b 1 32).toNat : Int) ∧ _ = ((hUp b 2 32).toNat : Int)
  rw [hUp_pure b 1 b.fl.toNat (by omega) h, hUp_pure b 2 b.fl.toNat (by omega) h]
  exact this
end Go.Proofs.Ytgoojlfpngmdlaa
