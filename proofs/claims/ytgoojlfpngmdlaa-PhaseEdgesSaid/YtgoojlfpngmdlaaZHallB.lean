/- The walk over overlayref01.Hall. Conditions: cars that can be read; slack times that are no more than the greatest number less one. · The walk over building.Hall. Conditions: cars that can be read. -/
import Derived.Test.YtgoojlfpngmdlaaZObs
import Derived.Test.YtgoojlfpngmdlaaZValid18
import Derived.IntWalk
namespace Go.Proofs.Ytgoojlfpngmdlaa
open Go.RowKit
theorem base_cellG {G : Nat} {W w1 : World} (hb : Below G W w1) : ∀ b o, b < G → w1.cell? ⟨b, o, none⟩ = W.cell? ⟨b, o, none⟩ := fun b o h => hb.cell (p := ⟨b, o, none⟩) h
/-- The calls of a direction below floor k, as bits. -/
def hUp (b : BldV) (d : Int) : Nat → BitVec 32
  | 0 => 0#32
  | k + 1 => if callB b k d then hUp b d k ||| bit k else hUp b d k
def hallC (b : BldV) : CS := (hUp b 1 32, hUp b 2 32)
theorem pow_nat (k : Nat) (h : k < 32) : (2 : Int) ^ k % 4294967296 = ((bit k).toNat : Int) := by
  have := pow_bit (k : Int) (by omega) (by omega)
  simpa using this
end Go.Proofs.Ytgoojlfpngmdlaa
namespace Go.Proofs.Ytgoojlfpngmdlaa
open Go.RowKit
def hPure (n : Nat) (d : Int) : Nat → BitVec 32
  | 0 => 0#32
  | k + 1 => if isCallB (n : Int) (k : Int) d then hPure n d k ||| bit k else hPure n d k
theorem hUp_bad (b : BldV) (d : Int) (h : validN b ≠ 0) : ∀ k, hUp b d k = 0#32
  | 0 => rfl
  | k + 1 => by
    have e : callB b k d = false := by unfold callB; simp [h]
    unfold hUp; rw [e, hUp_bad b d h k]; rfl
theorem hUp_pure (b : BldV) (d : Int) (n : Nat) (hn : (n : Int) = b.fl) (h : validN b = 0) : ∀ k, hUp b d k = hPure n d k
  | 0 => rfl
  | k + 1 => by
    have e : callB b k d = isCallB (n : Int) k d := by unfold callB; rw [h, hn]; simp
    unfold hUp hPure; rw [e, hUp_pure b d n hn h k]
theorem hPure_val : ∀ n : Nat, n < 33 → 2 ≤ n → ((2 : Int) ^ (n - 1) - 1) % 4294967296 = ((hPure n 1 32).toNat : Int) ∧ ((2 : Int) ^ (n - 1) - 1) % 4294967296 * 2 % 4294967296 = ((hPure n 2 32).toNat : Int) := by decide +kernel
theorem hall_val (b : BldV) (h : validN b = 0) (h2 : 2 ≤ b.fl) (h32 : b.fl ≤ 32) : ((2 : Int) ^ (b.fl.toNat - 1) - 1) % 4294967296 = ((hallC b).1.toNat : Int) ∧ ((2 : Int) ^ (b.fl.toNat - 1) - 1) % 4294967296 * 2 % 4294967296 = ((hallC b).2.toNat : Int) := by
  have := hPure_val b.fl.toNat (by omega) (by omega)
  show _ = ((hUp b 1 32).toNat : Int) ∧ _ = ((hUp b 2 32).toNat : Int)
  rw [hUp_pure b 1 b.fl.toNat (by omega) h, hUp_pure b 2 b.fl.toNat (by omega) h]
  exact this
end Go.Proofs.Ytgoojlfpngmdlaa
