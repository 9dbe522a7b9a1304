/- The law CrcLinear returns true for every pair of strings and leaves all memory that was there as it was. Conditions: none. -/
import Derived.Test.YtbmkjgfhdbajbaaCrcMore
import Derived.Test.YtbmkjgfhdbajbaaFrame
import Derived.Test.YtbmkjgfhdbajbaaGrow
import Derived.RegionTactic
import Derived.Deep.Cut
import Derived.Deep.CutRange
import Derived.Deep.LoopGhost
namespace Go.Proofs.Ytbmkjgfhdbajbaa
open Go.ChangeShapes Go.WideShapes Go.ChangeAt Go.RowKit
open Go.ChangeMaps (open_string shut_string)

def zeros (n : Nat) : Array Value := madeCells #[.int .u8 0] n
theorem run_mk (n : Nat) (hn : n ≤ 5000) (W : World) :
    (Instr.makeSlice 33 (.int .i64 (n : Int)) (.int .i64 (n : Int))).run Try.prog W = .ok (.slice (some ⟨W.heap.size, 0, none⟩) n n) (W.alloc (.cells (zeros n) 5)) := by
  obtain ⟨i, hi, hz0, hz1, hz2⟩ := info_parts (P := Try.prog) (e := 5) (z := .int .u8 0) (size := 1) (bytes := 1) (by kernel_rfl)
  have h := run_make (P := Try.prog) W 33 5 i (.int .u8 0) Try.underlying33 hi hz0 .i64 .i64 n n (by omega) (Int.le_refl _) (by rw [hz2]; omega) (by omega)
  rw [h]
  simp [zeros, hz1, Value.cells]
theorem row8_zeros (W : World) (n : Nat) : Row8 (W.alloc (.cells (zeros n) 5)) W.heap.size (List.replicate n 0) := by
  intro j hj
  have hj' : j < n := by simpa using hj
  refine ⟨?_, by simp⟩
  have hz : (zeros n)[j]? = some (.int .u8 0) := by
    have := congrArg (fun l : List Value => l[j]?) (toList_madeCells_one (.int .u8 0) n)
    simpa [zeros, hj'] using this
  simp [World.cell?, World.alloc, -World.alloc_eq, hz]
theorem row8_alloc {W : World} {B : Nat} {l : List UInt8} (h : Row8 W B l) (o : Obj) : Row8 (W.alloc o) B l := fun j hj => by
  obtain ⟨h1, h2⟩ := h j hj
  have hb := Below.alloc (Below.refl W.heap.size W) (Nat.le_refl _) o
  exact ⟨cell_later hb h1, by rw [hb.frozen (block_lt_of_cell h1)]; exact h2⟩
/-- The world with three new rows. -/
def three (n : Nat) (w : World) : World := (((w.alloc (.cells (zeros n) 5)).alloc (.cells (zeros n) 5)).alloc (.cells (zeros n) 5)).drew
theorem three_row0 (n : Nat) (w : World) : Row8 (three n w) w.heap.size (List.replicate n 0) := row8_alloc (row8_alloc (row8_zeros w n) _) _
theorem three_row1 (n : Nat) (w : World) : Row8 (three n w) (w.heap.size + 1) (List.replicate n 0) := by
  have := row8_alloc (row8_zeros (w.alloc (.cells (zeros n) 5)) n) (.cells (zeros n) 5)
  simp at this; exact this
theorem three_row2 (n : Nat) (w : World) : Row8 (three n w) (w.heap.size + 1 + 1) (List.replicate n 0) := by
  have := row8_zeros ((w.alloc (.cells (zeros n) 5)).alloc (.cells (zeros n) 5)) n
  simp at this; exact this
theorem three_below (n : Nat) (w : World) : Below w.heap.size w (three n w) :=
  ((((Below.refl _ w).alloc (Nat.le_refl _) _).alloc (by simp) _).alloc (by simp; omega) _).drew
/-- What the three makes leave, in whatever order. -/
def Made (n : Nat) (w : World) (x z u : Value) (wx : World) : Prop :=
  ∃ bx bz bu, x = .slice (some ⟨bx, 0, none⟩) n n ∧ z = .slice (some ⟨bz, 0, none⟩) n n ∧ u = .slice (some ⟨bu, 0, none⟩) n n ∧ bx ≠ bz ∧ bx ≠ bu ∧ bz ≠ bu ∧ w.heap.size ≤ bx ∧ w.heap.size ≤ bz ∧ w.heap.size ≤ bu ∧
    Row8 wx bx (List.replicate n 0) ∧ Row8 wx bz (List.replicate n 0) ∧ Row8 wx bu (List.replicate n 0) ∧ Below w.heap.size w wx
theorem made_any {n : Nat} {w : World} (bx bz bu : Nat) (h : bx ≠ bz ∧ bx ≠ bu ∧ bz ≠ bu) (hx : bx = w.heap.size ∨ bx = w.heap.size + 1 ∨ bx = w.heap.size + 1 + 1) (hz : bz = w.heap.size ∨ bz = w.heap.size + 1 ∨ bz = w.heap.size + 1 + 1) (hu : bu = w.heap.size ∨ bu = w.heap.size + 1 ∨ bu = w.heap.size + 1 + 1) :
    Made n w (.slice (some ⟨bx, 0, none⟩) n n) (.slice (some ⟨bz, 0, none⟩) n n) (.slice (some ⟨bu, 0, none⟩) n n) (three n w) := by
  have row : ∀ b, (b = w.heap.size ∨ b = w.heap.size + 1 ∨ b = w.heap.size + 1 + 1) → Row8 (three n w) b (List.replicate n 0) := by
    rintro b (rfl | rfl | rfl)
    · exact three_row0 n w
    · exact three_row1 n w
    · exact three_row2 n w
  exact ⟨bx, bz, bu, rfl, rfl, rfl, h.1, h.2.1, h.2.2, by omega, by omega, by omega, row _ hx, row _ hz, row _ hu, three_below n w⟩

/-- A row of zeros of which the first k places have been filled. -/
def fill (L : List UInt8) (n k : Nat) : List UInt8 := L.take k ++ List.replicate (n - k) 0
theorem fill_len {L : List UInt8} {n k : Nat} (hL : L.length = n) (hk : k ≤ n) : (fill L n k).length = n := by simp [fill, hL]; omega
theorem fill_zero (L : List UInt8) (n : Nat) : fill L n 0 = List.replicate n 0 := by simp [fill]
theorem fill_all {L : List UInt8} {n : Nat} (hL : L.length = n) : fill L n n = L := by rw [fill, Nat.sub_self, List.replicate_zero, List.append_nil, List.take_of_length_le (by omega)]
theorem fill_set {L : List UInt8} {n k : Nat} (hL : L.length = n) (hk : k < n) : (fill L n k).set k (L.getD k 0) = fill L n (k + 1) := by
  have h1 : (L.take k).length = k := by simp; omega
  unfold fill
  rw [List.set_append_right _ _ (by omega), h1, Nat.sub_self, List.take_succ_eq_append_getElem (by omega), show n - k = (n - (k + 1)) + 1 from by omega, List.replicate_succ, List.set_cons_zero, List.append_assoc]
  simp [List.getD, show k < L.length by omega]
theorem fill_keep {L : List UInt8} {n k : Nat} (hL : L.length = n) (hk : k < n) (h0 : L.getD k 0 = 0) : fill L n k = fill L n (k + 1) := by
  rw [← fill_set hL hk, h0]
  have h1 : (L.take k).length = k := by simp; omega
  unfold fill
  rw [List.set_append_right _ _ (by omega), h1, Nat.sub_self, show n - k = (n - k - 1) + 1 from by omega, List.replicate_succ, List.set_cons_zero]
theorem fill_at {L : List UInt8} {n k : Nat} (hL : L.length = n) (hk : k < n) : (fill L n (k + 1))[k]? = some (L.getD k 0) := by
  have h1 : k < (L.take (k + 1)).length := by simp; omega
  unfold fill
  rw [List.getElem?_append_left h1, List.getElem?_take_of_lt (by omega)]
  simp [List.getD, show k < L.length by omega]
def uList (n : Nat) (t : List UInt8) : List UInt8 := (List.range n).map fun i => t.getD i 0
theorem uList_len (n : Nat) (t : List UInt8) : (uList n t).length = n := by simp [uList]
theorem uList_at {n k : Nat} (t : List UInt8) (hk : k < n) : (uList n t).getD k 0 = t.getD k 0 := by simp [uList, List.getD, hk]
theorem row8_other {w : World} {B C : Nat} {l : List UInt8} (hr : Row8 w B l) (h : C ≠ B) (o : Nat) (v : Value) : Row8 (w.setCell ⟨C, o, none⟩ v) B l := fun j hj => by
  obtain ⟨h1, h2⟩ := hr j hj
  exact ⟨by rw [World.cell?_setCell_other _ _ _ _ (by simp)]; exact h1, by rw [World.frozen?_setCell]; exact h2⟩
theorem row8_later {w w' : World} {B : Nat} {l : List UInt8} (hr : Row8 w B l) (hb : Below w.heap.size w w') : Row8 w' B l := fun j hj => by
  obtain ⟨h1, h2⟩ := hr j hj
  exact ⟨cell_later hb h1, by rw [hb.frozen (block_lt_of_cell h1)]; exact h2⟩
theorem cell_at {w : World} {B : Nat} {l : List UInt8} {k : Nat} {v : UInt8} (hr : Row8 w B l) (h : l[k]? = some v) : w.cell? ⟨B, k, none⟩ = some (.int .u8 (v.toNat : Int)) := by
  obtain ⟨h1, h2⟩ := List.getElem?_eq_some_iff.1 h
  rw [(hr k h1).1, h2]
theorem xor_val (a b : UInt8) : bits .xor .u8 (a.toNat : Int) (b.toNat : Int) = ((a ^^^ b).toNat : Int) := by
  rw [u8_xor_nat _ _ a.toNat_lt b.toNat_lt]; rfl
theorem linear16 (s u : List UInt8) (h : s.length = u.length) : Crc.sum16 (List.zipWith (· ^^^ ·) s u) = (Crc.sum16 s ^^^ Crc.sum16 u) ^^^ Crc.sum16 (List.replicate s.length 0) := by
  have h1 := Crc.sumFrom16_xor s u h 0xFFFF#16 0xFFFF#16
  have h2 := Crc.sumFrom16_xor (List.zipWith (· ^^^ ·) s u) (List.replicate s.length 0) (by simp [h]) (0xFFFF#16 ^^^ 0xFFFF#16) 0xFFFF#16
  have e : List.zipWith (· ^^^ ·) (List.zipWith (· ^^^ ·) s u) (List.replicate s.length 0) = List.zipWith (· ^^^ ·) s u := by
    apply List.ext_getElem
    · simp [h]
    · intro i h1 h2; simp
  rw [e, h1] at h2
  exact h2
theorem linear8 (s u : List UInt8) (h : s.length = u.length) : Crc.sum8 (List.zipWith (· ^^^ ·) s u) = Crc.sum8 s ^^^ Crc.sum8 u := Crc.sumFrom8_xor s u h 0#8 0#8

set_option maxHeartbeats 1000000 in
theorem crcLinear_walk (s t : ByteArray) (w : World) (hs : s.size ≤ maxLen) (_ht : t.size ≤ maxLen) :
    Calls Try.prog 6 #[.string s, .string t] w fun e w' => e = .returned (.bool true) ∧ Below w.heap.size w w' := by
  unfold maxLen at hs
  by_cases h : s.size ≤ 2000
  · have hmk := run_mk s.size (by omega)
    go_enter Try.func6, Try.ntmps6
    go_wp2_with fail
    go_cut [5, 6, 7] from 13 to 21 (fun x z u wx => Made s.size w x z u wx)
    case first =>
      go_region
      all_goals go_wp2_with fail
      all_goals go_meet
      all_goals exact made_any _ _ _ (by omega) (by omega) (by omega) (by omega)
    case rest =>
      obtain ⟨bx, bz, bu, rfl, rfl, rfl, hxz, hxu, hzu, hbx, hbz, hbu, rx, rz, ru, hb⟩ := hcut
      clear hmk
      obtain ⟨U, hU⟩ : ∃ U, U = uList s.size t.data.toList := ⟨_, rfl⟩
      have hUl : U.length = s.size := by rw [hU, uList_len]
      have hsl : s.data.toList.length = s.size := by simp
      obtain ⟨X, hX⟩ : ∃ X, X = List.zipWith (· ^^^ ·) s.data.toList U := ⟨_, rfl⟩
      have hXl : X.length = s.size := by rw [hX]; simp [hUl]
      have HU := Lib.hid hU; have HX := Lib.hid hX; have HUl := Lib.hid hUl; have HXl := Lib.hid hXl; have Hsl := Lib.hid hsl
      clear hU hX hUl hXl hsl
      have Rx := Lib.hid rx; have Rz := Lib.hid rz; have Ru := Lib.hid ru; have Hb := Lib.hid hb
      clear rx rz ru hb
      go_wp2_with fail
      go_loopw [8] (fun i wr => ∃ k : Nat, k ≤ s.size ∧ i = .int .i64 k ∧ Row8 wr bx (fill X s.size k) ∧ Row8 wr bz (List.replicate s.size 0) ∧ Row8 wr bu (fill U s.size k) ∧ Below w.heap.size w wr) (fun i _ => s.size - (intOf i).toNat)
      case atStart => exact ⟨0, Nat.zero_le _, rfl, by rw [fill_zero]; exact Rx.out, Rz.out, by rw [fill_zero]; exact Ru.out, Hb.out⟩
      case round =>
        obtain ⟨k, hk, rfl, rx, rz, ru, hb⟩ := hrel
        have Qx := Lib.hid rx; have Qz := Lib.hid rz; have Qu := Lib.hid ru; have Qb := Lib.hid hb
        clear rx rz ru hb Rx Rz Ru Hb
        by_cases hlt : k < s.size
        · by_cases hkt : k < t.size
          · obtain ⟨hcu, hfu⟩ := Qu.out k (by rw [fill_len HUl.out hk]; exact hlt)
            go_wp2_with fail
            have H1 : Row8 (wr.setCell ⟨bu, k, none⟩ (.int .u8 (t[k].toNat : Int))) bu (fill U s.size (k + 1)) ∧ Row8 (wr.setCell ⟨bu, k, none⟩ (.int .u8 (t[k].toNat : Int))) bx (fill X s.size k) ∧ Row8 (wr.setCell ⟨bu, k, none⟩ (.int .u8 (t[k].toNat : Int))) bz (List.replicate s.size 0) ∧ Below w.heap.size w (wr.setCell ⟨bu, k, none⟩ (.int .u8 (t[k].toNat : Int))) := by
              refine ⟨?_, row8_other Qx.out (Ne.symm hxu) _ _, row8_other Qz.out (Ne.symm hzu) _ _, Qb.out.setCell hbu _⟩
              have e : t[k] = U.getD k 0 := by
                rw [HU.out, uList_at _ hlt]
                have h1 : k < t.data.toList.length := by simpa using hkt
                simp only [List.getD, List.getElem?_eq_getElem h1, Option.getD_some]; rfl
              rw [e, ← fill_set HUl.out hlt]
              exact row8_set Qu.out k (by rw [fill_len HUl.out hk]; exact hlt) _
            generalize wr.setCell ⟨bu, k, none⟩ (.int .u8 (t[k].toNat : Int)) = w1 at H1 ⊢
            clear hcu hfu
            have R1 : Hid (Row8 w1 bu (fill U s.size (k + 1)) ∧ Row8 w1 bx (fill X s.size k) ∧ Row8 w1 bz (List.replicate s.size 0) ∧ Below w.heap.size w w1) := H1
            clear H1
            obtain ⟨uk, huk, hcell⟩ : ∃ uk : UInt8, U.getD k 0 = uk ∧ ∀ W, Grow.Cl w1.drew W → W.cell? ⟨bu, k, none⟩ = some (.int .u8 (uk.toNat : Int)) :=
              ⟨_, rfl, fun W hW => cell_later (Grow.Cl.base hW) (cell_at R1.out.1 (fill_at HUl.out hlt))⟩
            have Huk := Lib.hid huk; clear huk
            (refine Grow.wp_region_tail 11 Grow.noPlan Grow.noPlan_stable (by kernel_rfl) (by kernel_rfl) ?_; intro opsq Hopsq; simp only [List.take_succ_cons, List.take_zero, List.drop_succ_cons, List.drop_zero])
            repeat (first | (refine Grow.lex_move rfl ?_ rfl ?_; (· first | exact Grow.wanted_none | (rw [Hopsq.out]; rfl)); intro K hK; simp only [Grow.put_lit, Grow.setAt, Grow.eval_lit, Grow.ev]; refine hK _ _ ?_; clear hK K) | (refine Grow.lex_assign rfl ?_ rfl ?_; (· first | exact Grow.wanted_none | (rw [Hopsq.out]; rfl)); intro K hK; simp only [Grow.put_lit, Grow.setAt, Grow.eval_lit, Grow.ev]; refine hK _ _ ?_; clear hK K) | (refine Grow.lex_plain rfl rfl ?_ rfl ?_; (· first | exact Grow.wanted_none | (rw [Hopsq.out]; rfl)); apply Exists.intro; refine ⟨fun wq hCq _ => ?_, ?_⟩; (· (go_wp2_with fail; refine ⟨rfl, Below.refl _ _, ?_⟩; simp only [Grow.getD_lit, Grow.nth]; rfl)); intro K hK; simp only [Grow.put_lit, Grow.setAt]; refine hK _ _ ?_; clear hK K) | (refine Grow.lex_skip ?_ ?_; (· (rw [Hopsq.out]; rfl)); intro K hK; simp only [Grow.put_lit, Grow.setAt]; refine hK _ _ ?_; clear hK K))
            (refine Grow.lex_nil ?_; intro w2 hb2 _; replace hb2 := Grow.Cl.base hb2; clear Hopsq opsq)
            have hcx : w2.cell? ⟨bx, k, none⟩ = some (.int .u8 ((fill X s.size k).getD k 0).toNat) := cell_later hb2 (by
              rw [(R1.out.2.1 k (by rw [fill_len HXl.out hk]; exact hlt)).1]; simp [List.getD, fill_len HXl.out hk, hlt])
            have hfx : w2.frozen? ⟨bx, k, none⟩ = false := (row8_later R1.out.2.1 hb2 k (by rw [fill_len HXl.out hk]; exact hlt)).2
            clear hcell
            go_wp2_with fail
            have hv : X.getD k 0 = s[k] ^^^ uk := by
              rw [HX.out, ← Huk.out]
              have h1 : k < (List.zipWith (fun x1 x2 => x1 ^^^ x2) s.data.toList U).length := by simp [HUl.out, hlt]
              have h2 : k < U.length := by rw [HUl.out]; exact hlt
              simp only [List.getD, List.getElem?_eq_getElem h1, List.getElem?_eq_getElem h2, Option.getD_some, List.getElem_zipWith]
              rfl
            have hset : Row8 (w2.setCell ⟨bx, k, none⟩ (.int .u8 (bits BinOp.xor IntKind.u8 (s[k].toNat : Int) (uk.toNat : Int)))) bx (fill X s.size (k + 1)) := by
              rw [xor_val, ← hv, ← fill_set HXl.out hlt]
              exact row8_set (row8_later R1.out.2.1 hb2) k (by rw [fill_len HXl.out hk]; exact hlt) _
            refine ⟨⟨k + 1, by omega, by go_num, hset, row8_other (row8_later R1.out.2.2.1 hb2) hxz _ _, row8_other (row8_later R1.out.1 hb2) hxu _ _, (R1.out.2.2.2.trans (hb2.mono R1.out.2.2.2.size)).setCell hbx _⟩, by simp [intOf]; omega⟩
          · go_wp2_with fail
            obtain ⟨w1, hw1⟩ : ∃ w1, w1 = wr := ⟨_, rfl⟩
            have H1 : Row8 w1 bu (fill U s.size (k + 1)) ∧ Row8 w1 bx (fill X s.size k) ∧ Row8 w1 bz (List.replicate s.size 0) ∧ Below w.heap.size w w1 := by
              rw [hw1]
              refine ⟨?_, Qx.out, Qz.out, Qb.out⟩
              rw [← fill_keep HUl.out hlt (by
                rw [HU.out, uList_at _ hlt]
                have h1 : t.data.toList.length ≤ k := by simp; omega
                simp [List.getD, List.getElem?_eq_none h1])]
              exact Qu.out
            rw [← hw1]
            clear hw1
            clear hkt
            have R1 : Hid (Row8 w1 bu (fill U s.size (k + 1)) ∧ Row8 w1 bx (fill X s.size k) ∧ Row8 w1 bz (List.replicate s.size 0) ∧ Below w.heap.size w w1) := H1
            clear H1
            obtain ⟨uk, huk, hcell⟩ : ∃ uk : UInt8, U.getD k 0 = uk ∧ ∀ W, Grow.Cl w1.drew W → W.cell? ⟨bu, k, none⟩ = some (.int .u8 (uk.toNat : Int)) :=
              ⟨_, rfl, fun W hW => cell_later (Grow.Cl.base hW) (cell_at R1.out.1 (fill_at HUl.out hlt))⟩
            have Huk := Lib.hid huk; clear huk
            (refine Grow.wp_region_tail 11 Grow.noPlan Grow.noPlan_stable (by kernel_rfl) (by kernel_rfl) ?_; intro opsq Hopsq; simp only [List.take_succ_cons, List.take_zero, List.drop_succ_cons, List.drop_zero])
            repeat (first | (refine Grow.lex_move rfl ?_ rfl ?_; (· first | exact Grow.wanted_none | (rw [Hopsq.out]; rfl)); intro K hK; simp only [Grow.put_lit, Grow.setAt, Grow.eval_lit, Grow.ev]; refine hK _ _ ?_; clear hK K) | (refine Grow.lex_assign rfl ?_ rfl ?_; (· first | exact Grow.wanted_none | (rw [Hopsq.out]; rfl)); intro K hK; simp only [Grow.put_lit, Grow.setAt, Grow.eval_lit, Grow.ev]; refine hK _ _ ?_; clear hK K) | (refine Grow.lex_plain rfl rfl ?_ rfl ?_; (· first | exact Grow.wanted_none | (rw [Hopsq.out]; rfl)); apply Exists.intro; refine ⟨fun wq hCq _ => ?_, ?_⟩; (· (go_wp2_with fail; refine ⟨rfl, Below.refl _ _, ?_⟩; simp only [Grow.getD_lit, Grow.nth]; rfl)); intro K hK; simp only [Grow.put_lit, Grow.setAt]; refine hK _ _ ?_; clear hK K) | (refine Grow.lex_skip ?_ ?_; (· (rw [Hopsq.out]; rfl)); intro K hK; simp only [Grow.put_lit, Grow.setAt]; refine hK _ _ ?_; clear hK K))
            (refine Grow.lex_nil ?_; intro w2 hb2 _; replace hb2 := Grow.Cl.base hb2; clear Hopsq opsq)
            have hcx : w2.cell? ⟨bx, k, none⟩ = some (.int .u8 ((fill X s.size k).getD k 0).toNat) := cell_later hb2 (by
              rw [(R1.out.2.1 k (by rw [fill_len HXl.out hk]; exact hlt)).1]; simp [List.getD, fill_len HXl.out hk, hlt])
            have hfx : w2.frozen? ⟨bx, k, none⟩ = false := (row8_later R1.out.2.1 hb2 k (by rw [fill_len HXl.out hk]; exact hlt)).2
            clear hcell
            go_wp2_with fail
            have hv : X.getD k 0 = s[k] ^^^ uk := by
              rw [HX.out, ← Huk.out]
              have h1 : k < (List.zipWith (fun x1 x2 => x1 ^^^ x2) s.data.toList U).length := by simp [HUl.out, hlt]
              have h2 : k < U.length := by rw [HUl.out]; exact hlt
              simp only [List.getD, List.getElem?_eq_getElem h1, List.getElem?_eq_getElem h2, Option.getD_some, List.getElem_zipWith]
              rfl
            have hset : Row8 (w2.setCell ⟨bx, k, none⟩ (.int .u8 (bits BinOp.xor IntKind.u8 (s[k].toNat : Int) (uk.toNat : Int)))) bx (fill X s.size (k + 1)) := by
              rw [xor_val, ← hv, ← fill_set HXl.out hlt]
              exact row8_set (row8_later R1.out.2.1 hb2) k (by rw [fill_len HXl.out hk]; exact hlt) _
            refine ⟨⟨k + 1, by omega, by go_num, hset, row8_other (row8_later R1.out.2.2.1 hb2) hxz _ _, row8_other (row8_later R1.out.1 hb2) hxu _ _, (R1.out.2.2.2.trans (hb2.mono R1.out.2.2.2.size)).setCell hbx _⟩, by simp [intOf]; omega⟩
        · obtain rfl : k = s.size := by omega
          have ex : fill X s.size s.size = X := fill_all HXl.out
          have eu : fill U s.size s.size = U := fill_all HUl.out
          have cx : ∀ W, Grow.Cl wr.drew W → (convert 33 9 (.slice (some ⟨bx, 0, none⟩) s.size s.size)).run Try.prog W = .ok (.string (bs X)) W := fun W hW => by
            rw [ex] at Qx; exact conv_row (row8_later Qx.out (Grow.Cl.base hW)) _ _ HXl.out
          have cu : ∀ W, Grow.Cl wr.drew W → (convert 33 9 (.slice (some ⟨bu, 0, none⟩) s.size s.size)).run Try.prog W = .ok (.string (bs U)) W := fun W hW => by
            rw [eu] at Qu; exact conv_row (row8_later Qu.out (Grow.Cl.base hW)) _ _ HUl.out
          have cz : ∀ W, Grow.Cl wr.drew W → (convert 33 9 (.slice (some ⟨bz, 0, none⟩) s.size s.size)).run Try.prog W = .ok (.string (bs (List.replicate s.size 0))) W := fun W hW =>
            conv_row (row8_later Qz.out (Grow.Cl.base hW)) _ _ (by simp)
          have sx : (bs X).size ≤ maxLen := by rw [bs_size, HXl.out]; unfold maxLen; omega
          have su : (bs U).size ≤ maxLen := by rw [bs_size, HUl.out]; unfold maxLen; omega
          have sz : (bs (List.replicate s.size 0)).size ≤ maxLen := by rw [bs_size]; simp; unfold maxLen; omega
          have ss : s.size ≤ maxLen := by unfold maxLen; omega
          have q16 : ((((Crc.sum16 X).toNat : Nat) : Int) == bits .xor .u16 (bits .xor .u16 ((Crc.sum16 s.data.toList).toNat : Int) ((Crc.sum16 U).toNat : Int)) ((Crc.sum16 (List.replicate s.size 0)).toNat : Int)) = true := by
            have := linear16 s.data.toList U (by rw [Hsl.out, HUl.out])
            rw [xor16, xor16, beq_iff_eq, HX.out, this, Hsl.out]
          have q8 : ((((Crc.sum8 X).toNat : Nat) : Int) == bits .xor .u8 ((Crc.sum8 s.data.toList).toNat : Int) ((Crc.sum8 U).toNat : Int)) = true := by
            have := linear8 s.data.toList U (by rw [Hsl.out, HUl.out])
            rw [xor8, beq_iff_eq, HX.out, this]
          clear ex eu
          go_wp2_with fail
          (refine Grow.wp_region Grow.noPlan Grow.noPlan_stable (by kernel_rfl) (by kernel_rfl) ?_; intro opsq Hopsq)
          repeat (first | (refine Grow.lex_move rfl ?_ rfl ?_; (· first | exact Grow.wanted_none | (rw [Hopsq.out]; rfl)); intro K hK; simp only [Grow.put_lit, Grow.setAt, Grow.eval_lit, Grow.ev]; refine hK _ _ ?_; clear hK K) | (refine Grow.lex_assign rfl ?_ rfl ?_; (· first | exact Grow.wanted_none | (rw [Hopsq.out]; rfl)); intro K hK; simp only [Grow.put_lit, Grow.setAt, Grow.eval_lit, Grow.ev]; refine hK _ _ ?_; clear hK K) | (refine Grow.lex_plain rfl rfl ?_ rfl ?_; (· first | exact Grow.wanted_none | (rw [Hopsq.out]; rfl)); apply Exists.intro; refine ⟨fun wq hCq _ => ?_, ?_⟩; (· (go_wp2_with fail; refine ⟨rfl, Below.refl _ _, ?_⟩; simp only [Grow.getD_lit, Grow.nth]; rfl)); intro K hK; simp only [Grow.put_lit, Grow.setAt]; refine hK _ _ ?_; clear hK K) | (refine Grow.lex_skip ?_ ?_; (· (rw [Hopsq.out]; rfl)); intro K hK; simp only [Grow.put_lit, Grow.setAt]; refine hK _ _ ?_; clear hK K))
          (refine Grow.lex_call ?_ rfl ?_; (· first | exact Grow.wanted_none | (rw [Hopsq.out]; rfl)); apply Exists.intro; apply Exists.intro; refine ⟨fun wq => ?_, ?_⟩; (· (go_simp; exact ⟨rfl, rfl⟩)); apply Exists.intro; refine ⟨fun wq hCq hKq => ?_, ?_⟩; (· exact Grow.same_world (sum16_any _ _ sx)); intro K hK; simp only [Grow.put_lit, Grow.setAt]; refine hK _ _ ?_; clear hK K)
          repeat (first | (refine Grow.lex_move rfl ?_ rfl ?_; (· first | exact Grow.wanted_none | (rw [Hopsq.out]; rfl)); intro K hK; simp only [Grow.put_lit, Grow.setAt, Grow.eval_lit, Grow.ev]; refine hK _ _ ?_; clear hK K) | (refine Grow.lex_assign rfl ?_ rfl ?_; (· first | exact Grow.wanted_none | (rw [Hopsq.out]; rfl)); intro K hK; simp only [Grow.put_lit, Grow.setAt, Grow.eval_lit, Grow.ev]; refine hK _ _ ?_; clear hK K) | (refine Grow.lex_plain rfl rfl ?_ rfl ?_; (· first | exact Grow.wanted_none | (rw [Hopsq.out]; rfl)); apply Exists.intro; refine ⟨fun wq hCq _ => ?_, ?_⟩; (· (go_wp2_with fail; refine ⟨rfl, Below.refl _ _, ?_⟩; simp only [Grow.getD_lit, Grow.nth]; rfl)); intro K hK; simp only [Grow.put_lit, Grow.setAt]; refine hK _ _ ?_; clear hK K) | (refine Grow.lex_skip ?_ ?_; (· (rw [Hopsq.out]; rfl)); intro K hK; simp only [Grow.put_lit, Grow.setAt]; refine hK _ _ ?_; clear hK K))
          (refine Grow.lex_call ?_ rfl ?_; (· first | exact Grow.wanted_none | (rw [Hopsq.out]; rfl)); apply Exists.intro; apply Exists.intro; refine ⟨fun wq => ?_, ?_⟩; (· (go_simp; exact ⟨rfl, rfl⟩)); apply Exists.intro; refine ⟨fun wq hCq hKq => ?_, ?_⟩; (· exact Grow.same_world (sum16_any _ _ ss)); intro K hK; simp only [Grow.put_lit, Grow.setAt]; refine hK _ _ ?_; clear hK K)
          repeat (first | (refine Grow.lex_move rfl ?_ rfl ?_; (· first | exact Grow.wanted_none | (rw [Hopsq.out]; rfl)); intro K hK; simp only [Grow.put_lit, Grow.setAt, Grow.eval_lit, Grow.ev]; refine hK _ _ ?_; clear hK K) | (refine Grow.lex_assign rfl ?_ rfl ?_; (· first | exact Grow.wanted_none | (rw [Hopsq.out]; rfl)); intro K hK; simp only [Grow.put_lit, Grow.setAt, Grow.eval_lit, Grow.ev]; refine hK _ _ ?_; clear hK K) | (refine Grow.lex_plain rfl rfl ?_ rfl ?_; (· first | exact Grow.wanted_none | (rw [Hopsq.out]; rfl)); apply Exists.intro; refine ⟨fun wq hCq _ => ?_, ?_⟩; (· (go_wp2_with fail; refine ⟨rfl, Below.refl _ _, ?_⟩; simp only [Grow.getD_lit, Grow.nth]; rfl)); intro K hK; simp only [Grow.put_lit, Grow.setAt]; refine hK _ _ ?_; clear hK K) | (refine Grow.lex_skip ?_ ?_; (· (rw [Hopsq.out]; rfl)); intro K hK; simp only [Grow.put_lit, Grow.setAt]; refine hK _ _ ?_; clear hK K))
          (refine Grow.lex_call ?_ rfl ?_; (· first | exact Grow.wanted_none | (rw [Hopsq.out]; rfl)); apply Exists.intro; apply Exists.intro; refine ⟨fun wq => ?_, ?_⟩; (· (go_simp; exact ⟨rfl, rfl⟩)); apply Exists.intro; refine ⟨fun wq hCq hKq => ?_, ?_⟩; (· exact Grow.same_world (sum16_any _ _ su)); intro K hK; simp only [Grow.put_lit, Grow.setAt]; refine hK _ _ ?_; clear hK K)
          repeat (first | (refine Grow.lex_move rfl ?_ rfl ?_; (· first | exact Grow.wanted_none | (rw [Hopsq.out]; rfl)); intro K hK; simp only [Grow.put_lit, Grow.setAt, Grow.eval_lit, Grow.ev]; refine hK _ _ ?_; clear hK K) | (refine Grow.lex_assign rfl ?_ rfl ?_; (· first | exact Grow.wanted_none | (rw [Hopsq.out]; rfl)); intro K hK; simp only [Grow.put_lit, Grow.setAt, Grow.eval_lit, Grow.ev]; refine hK _ _ ?_; clear hK K) | (refine Grow.lex_plain rfl rfl ?_ rfl ?_; (· first | exact Grow.wanted_none | (rw [Hopsq.out]; rfl)); apply Exists.intro; refine ⟨fun wq hCq _ => ?_, ?_⟩; (· (go_wp2_with fail; refine ⟨rfl, Below.refl _ _, ?_⟩; simp only [Grow.getD_lit, Grow.nth]; rfl)); intro K hK; simp only [Grow.put_lit, Grow.setAt]; refine hK _ _ ?_; clear hK K) | (refine Grow.lex_skip ?_ ?_; (· (rw [Hopsq.out]; rfl)); intro K hK; simp only [Grow.put_lit, Grow.setAt]; refine hK _ _ ?_; clear hK K))
          (refine Grow.lex_call ?_ rfl ?_; (· first | exact Grow.wanted_none | (rw [Hopsq.out]; rfl)); apply Exists.intro; apply Exists.intro; refine ⟨fun wq => ?_, ?_⟩; (· (go_simp; exact ⟨rfl, rfl⟩)); apply Exists.intro; refine ⟨fun wq hCq hKq => ?_, ?_⟩; (· exact Grow.same_world (sum16_any _ _ sz)); intro K hK; simp only [Grow.put_lit, Grow.setAt]; refine hK _ _ ?_; clear hK K)
          simp only [bs_list]
          repeat (first | (refine Grow.lex_move rfl ?_ rfl ?_; (· first | exact Grow.wanted_none | (rw [Hopsq.out]; rfl)); intro K hK; simp only [Grow.put_lit, Grow.setAt, Grow.eval_lit, Grow.ev]; refine hK _ _ ?_; clear hK K) | (refine Grow.lex_assign rfl ?_ rfl ?_; (· first | exact Grow.wanted_none | (rw [Hopsq.out]; rfl)); intro K hK; simp only [Grow.put_lit, Grow.setAt, Grow.eval_lit, Grow.ev]; refine hK _ _ ?_; clear hK K) | (refine Grow.lex_plain rfl rfl ?_ rfl ?_; (· first | exact Grow.wanted_none | (rw [Hopsq.out]; rfl)); apply Exists.intro; refine ⟨fun wq hCq _ => ?_, ?_⟩; (· (go_wp2_with fail; refine ⟨rfl, Below.refl _ _, ?_⟩; simp only [Grow.getD_lit, Grow.nth]; rfl)); intro K hK; simp only [Grow.put_lit, Grow.setAt]; refine hK _ _ ?_; clear hK K) | (refine Grow.lex_skip ?_ ?_; (· (rw [Hopsq.out]; rfl)); intro K hK; simp only [Grow.put_lit, Grow.setAt]; refine hK _ _ ?_; clear hK K))
          (refine Grow.lex_call ?_ rfl ?_; (· first | exact Grow.wanted_none | (rw [Hopsq.out]; rfl)); apply Exists.intro; apply Exists.intro; refine ⟨fun wq => ?_, ?_⟩; (· (go_simp; exact ⟨rfl, rfl⟩)); apply Exists.intro; refine ⟨fun wq hCq hKq => ?_, ?_⟩; (· exact Grow.same_world (sum8_any _ _ sx)); intro K hK; simp only [Grow.put_lit, Grow.setAt]; refine hK _ _ ?_; clear hK K)
          repeat (first | (refine Grow.lex_move rfl ?_ rfl ?_; (· first | exact Grow.wanted_none | (rw [Hopsq.out]; rfl)); intro K hK; simp only [Grow.put_lit, Grow.setAt, Grow.eval_lit, Grow.ev]; refine hK _ _ ?_; clear hK K) | (refine Grow.lex_assign rfl ?_ rfl ?_; (· first | exact Grow.wanted_none | (rw [Hopsq.out]; rfl)); intro K hK; simp only [Grow.put_lit, Grow.setAt, Grow.eval_lit, Grow.ev]; refine hK _ _ ?_; clear hK K) | (refine Grow.lex_plain rfl rfl ?_ rfl ?_; (· first | exact Grow.wanted_none | (rw [Hopsq.out]; rfl)); apply Exists.intro; refine ⟨fun wq hCq _ => ?_, ?_⟩; (· (go_wp2_with fail; refine ⟨rfl, Below.refl _ _, ?_⟩; simp only [Grow.getD_lit, Grow.nth]; rfl)); intro K hK; simp only [Grow.put_lit, Grow.setAt]; refine hK _ _ ?_; clear hK K) | (refine Grow.lex_skip ?_ ?_; (· (rw [Hopsq.out]; rfl)); intro K hK; simp only [Grow.put_lit, Grow.setAt]; refine hK _ _ ?_; clear hK K))
          (refine Grow.lex_call ?_ rfl ?_; (· first | exact Grow.wanted_none | (rw [Hopsq.out]; rfl)); apply Exists.intro; apply Exists.intro; refine ⟨fun wq => ?_, ?_⟩; (· (go_simp; exact ⟨rfl, rfl⟩)); apply Exists.intro; refine ⟨fun wq hCq hKq => ?_, ?_⟩; (· exact Grow.same_world (sum8_any _ _ ss)); intro K hK; simp only [Grow.put_lit, Grow.setAt]; refine hK _ _ ?_; clear hK K)
          repeat (first | (refine Grow.lex_move rfl ?_ rfl ?_; (· first | exact Grow.wanted_none | (rw [Hopsq.out]; rfl)); intro K hK; simp only [Grow.put_lit, Grow.setAt, Grow.eval_lit, Grow.ev]; refine hK _ _ ?_; clear hK K) | (refine Grow.lex_assign rfl ?_ rfl ?_; (· first | exact Grow.wanted_none | (rw [Hopsq.out]; rfl)); intro K hK; simp only [Grow.put_lit, Grow.setAt, Grow.eval_lit, Grow.ev]; refine hK _ _ ?_; clear hK K) | (refine Grow.lex_plain rfl rfl ?_ rfl ?_; (· first | exact Grow.wanted_none | (rw [Hopsq.out]; rfl)); apply Exists.intro; refine ⟨fun wq hCq _ => ?_, ?_⟩; (· (go_wp2_with fail; refine ⟨rfl, Below.refl _ _, ?_⟩; simp only [Grow.getD_lit, Grow.nth]; rfl)); intro K hK; simp only [Grow.put_lit, Grow.setAt]; refine hK _ _ ?_; clear hK K) | (refine Grow.lex_skip ?_ ?_; (· (rw [Hopsq.out]; rfl)); intro K hK; simp only [Grow.put_lit, Grow.setAt]; refine hK _ _ ?_; clear hK K))
          (refine Grow.lex_call ?_ rfl ?_; (· first | exact Grow.wanted_none | (rw [Hopsq.out]; rfl)); apply Exists.intro; apply Exists.intro; refine ⟨fun wq => ?_, ?_⟩; (· (go_simp; exact ⟨rfl, rfl⟩)); apply Exists.intro; refine ⟨fun wq hCq hKq => ?_, ?_⟩; (· exact Grow.same_world (sum8_any _ _ su)); intro K hK; simp only [Grow.put_lit, Grow.setAt]; refine hK _ _ ?_; clear hK K)
          simp only [bs_list]
          repeat (first | (refine Grow.lex_move rfl ?_ rfl ?_; (· first | exact Grow.wanted_none | (rw [Hopsq.out]; rfl)); intro K hK; simp only [Grow.put_lit, Grow.setAt, Grow.eval_lit, Grow.ev]; refine hK _ _ ?_; clear hK K) | (refine Grow.lex_assign rfl ?_ rfl ?_; (· first | exact Grow.wanted_none | (rw [Hopsq.out]; rfl)); intro K hK; simp only [Grow.put_lit, Grow.setAt, Grow.eval_lit, Grow.ev]; refine hK _ _ ?_; clear hK K) | (refine Grow.lex_plain rfl rfl ?_ rfl ?_; (· first | exact Grow.wanted_none | (rw [Hopsq.out]; rfl)); apply Exists.intro; refine ⟨fun wq hCq _ => ?_, ?_⟩; (· (go_wp2_with fail; refine ⟨rfl, Below.refl _ _, ?_⟩; simp only [Grow.getD_lit, Grow.nth]; rfl)); intro K hK; simp only [Grow.put_lit, Grow.setAt]; refine hK _ _ ?_; clear hK K) | (refine Grow.lex_skip ?_ ?_; (· (rw [Hopsq.out]; rfl)); intro K hK; simp only [Grow.put_lit, Grow.setAt]; refine hK _ _ ?_; clear hK K))
          (refine Grow.lex_call ?_ rfl ?_; (· first | exact Grow.wanted_none | (rw [Hopsq.out]; rfl)); apply Exists.intro; apply Exists.intro; refine ⟨fun wq => ?_, ?_⟩; (· (go_simp; exact ⟨rfl, rfl⟩)); apply Exists.intro; refine ⟨fun wq hCq hKq => ?_, ?_⟩; (· exact sane_any _); intro K hK; simp only [Grow.put_lit, Grow.setAt]; refine hK _ _ ?_; clear hK K)
          repeat (first | (refine Grow.lex_move rfl ?_ rfl ?_; (· first | exact Grow.wanted_none | (rw [Hopsq.out]; rfl)); intro K hK; simp only [Grow.put_lit, Grow.setAt, Grow.eval_lit, Grow.ev]; refine hK _ _ ?_; clear hK K) | (refine Grow.lex_assign rfl ?_ rfl ?_; (· first | exact Grow.wanted_none | (rw [Hopsq.out]; rfl)); intro K hK; simp only [Grow.put_lit, Grow.setAt, Grow.eval_lit, Grow.ev]; refine hK _ _ ?_; clear hK K) | (refine Grow.lex_plain rfl rfl ?_ rfl ?_; (· first | exact Grow.wanted_none | (rw [Hopsq.out]; rfl)); apply Exists.intro; refine ⟨fun wq hCq _ => ?_, ?_⟩; (· (go_wp2_with fail; refine ⟨rfl, Below.refl _ _, ?_⟩; simp only [Grow.getD_lit, Grow.nth]; rfl)); intro K hK; simp only [Grow.put_lit, Grow.setAt]; refine hK _ _ ?_; clear hK K) | (refine Grow.lex_skip ?_ ?_; (· (rw [Hopsq.out]; rfl)); intro K hK; simp only [Grow.put_lit, Grow.setAt]; refine hK _ _ ?_; clear hK K))
          (refine Grow.lex_nil ?_; intro w2 hb2 _; replace hb2 := Grow.Cl.base hb2; clear Hopsq opsq)
          go_wp2_with fail
          go_ret
          exact ⟨rfl, Qb.out.trans (hb2.mono Qb.out.size)⟩
  · go_enter Try.func6, Try.ntmps6
    go_wp2_with fail
    refine (sane_any _).mono ?_
    rintro e w1 ⟨rfl, hb1⟩
    go_wp2_with fail
    go_ret
    exact ⟨rfl, hb1⟩

set_option maxRecDepth 100000 in
theorem crcLinear_lifted (os : Os) (started : os.Started) (H : Type) (enc : TypeId × Value → H) :
    ReturnsInHanded {} Try.checked os 6 .any (Rows.crcLinearSpec.pre6 enc Try.prog Try.f6 Rows.crcLinearRow.domain false) (Rows.crcLinearSpec.post enc Try.prog Try.f6 false true false false) := by
  refine law_lifted (C := Try.checked) own laidOut started (by kernel_rfl) Try.func6 4 rfl Try.underlying4 (by kernel_rfl) rfl H enc
    (fun ds h => by match ds, h with | [d0, d1], _ => rfl)
    (ChangeSpec.witness6 (enc := enc) (C := Try.checked) false ⟨#[], #[.string ByteArray.empty, .string ByteArray.empty], []⟩ 8 (by kernel_rfl) (by kernel_rfl) (by kernel_rfl) (by kernel_rfl)) ?_
  intro W base args ds ps hval hA hsz
  have hA' : DataW.TrodAll enc Try.prog W 0 (fun _ => true) true Try.f6.params.toList args.toList ds ps := hA
  have hval' : ∀ (j : Nat) t v, Try.f6.params[j]? = some t → args[j]? = some v → Value.okWide Try.prog W .any base t v := hval
  rw [Try.params6] at hA' hval'
  obtain ⟨v0, vs0, d0, ds0, p0, q0, hargs, rfl, rfl, h0, r0⟩ := trodAll_cons hA'
  obtain ⟨v1, vs1, d1, ds1, p1, q1, rfl, rfl, rfl, h1, r1⟩ := trodAll_cons r0
  obtain ⟨rfl, rfl, rfl⟩ := trodAll_nil r1
  obtain rfl : args = #[v0, v1] := by cases args; simp_all
  obtain ⟨s0, rfl, rfl, rfl, hs0⟩ := open_string Try.underlying9 (hval' 0 9 v0 rfl rfl) h0
  obtain ⟨s1, rfl, rfl, rfl, hs1⟩ := open_string Try.underlying9 (hval' 1 9 v1 rfl rfl) h1
  exact crcLinear_walk s0 s1 W hs0 hs1

theorem crcLinear_over : Rows.crcLinearRow.holds Try.pinned (OpenSpec.ofChange Rows.crcLinearSpec) :=
  OpenClaim.holds_of_wide 6 Try.f6 rfl rfl rfl rfl rfl rfl rfl ⟨rfl, rfl, rfl, rfl, rfl⟩ rfl rfl rfl rfl rfl (by kernel_rfl) Try.func6 (by kernel_rfl)
    (of_decide_eq_true (by kernel_rfl)) (by unfold Func.isWrapper; first | (rw [if_pos (by decide +kernel)]; kernel_rfl) | (rw [if_neg (by decide +kernel)]; exact ⟨rfl, rfl⟩))
    (fun os started H enc _ => crcLinear_lifted os started H enc)

/-- THE STATEMENT. -/
theorem crcLinear_holds : Rows.CrcLinearSaid := crcLinear_over
#print axioms crcLinear_holds
end Go.Proofs.Ytbmkjgfhdbajbaa
