/- The walk over overlaylaw19.State: a belief made from numbers. Conditions: a building whose cars can be read, with 2 to 32 floors; numbers that can be read. -/
import Derived.Test.YtnnkldidlgiipaaInjectRef
import Derived.Test.YtnnkldidlgiipaaTrace
import Derived.Test.YtnnkldidlgiipaaGrowPair
namespace Go.Proofs.Ytnnkldidlgiipaa
open Go.RowKit
def newB : BelV := ⟨-1, 0, 0, [], 0, false⟩
/-- All blocks but one are as they were. -/
structure Exc (b : Nat) (W W' : World) : Prop where
  os : W'.os = W.os
  tape : W'.tape = W.tape
  output : W'.output = W.output
  size : W.heap.size ≤ W'.heap.size
  block : ∀ k, k < W.heap.size → k ≠ b → W'.heap[k]? = W.heap[k]?
theorem Exc.refl (b : Nat) (W : World) : Exc b W W := ⟨rfl, rfl, rfl, Nat.le_refl _, fun _ _ _ => rfl⟩
theorem Exc.step {b : Nat} {A B C : World} (h : Exc b A B) (k : Below B.heap.size B C) : Exc b A C :=
  ⟨k.os.trans h.os, k.tape.trans h.tape, k.output.trans h.output, Nat.le_trans h.size k.size, fun j hj hb => (k.block j (Nat.lt_of_lt_of_le hj h.size)).trans (h.block j hj hb)⟩
theorem Exc.set {b : Nat} {A B : World} (h : Exc b A B) (i : Nat) (u : Value) : Exc b A (B.setCell ⟨b, i, none⟩ u) :=
  ⟨h.os, h.tape, h.output, by simpa [World.setCell] using h.size, fun j hj hb => (Below.heap_setCell _ _ _ _ hb).trans (h.block j hj hb)⟩
theorem Exc.below {b n : Nat} {A B : World} (h : Exc b A B) (hb : n ≤ b) (hn : n ≤ A.heap.size) : Below n A B := ⟨h.os, h.tape, h.output, h.size, fun k hk => h.block k (by omega) (by omega)⟩
theorem Exc.blk {b k : Nat} {A B : World} {xs : List Value} (h : Exc b A B) (hT : Blk A k xs) (hb : k ≠ b) : Blk B k xs := by
  obtain ⟨t, ht⟩ := hT
  exact ⟨t, (h.block k (Array.getElem?_eq_some_iff.1 ht).1 hb).trans ht⟩
theorem Exc.cell {b : Nat} {A B : World} (h : Exc b A B) {p : Addr} (hk : p.block < A.heap.size) (hb : p.block ≠ b) : B.cell? p = A.cell? p := by
  simp only [World.cell?, h.block _ hk hb]
theorem markCells_at (l : List MarkV) (i : Nat) (d : MarkV) (h : l[i]? = some d) (j : Nat) (u : Value) (hu : (MarkV.cells d)[j]? = some u) : (markCells l)[i * 5 + j]? = some u := by
  induction l generalizing i with
  | nil => simp at h
  | cons e l ih =>
    have hj : j < 5 := (List.getElem?_eq_some_iff.1 hu).1
    cases i with
    | zero =>
      obtain rfl : e = d := by simpa using h
      simp only [markCells, List.flatMap_cons, Nat.zero_mul, Nat.zero_add]
      rw [List.getElem?_append_left (by simp; omega)]
      exact hu
    | succ i =>
      have := ih i (by simpa using h)
      simp only [markCells, List.flatMap_cons] at this ⊢
      rw [List.getElem?_append_right (by simp; omega)]
      rw [show (i + 1) * 5 + j - (MarkV.cells e).length = i * 5 + j by simp; omega]
      exact this
/-- A slice of marks: its cells. -/
def RdM (w : World) (q : Option Addr) (l : List MarkV) : Prop := ∀ (i : Nat) p, l[i]? = some p → ∃ A, q = some A ∧ A.block < w.heap.size ∧ ∀ j u, (MarkV.cells p)[j]? = some u → w.cell? (A.add (i * 5 + j)) = some u
theorem RdM.next {w w' : World} {q : Option Addr} {l : List MarkV} (h : RdM w q l) (hb : Below w.heap.size w w') : RdM w' q l := by
  intro i p hp
  obtain ⟨A, hq, hA, hc⟩ := h i p hp
  exact ⟨A, hq, Nat.lt_of_lt_of_le hA hb.size, fun j u hu => cell_later hb (hc j u hu)⟩
theorem RdM.exc {w w' : World} {g : Nat} {q : Option Addr} {l : List MarkV} (h : RdM w q l) (hb : Exc g w w') (hq : ∀ A, q = some A → A.block ≠ g) : RdM w' q l := by
  intro i p hp
  obtain ⟨A, hA, hlt, hc⟩ := h i p hp
  refine ⟨A, hA, Nat.lt_of_lt_of_le hlt hb.size, fun j u hu => ?_⟩
  rw [hb.cell (by rw [addr_block]; exact hlt) (by rw [addr_block]; exact hq A hA)]
  exact hc j u hu
theorem rdM_of_owns {w : World} {base cap n : Nat} {q : Option Addr} {l : List MarkV} (h : w.ownsRow base 43 5 (.slice q n cap) n (markCells l)) (hn : l.length = n) : RdM w q l := by
  intro i p hp
  have hi := (List.getElem?_eq_some_iff.1 hp).1
  rcases h.2 with ⟨hv, hx⟩ | ⟨g', cap', cur, hv, _, hh, _⟩
  · simp at hv; omega
  · simp at hv
    obtain ⟨rfl, rfl⟩ := hv
    refine ⟨⟨g', 0, none⟩, rfl, (Array.getElem?_eq_some_iff.1 hh).1, fun j u hu => ?_⟩
    have hj : j < 5 := (List.getElem?_eq_some_iff.1 hu).1
    rw [Addr.add_lit, Nat.zero_add, h.cellAt _ (by omega)]
    exact markCells_at l i p hp j u hu
theorem RdM.reg {w : World} {q : Option Addr} {l : List MarkV} (h : RdM w q l) {i : Nat} {m : MarkV} (hi : l[i]? = some m) : ∃ A, q = some A ∧ A.block < w.heap.size ∧
    (∀ W, Grow.Cl w.drew W → W.cell? (A.add (i * 5)) = some (.int .u32 (m.1.1.toNat : Int))) ∧ (∀ W, Grow.Cl w.drew W → W.cell? ⟨(A.add (i * 5)).block, (A.add (i * 5)).off + 1, none⟩ = some (.int .u32 (m.1.2.toNat : Int))) ∧
    (∀ W, Grow.Cl w.drew W → W.cell? ⟨(A.add (i * 5)).block, (A.add (i * 5)).off + 2, none⟩ = some (.int .i64 m.2.1)) ∧ (∀ W, Grow.Cl w.drew W → W.cell? ⟨(A.add (i * 5)).block, (A.add (i * 5)).off + 3, none⟩ = some (.int .i64 m.2.2.1)) ∧ (∀ W, Grow.Cl w.drew W → W.cell? ⟨(A.add (i * 5)).block, (A.add (i * 5)).off + 4, none⟩ = some (.int .i64 m.2.2.2)) := by
  obtain ⟨A, hq, hA, hc⟩ := h i m hi
  refine ⟨A, hq, hA, fun W hW => cell_later (Grow.Cl.base hW) (hc 0 _ rfl), fun W hW => cell_later (Grow.Cl.base hW) ?_, fun W hW => cell_later (Grow.Cl.base hW) ?_, fun W hW => cell_later (Grow.Cl.base hW) ?_, fun W hW => cell_later (Grow.Cl.base hW) ?_⟩
  · rw [← addr_one]; exact hc 1 _ rfl
  · rw [← addr_one]; exact hc 2 _ rfl
  · rw [← addr_one]; exact hc 3 _ rfl
  · rw [← addr_one]; exact hc 4 _ rfl
/-- A plan with one told call. -/
def relPlan (k : Nat) (r : Value → World → Prop) : Grow.Plan := fun i => if i = k then some (fun _ v w => r v w) else none
theorem relPlan_stable (k : Nat) (r : Value → World → Prop) (hr : ∀ v, Grow.Stable (r v)) : (relPlan k r).stable := by
  intro i r' h _ v w w' hw hb
  unfold relPlan at h
  split at h
  · cases h; exact hr v w w' hw hb
  · cases h
theorem belE_stable (lo : Nat) (V : BelV) (e : Int) (v : Value) : Grow.Stable (belE lo V e v) := by
  intro w w' hw hb
  obtain ⟨q, cap, hv, hr, hl⟩ := hw
  exact ⟨q, cap, hv, hr.next hb, hl⟩
theorem belE_lo {lo lo' : Nat} {V : BelV} {e : Int} {v : Value} {w : World} (h : belE lo V e v w) (hl : lo' ≤ lo) : belE lo' V e v w := by
  obtain ⟨q, cap, hv, hT, hlo⟩ := h
  exact ⟨q, cap, hv, hT, fun A hA => Nat.le_trans hl (hlo A hA)⟩
theorem obs_len (b : BldV) (car : Int) (s : BelV) (o : ObsV) : (observeV b car s o).du.length ≤ s.du.length := by
  unfold observeV
  split
  · show (agedV b car s (showsV b.fl o)).du.length ≤ _
    unfold agedV
    show (if _ then [] else _ : List Duty).length ≤ _
    split
    · simp
    · exact agedL_len _ _
  · simp [zeroB]
theorem inj_len (b : BldV) (car : Int) (s : BelV) (c : CS) : (injectV b car s c).du.length ≤ 64 := by
  unfold injectV
  split
  · exact Nat.le_trans (injectL_len _ _ _) (listC_len _)
  · simp [zeroB]
def foldV (b : BldV) (l : List MarkV) : BelV := l.foldl (fun s m => injectV b 0 (observeV b 0 s m.2) m.1) newB
theorem foldV_snoc (b : BldV) (l : List MarkV) (i : Nat) (m : MarkV) (h : l[i]? = some m) : foldV b (l.take (i + 1)) = injectV b 0 (observeV b 0 (foldV b (l.take i)) m.2) m.1 := by
  rw [List.take_add_one, h]
  simp [foldV]
theorem belE_form {lo : Nat} {V : BelV} {e : Int} {v : Value} {w : World} (h : belE lo V e v w) : ∃ q cap, v = .tuple #[cvS V q cap, .int .i64 e] := by
  obtain ⟨q, cap, hv, _⟩ := h
  exact ⟨q, cap, hv⟩
theorem belE_out {lo cap : Nat} {V : BelV} {e : Int} {q : Option Addr} {w : World} (h : belE lo V e (.tuple #[cvS V q cap, .int .i64 e]) w) : RdD w q V.du ∧ ∀ A, q = some A → lo ≤ A.block := by
  obtain ⟨q', cap', hv, hr, hl⟩ := h
  obtain ⟨rfl, rfl⟩ : q = q' ∧ cap = cap' := by simpa [cvS] using hv
  exact ⟨hr, hl⟩
set_option maxHeartbeats 400000 in
theorem refNew_any (w : World) :
    Calls Try.prog 18 #[] w fun e w' => e = .returned (cvS newB none 0) ∧ Below w.heap.size w w' := by
  go_enter Try.func18, Try.ntmps18
  go_wp2_with fail
  have B := Blk.new w [.int .i64 (-1), .int .i64 0, .int .i64 0, .slice none 0 0, .int .i64 0, .bool false] 35
  have r0 := (B).cell 0 _ rfl
  have r1 := (B).cell 1 _ rfl
  have r2 := (B).cell 2 _ rfl
  have r3 := (B).cell 3 _ rfl
  have r4 := (B).cell 4 _ rfl
  have r5 := (B).cell 5 _ rfl
  exact bodyPost_ret (v := cvS newB none 0) (by simp [results, Try.results18, go_sem, newB, r0, r1, r2, r3, r4, r5]) rfl ⟨rfl, below1' _ _⟩
set_option maxHeartbeats 4000000 in
set_option maxRecDepth 100000 in
theorem mkState_any (b : BldV) (q : Option Addr) (cap : Nat) (l : List Nat) (ql : Option Addr) (capl : Nat) (w : World) (hl : l.length ≤ maxLen) (hlen : b.cars.length ≤ 1000) (h2 : 2 ≤ b.fl) (h32 : b.fl ≤ 32) (hsl : ∀ c ∈ b.cars, -9223372036854775808 ≤ c.sl ∧ c.sl < 9223372036854775807) (hr : RdC w q b.cars) (hu : RdU w ql l) :
    Calls Try.prog 14 #[cvB b q cap, .slice ql l.length capl] w fun e w' => ∃ (L : List MarkV) (q' : Option Addr) (cap' : Nat), e = .returned (cvS (foldV b L) q' cap') ∧ L.length ≤ 150 ∧ (∀ m ∈ L, obsB b.fl m.2 = true) ∧ (foldV b L).du.length ≤ 64 ∧ RdD w' q' (foldV b L).du ∧ (∀ A, q' = some A → w.heap.size ≤ A.block) ∧ Below w.heap.size w w' := by
  have X0 : Blk (w.alloc (.cells #[.int .i64 b.fl, .int .i64 b.deb, .int .i64 b.room, .int .i64 b.park, .float .f64 b.em, .float .f64 b.fu, .float .f64 b.ov, .slice q b.cars.length cap] 27)) w.heap.size [.int .i64 b.fl, .int .i64 b.deb, .int .i64 b.room, .int .i64 b.park, .float .f64 b.em, .float .f64 b.fu, .float .f64 b.ov, .slice q b.cars.length cap] := by
    have hx := Blk.new w [.int .i64 b.fl, .int .i64 b.deb, .int .i64 b.room, .int .i64 b.park, .float .f64 b.em, .float .f64 b.fu, .float .f64 b.ov, .slice q b.cars.length cap] 27
    exact hx
  replace X0 : Blk ((w.alloc (.cells #[.int .i64 b.fl, .int .i64 b.deb, .int .i64 b.room, .int .i64 b.park, .float .f64 b.em, .float .f64 b.fu, .float .f64 b.ov, .slice q b.cars.length cap] 27)).alloc (.cells #[.int .i64 0, .int .i64 0, .int .i64 0, .slice none 0 0, .int .i64 0, .bool false] 35)) w.heap.size [.int .i64 b.fl, .int .i64 b.deb, .int .i64 b.room, .int .i64 b.park, .float .f64 b.em, .float .f64 b.fu, .float .f64 b.ov, .slice q b.cars.length cap] := X0.next (below1' _ _)
  have X1 : Blk ((w.alloc (.cells #[.int .i64 b.fl, .int .i64 b.deb, .int .i64 b.room, .int .i64 b.park, .float .f64 b.em, .float .f64 b.fu, .float .f64 b.ov, .slice q b.cars.length cap] 27)).alloc (.cells #[.int .i64 0, .int .i64 0, .int .i64 0, .slice none 0 0, .int .i64 0, .bool false] 35)) (w.heap.size + 1) [.int .i64 0, .int .i64 0, .int .i64 0, .slice none 0 0, .int .i64 0, .bool false] := by
    have hx := Blk.new (w.alloc (.cells #[.int .i64 b.fl, .int .i64 b.deb, .int .i64 b.room, .int .i64 b.park, .float .f64 b.em, .float .f64 b.fu, .float .f64 b.ov, .slice q b.cars.length cap] 27)) [.int .i64 0, .int .i64 0, .int .i64 0, .slice none 0 0, .int .i64 0, .bool false] 35
    rw [World.size_alloc] at hx
    exact hx
  have XW : Below w.heap.size w (w.alloc (.cells #[.int .i64 b.fl, .int .i64 b.deb, .int .i64 b.room, .int .i64 b.park, .float .f64 b.em, .float .f64 b.fu, .float .f64 b.ov, .slice q b.cars.length cap] 27)) := below1' w _
  replace XW : Below w.heap.size w ((w.alloc (.cells #[.int .i64 b.fl, .int .i64 b.deb, .int .i64 b.room, .int .i64 b.park, .float .f64 b.em, .float .f64 b.fu, .float .f64 b.ov, .slice q b.cars.length cap] 27)).alloc (.cells #[.int .i64 0, .int .i64 0, .int .i64 0, .slice none 0 0, .int .i64 0, .bool false] 35)) := XW.trans ((below1' _ _).mono XW.size)
  have HWW := Lib.hid XW; have HX0 := Lib.hid X0; have HX1 := Lib.hid X1
  clear XW X0 X1
  have HR := Lib.hid (hr.next HWW.out); have HU := Lib.hid (hu.next HWW.out); have HSL := Lib.hid hsl
  have HL1 := Lib.hid hlen; have HL2 := Lib.hid hl
  clear hr hu hsl hlen
  obtain ⟨nl, hnl⟩ : ∃ n, n = l.length := ⟨_, rfl⟩
  have HNL := Lib.hid hnl
  rw [← hnl] at hl ⊢
  clear hnl
  go_enter Try.func14, Try.ntmps14
  go_upto_region 1 with fail
  generalize ((w.alloc (.cells #[.int .i64 b.fl, .int .i64 b.deb, .int .i64 b.room, .int .i64 b.park, .float .f64 b.em, .float .f64 b.fu, .float .f64 b.ov, .slice q b.cars.length cap] 27)).alloc (.cells #[.int .i64 0, .int .i64 0, .int .i64 0, .slice none 0 0, .int .i64 0, .bool false] 35)) = w0 at *
  generalize hg1 : w.heap.size + 1 = g1 at *
  have HG1 := Lib.hid hg1; have hq1 : w.heap.size + 1 ≤ g1 := by omega
  clear hg1
  have HW := Lib.hid (Below.refl w0.heap.size w0)
  have hz0 := HX0.out.lt; have hz1 := HX1.out.lt
  have hG1 : w.heap.size ≤ g1 := by omega
  have k0 := (HX0.out).cell 0 _ rfl
  have k1 := (HX0.out).cell 1 _ rfl
  have k2 := (HX0.out).cell 2 _ rfl
  have k3 := (HX0.out).cell 3 _ rfl
  have k4 := (HX0.out).cell 4 _ rfl
  have k5 := (HX0.out).cell 5 _ rfl
  have k6 := (HX0.out).cell 6 _ rfl
  have k7 := (HX0.out).cell 7 _ rfl
  have c0 := base_cell HW.out
  go_wp2_with fail
  refine (refNew_any _).mono ?_
  rintro e w1 ⟨rfl, hbn⟩
  have HWn := Lib.hid (HW.out.trans (hbn.mono HW.out.size))
  try clear c0
  clear HW hbn
  have HW := HWn
  clear HWn
  have c0 := base_cell HW.out
  go_upto_region 2 with fail
  have B5 := Blk.new w1 [.int .i64 newB.fl, .int .i64 newB.dir, .int .i64 newB.door, .slice none newB.du.length 0, .int .i64 newB.still, .bool newB.late] 35
  have hb5 := below1' w1 (.cells #[.int .i64 newB.fl, .int .i64 newB.dir, .int .i64 newB.door, .slice none newB.du.length 0, .int .i64 newB.still, .bool newB.late] 35)
  have HW2 := Lib.hid (HW.out.trans (hb5.mono HW.out.size))
  have hg5 : w0.heap.size ≤ w1.heap.size := HW.out.size
  have HB5 := Lib.hid B5
  clear B5 hb5 HW c0
  change Hid (Blk (w1.alloc (.cells #[.int .i64 newB.fl, .int .i64 newB.dir, .int .i64 newB.door, .slice none newB.du.length 0, .int .i64 newB.still, .bool newB.late] 35)) w1.heap.size _) at HB5
  generalize w1.alloc (.cells #[.int .i64 newB.fl, .int .i64 newB.dir, .int .i64 newB.door, .slice none newB.du.length 0, .int .i64 newB.still, .bool newB.late] 35) = w2 at *
  generalize w1.heap.size = g5 at *
  have c0 := base_cell HW2.out
  have ht := trace_any b q cap l ql capl w2 HL2.out h2 h32 (HU.out.next HW2.out)
  rw [← HNL.out] at ht
  have HTR := Lib.hid ht
  clear ht
  go_wp2_with fail
  refine HTR.out.mono ?_
  rintro e w3 ⟨v, L, rfl, hL150, hobs, hown, hb3⟩
  obtain ⟨qm, capm, rfl⟩ := row_form hown
  have hz5 : g5 < w2.heap.size := HB5.out.lt
  have hqm : ∀ A, qm = some A → A.block ≠ g5 := fun A hA => by have := row_lo hown A hA; omega
  have HQM := Lib.hid hqm
  have HM := Lib.hid (rdM_of_owns hown rfl)
  have HW3 := Lib.hid (HW2.out.trans (hb3.mono HW2.out.size))
  have HB6 := Lib.hid (HB5.out.next hb3)
  have HOB := Lib.hid hobs
  have hz53 : g5 < w3.heap.size := HB6.out.lt
  have hG3 : w0.heap.size ≤ w3.heap.size := HW3.out.size
  clear hobs hown hb3 hqm HTR HB5 HW2 c0 k0 k1 k2 k3 k4 k5 k6 k7 HU
  obtain ⟨n, hn⟩ : ∃ n, n = L.length := ⟨_, rfl⟩
  have HN := Lib.hid hn
  rw [← hn] at hL150 ⊢
  clear hn
  go_wp2_with fail
  go_loopw [7] (fun v7 wr => ∃ (i : Nat) (q9 : Option Addr) (cap9 : Nat), i ≤ n ∧ v7 = .int .i64 i ∧ (foldV b (L.take i)).du.length ≤ 64 ∧ Blk wr g5 ((foldV b (L.take i)).cells q9 cap9) ∧ RdD wr q9 (foldV b (L.take i)).du ∧ (∀ A, q9 = some A → g5 + 1 ≤ A.block) ∧ Exc g5 w3 wr) (fun v _ => n - (intOf v).toNat)
  case atStart => exact ⟨0, none, 0, by omega, rfl, by simp [foldV, newB], HB6.out, (fun i d h => by simp [foldV, newB] at h), (fun A h => by cases h), Exc.refl _ _⟩
  case round =>
    clear HB6
    obtain ⟨i, q9, cap9, hi', rfl, h64, hblk, hrd, hlo9, hexc⟩ := hrel
    have HWr := Lib.hid (HW3.out.trans (hexc.below hg5 hG3))
    have HE := Lib.hid hexc
    have HS := Lib.hid hblk
    have HD := Lib.hid hrd
    have HV64 := Lib.hid h64
    clear hexc hblk hrd h64
    by_cases hlt : i < n
    · have hd : decide ((i : Int) < (n : Int)) = true := by simp; omega
      obtain ⟨m, hm⟩ : ∃ m, L[i]? = some m := ⟨_, List.getElem?_eq_getElem (by rw [← HN.out]; exact hlt)⟩
      have HFS := Lib.hid (foldV_snoc b L i m hm)
      generalize hV : foldV b (L.take i) = V at *
      clear hV
      obtain ⟨A, hqA, hA, r0, r1, r2, r3, r4⟩ := (HM.out.exc HE.out HQM.out).reg hm
      have hAne : A.block ≠ g5 := HQM.out A hqA
      subst hqA
      have hiw : (0 : Int) ≤ (i : Int) := by omega
      have hiw' : (i : Int) < (n : Int) := by omega
      have HV64b : Hid ((observeV b 0 V m.2).du.length ≤ 64) := Lib.hid (Nat.le_trans (obs_len b 0 V m.2) HV64.out)
      go_upto_region 6 with fail
      have t0 := (HX0.out.later HWr.out hz0).reg 0 _ rfl
      have t1 := (HX0.out.later HWr.out hz0).reg 1 _ rfl
      have t2 := (HX0.out.later HWr.out hz0).reg 2 _ rfl
      have t3 := (HX0.out.later HWr.out hz0).reg 3 _ rfl
      have t4 := (HX0.out.later HWr.out hz0).reg 4 _ rfl
      have t5 := (HX0.out.later HWr.out hz0).reg 5 _ rfl
      have t6 := (HX0.out.later HWr.out hz0).reg 6 _ rfl
      have t7 := (HX0.out.later HWr.out hz0).reg 7 _ rfl
      have u0 := (HS.out).reg 0 _ rfl
      have u1 := (HS.out).reg 1 _ rfl
      have u2 := (HS.out).reg 2 _ rfl
      have u3 := (HS.out).reg 3 _ rfl
      have u4 := (HS.out).reg 4 _ rfl
      have u5 := (HS.out).reg 5 _ rfl
      have hlo : g5 + 1 ≤ wr.heap.size := HS.out.lt
      have HRr := Lib.hid (HR.out.next HWr.out)
      (refine Grow.wp_region_pair 8 (relPlan 7 (belE (g5 + 1) (observeV b 0 V m.2) (errV (obsOk b 0 V m.2)))) (relPlan_stable 7 _ (belE_stable (g5 + 1) (observeV b 0 V m.2) (errV (obsOk b 0 V m.2)))) (by kernel_rfl) (by kernel_rfl) rfl ⟨rfl, rfl, rfl, rfl, rfl⟩ (fun d h1 h2 => by cases h1; cases h2) ?_; intro opsq Hopsq; simp only [List.take_succ_cons, List.take_zero])
      repeat (first | (refine Grow.lex_move rfl ?_ rfl ?_; (· first | exact Grow.wanted_none | (rw [Hopsq.out]; rfl)); intro K hK; simp only [Grow.put_lit, Grow.setAt, Grow.eval_lit, Grow.ev]; refine hK _ _ ?_; clear hK K) | (refine Grow.lex_assign rfl ?_ rfl ?_; (· first | exact Grow.wanted_none | (rw [Hopsq.out]; rfl)); intro K hK; simp only [Grow.put_lit, Grow.setAt, Grow.eval_lit, Grow.ev]; refine hK _ _ ?_; clear hK K) | (refine Grow.lex_plain rfl rfl ?_ rfl ?_; (· first | exact Grow.wanted_none | (rw [Hopsq.out]; rfl)); apply Exists.intro; refine ⟨fun wq hCq _ => ?_, ?_⟩; (· (go_wp2_with fail; refine ⟨rfl, Below.refl _ _, ?_⟩; simp only [Grow.getD_lit, Grow.nth]; rfl)); intro K hK; simp only [Grow.put_lit, Grow.setAt]; refine hK _ _ ?_; clear hK K) | (refine Grow.lex_nilCheck rfl rfl ?_ rfl ?_; (· first | exact Grow.wanted_none | (rw [Hopsq.out]; rfl)); intro K hK; simp only [Grow.put_lit, Grow.setAt]; refine hK _ _ ?_; clear hK K) | (refine Grow.lex_skip ?_ ?_; (· (rw [Hopsq.out]; rfl)); intro K hK; simp only [Grow.put_lit, Grow.setAt]; refine hK _ _ ?_; clear hK K))
      (refine Grow.lex_callR (r := (fun _ v w => belE (g5 + 1) (observeV b 0 V m.2) (errV (obsOk b 0 V m.2)) v w)) ?_ rfl ?_; (· first | exact Grow.wanted_none | (rw [Hopsq.out]; rfl)); apply Exists.intro; apply Exists.intro; refine ⟨fun wq => ?_, ?_, ?_⟩; (· (go_simp; exact ⟨rfl, rfl⟩)); (· (intro wq hCq hKq; exact (refObserve_any b q cap 0 (V) q9 cap9 m.2 _ HL1.out (Nat.le_trans HV64.out (by omega)) HSL.out (HRr.out.next (Grow.Cl.base hCq)) (HD.out.next (Grow.Cl.base hCq))).mono (fun e w' ⟨v, he, hb, hR⟩ => ⟨v, he, hb, belE_lo hR (Nat.le_trans hlo (Grow.Cl.base hCq).size)⟩))); intro vq hWq; obtain ⟨_, _, hTT⟩ := hWq; obtain ⟨q1, cap1, hvq⟩ := belE_form (Grow.Holds.of_upd hTT).2; subst hvq; clear hTT; intro K hK; simp only [Grow.put_lit, Grow.setAt]; refine hK _ _ ?_; clear hK K)
      repeat (first | (refine Grow.lex_move rfl ?_ rfl ?_; (· first | exact Grow.wanted_none | (rw [Hopsq.out]; rfl)); intro K hK; simp only [Grow.put_lit, Grow.setAt, Grow.eval_lit, Grow.ev]; refine hK _ _ ?_; clear hK K) | (refine Grow.lex_assign rfl ?_ rfl ?_; (· first | exact Grow.wanted_none | (rw [Hopsq.out]; rfl)); intro K hK; simp only [Grow.put_lit, Grow.setAt, Grow.eval_lit, Grow.ev]; refine hK _ _ ?_; clear hK K) | (refine Grow.lex_plain rfl rfl ?_ rfl ?_; (· first | exact Grow.wanted_none | (rw [Hopsq.out]; rfl)); apply Exists.intro; refine ⟨fun wq hCq _ => ?_, ?_⟩; (· (go_wp2_with fail; refine ⟨rfl, Below.refl _ _, ?_⟩; simp only [Grow.getD_lit, Grow.nth]; rfl)); intro K hK; simp only [Grow.put_lit, Grow.setAt]; refine hK _ _ ?_; clear hK K) | (refine Grow.lex_nilCheck rfl rfl ?_ rfl ?_; (· first | exact Grow.wanted_none | (rw [Hopsq.out]; rfl)); intro K hK; simp only [Grow.put_lit, Grow.setAt]; refine hK _ _ ?_; clear hK K) | (refine Grow.lex_skip ?_ ?_; (· (rw [Hopsq.out]; rfl)); intro K hK; simp only [Grow.put_lit, Grow.setAt]; refine hK _ _ ?_; clear hK K))
      refine Grow.lex_nil ?_
      intro w4 hb4 hTq
      obtain ⟨hrd1, hlo1⟩ := belE_out (Grow.Holds.of_upd hTq).2
      replace hb4 := Grow.Cl.base hb4
      clear hTq Hopsq opsq t0 t1 t2 t3 t4 t5 t6 t7 u0 u1 u2 u3 u4 u5
      have B4 := HS.out.next hb4
      have y0 := (B4).cell 0 _ rfl
      have y1 := (B4).cell 1 _ rfl
      have y2 := (B4).cell 2 _ rfl
      have y3 := (B4).cell 3 _ rfl
      have y4 := (B4).cell 4 _ rfl
      have y5 := (B4).cell 5 _ rfl
      have f0 := B4.fr 0; have f1 := B4.fr 1; have f2 := B4.fr 2; have f3 := B4.fr 3; have f4 := B4.fr 4; have f5 := B4.fr 5
      refine ⟨⟨.tuple #[cvS (observeV b 0 V m.2) q1 cap1, .int .i64 (errV (obsOk b 0 V m.2))], cvS (observeV b 0 V m.2) q1 cap1, .int .i64 (errV (obsOk b 0 V m.2)), ((((((w4.setCell ⟨g5, 0, none⟩ (.int .i64 (observeV b 0 V m.2).fl)).setCell ⟨g5, 1, none⟩ (.int .i64 (observeV b 0 V m.2).dir)).setCell ⟨g5, 2, none⟩ (.int .i64 (observeV b 0 V m.2).door)).setCell ⟨g5, 3, none⟩ (.slice q1 (observeV b 0 V m.2).du.length cap1)).setCell ⟨g5, 4, none⟩ (.int .i64 (observeV b 0 V m.2).still)).setCell ⟨g5, 5, none⟩ (.bool (observeV b 0 V m.2).late)), ?_, ?_, ?_, ?_, ?_, ?_, ?_, ?_⟩⟩
      · first | rfl | (go_simp; done) | (go_simp; rfl)
      · (intro W; simp only [Grow.put_lit, Grow.setAt]; first | rfl | (go_simp; done) | (go_simp; rfl))
      · (intro W; simp only [Grow.put_lit, Grow.setAt]; first | rfl | (go_simp; done) | (go_simp; rfl))
      · (intro W; simp only [Grow.put_lit, Grow.setAt]; first | rfl | (go_simp; done) | (go_simp; rfl))
      · (intro W; simp only [Grow.put_lit, Grow.setAt]; first | rfl | (go_simp; done) | (go_simp; rfl))
      · (simp only [Grow.put_lit, Grow.setAt]; refine Grow.run_of_wp rfl ?_; go_wp2_with fail; try exact ⟨rfl, rfl⟩)
      · (simp only [Grow.put_lit, Grow.setAt]; refine Grow.run_of_wp rfl ?_; go_wp2_with fail; try exact ⟨rfl, rfl⟩)
      simp only [Grow.put_lit, Grow.setAt]
      clear y0 y1 y2 y3 y4 y5 f0 f1 f2 f3 f4 f5
      have HSa := Lib.hid ((((((B4.set 0 (.int .i64 (observeV b 0 V m.2).fl)).set 1 (.int .i64 (observeV b 0 V m.2).dir)).set 2 (.int .i64 (observeV b 0 V m.2).door)).set 3 (.slice q1 (observeV b 0 V m.2).du.length cap1)).set 4 (.int .i64 (observeV b 0 V m.2).still)).set 5 (.bool (observeV b 0 V m.2).late))
      have HEa := Lib.hid (((((((HE.out.step hb4).set 0 (.int .i64 (observeV b 0 V m.2).fl)).set 1 (.int .i64 (observeV b 0 V m.2).dir)).set 2 (.int .i64 (observeV b 0 V m.2).door)).set 3 (.slice q1 (observeV b 0 V m.2).du.length cap1)).set 4 (.int .i64 (observeV b 0 V m.2).still)).set 5 (.bool (observeV b 0 V m.2).late))
      have hne5 : ∀ A, q1 = some A → A.block ≠ g5 := fun A hA => by have := hlo1 A hA; omega
      have HDa := Lib.hid ((((((hrd1.set (g := g5) (i := 0) (u := (.int .i64 (observeV b 0 V m.2).fl)) hne5).set (g := g5) (i := 1) (u := (.int .i64 (observeV b 0 V m.2).dir)) hne5).set (g := g5) (i := 2) (u := (.int .i64 (observeV b 0 V m.2).door)) hne5).set (g := g5) (i := 3) (u := (.slice q1 (observeV b 0 V m.2).du.length cap1)) hne5).set (g := g5) (i := 4) (u := (.int .i64 (observeV b 0 V m.2).still)) hne5).set (g := g5) (i := 5) (u := (.bool (observeV b 0 V m.2).late)) hne5)
      have HLOa := Lib.hid hlo1
      clear B4 hb4 hrd1 hlo1 hne5 HRr hlo
      generalize ((((((w4.setCell ⟨g5, 0, none⟩ (.int .i64 (observeV b 0 V m.2).fl)).setCell ⟨g5, 1, none⟩ (.int .i64 (observeV b 0 V m.2).dir)).setCell ⟨g5, 2, none⟩ (.int .i64 (observeV b 0 V m.2).door)).setCell ⟨g5, 3, none⟩ (.slice q1 (observeV b 0 V m.2).du.length cap1)).setCell ⟨g5, 4, none⟩ (.int .i64 (observeV b 0 V m.2).still)).setCell ⟨g5, 5, none⟩ (.bool (observeV b 0 V m.2).late)) = w5 at *
      have HWra := Lib.hid (HW3.out.trans (HEa.out.below hg5 hG3))
      change Hid (Blk w5 g5 [.int .i64 (observeV b 0 V m.2).fl, .int .i64 (observeV b 0 V m.2).dir, .int .i64 (observeV b 0 V m.2).door, .slice q1 (observeV b 0 V m.2).du.length cap1, .int .i64 (observeV b 0 V m.2).still, .bool (observeV b 0 V m.2).late]) at HSa
      obtain ⟨A2, hqA2, hA2, p0, p1, p2, p3, p4⟩ := (HM.out.exc HEa.out HQM.out).reg hm
      obtain rfl : A = A2 := by simpa using hqA2
      generalize hV1 : observeV b 0 V m.2 = V1 at *
      clear hV1 hqA2 r0 r1 r2 r3 r4 HE HS HWr HD
      go_upto_region 7 with fail
      have t0 := (HX0.out.later HWra.out hz0).reg 0 _ rfl
      have t1 := (HX0.out.later HWra.out hz0).reg 1 _ rfl
      have t2 := (HX0.out.later HWra.out hz0).reg 2 _ rfl
      have t3 := (HX0.out.later HWra.out hz0).reg 3 _ rfl
      have t4 := (HX0.out.later HWra.out hz0).reg 4 _ rfl
      have t5 := (HX0.out.later HWra.out hz0).reg 5 _ rfl
      have t6 := (HX0.out.later HWra.out hz0).reg 6 _ rfl
      have t7 := (HX0.out.later HWra.out hz0).reg 7 _ rfl
      have u0 := (HSa.out).reg 0 _ rfl
      have u1 := (HSa.out).reg 1 _ rfl
      have u2 := (HSa.out).reg 2 _ rfl
      have u3 := (HSa.out).reg 3 _ rfl
      have u4 := (HSa.out).reg 4 _ rfl
      have u5 := (HSa.out).reg 5 _ rfl
      have hlo : g5 + 1 ≤ w5.heap.size := HSa.out.lt
      have HRr := Lib.hid (HR.out.next HWra.out)
      (refine Grow.wp_region_pair 8 (relPlan 7 (belE (g5 + 1) (injectV b 0 V1 m.1) (errV (stateB b 0 V1)))) (relPlan_stable 7 _ (belE_stable (g5 + 1) (injectV b 0 V1 m.1) (errV (stateB b 0 V1)))) (by kernel_rfl) (by kernel_rfl) rfl ⟨rfl, rfl, rfl, rfl, rfl⟩ (fun d h1 h2 => by cases h1; cases h2) ?_; intro opsq Hopsq; simp only [List.take_succ_cons, List.take_zero])
      repeat (first | (refine Grow.lex_move rfl ?_ rfl ?_; (· first | exact Grow.wanted_none | (rw [Hopsq.out]; rfl)); intro K hK; simp only [Grow.put_lit, Grow.setAt, Grow.eval_lit, Grow.ev]; refine hK _ _ ?_; clear hK K) | (refine Grow.lex_assign rfl ?_ rfl ?_; (· first | exact Grow.wanted_none | (rw [Hopsq.out]; rfl)); intro K hK; simp only [Grow.put_lit, Grow.setAt, Grow.eval_lit, Grow.ev]; refine hK _ _ ?_; clear hK K) | (refine Grow.lex_plain rfl rfl ?_ rfl ?_; (· first | exact Grow.wanted_none | (rw [Hopsq.out]; rfl)); apply Exists.intro; refine ⟨fun wq hCq _ => ?_, ?_⟩; (· (go_wp2_with fail; refine ⟨rfl, Below.refl _ _, ?_⟩; simp only [Grow.getD_lit, Grow.nth]; rfl)); intro K hK; simp only [Grow.put_lit, Grow.setAt]; refine hK _ _ ?_; clear hK K) | (refine Grow.lex_nilCheck rfl rfl ?_ rfl ?_; (· first | exact Grow.wanted_none | (rw [Hopsq.out]; rfl)); intro K hK; simp only [Grow.put_lit, Grow.setAt]; refine hK _ _ ?_; clear hK K) | (refine Grow.lex_skip ?_ ?_; (· (rw [Hopsq.out]; rfl)); intro K hK; simp only [Grow.put_lit, Grow.setAt]; refine hK _ _ ?_; clear hK K))
      (refine Grow.lex_callR (r := (fun _ v w => belE (g5 + 1) (injectV b 0 V1 m.1) (errV (stateB b 0 V1)) v w)) ?_ rfl ?_; (· first | exact Grow.wanted_none | (rw [Hopsq.out]; rfl)); apply Exists.intro; apply Exists.intro; refine ⟨fun wq => ?_, ?_, ?_⟩; (· (go_simp; exact ⟨rfl, rfl⟩)); (· (intro wq hCq hKq; exact (refInject_any b q cap 0 (V1) q1 cap1 m.1 _ HL1.out (Nat.le_trans HV64b.out (by omega)) HSL.out (HRr.out.next (Grow.Cl.base hCq)) (HDa.out.next (Grow.Cl.base hCq))).mono (fun e w' ⟨v, he, hb, hR⟩ => ⟨v, he, hb, belE_lo hR (Nat.le_trans hlo (Grow.Cl.base hCq).size)⟩))); intro vq hWq; obtain ⟨_, _, hTT⟩ := hWq; obtain ⟨q2, cap2, hvq⟩ := belE_form (Grow.Holds.of_upd hTT).2; subst hvq; clear hTT; intro K hK; simp only [Grow.put_lit, Grow.setAt]; refine hK _ _ ?_; clear hK K)
      repeat (first | (refine Grow.lex_move rfl ?_ rfl ?_; (· first | exact Grow.wanted_none | (rw [Hopsq.out]; rfl)); intro K hK; simp only [Grow.put_lit, Grow.setAt, Grow.eval_lit, Grow.ev]; refine hK _ _ ?_; clear hK K) | (refine Grow.lex_assign rfl ?_ rfl ?_; (· first | exact Grow.wanted_none | (rw [Hopsq.out]; rfl)); intro K hK; simp only [Grow.put_lit, Grow.setAt, Grow.eval_lit, Grow.ev]; refine hK _ _ ?_; clear hK K) | (refine Grow.lex_plain rfl rfl ?_ rfl ?_; (· first | exact Grow.wanted_none | (rw [Hopsq.out]; rfl)); apply Exists.intro; refine ⟨fun wq hCq _ => ?_, ?_⟩; (· (go_wp2_with fail; refine ⟨rfl, Below.refl _ _, ?_⟩; simp only [Grow.getD_lit, Grow.nth]; rfl)); intro K hK; simp only [Grow.put_lit, Grow.setAt]; refine hK _ _ ?_; clear hK K) | (refine Grow.lex_nilCheck rfl rfl ?_ rfl ?_; (· first | exact Grow.wanted_none | (rw [Hopsq.out]; rfl)); intro K hK; simp only [Grow.put_lit, Grow.setAt]; refine hK _ _ ?_; clear hK K) | (refine Grow.lex_skip ?_ ?_; (· (rw [Hopsq.out]; rfl)); intro K hK; simp only [Grow.put_lit, Grow.setAt]; refine hK _ _ ?_; clear hK K))
      refine Grow.lex_nil ?_
      intro w6 hb4 hTq
      obtain ⟨hrd1, hlo1⟩ := belE_out (Grow.Holds.of_upd hTq).2
      replace hb4 := Grow.Cl.base hb4
      clear hTq Hopsq opsq t0 t1 t2 t3 t4 t5 t6 t7 u0 u1 u2 u3 u4 u5
      have B4 := HSa.out.next hb4
      have y0 := (B4).cell 0 _ rfl
      have y1 := (B4).cell 1 _ rfl
      have y2 := (B4).cell 2 _ rfl
      have y3 := (B4).cell 3 _ rfl
      have y4 := (B4).cell 4 _ rfl
      have y5 := (B4).cell 5 _ rfl
      have f0 := B4.fr 0; have f1 := B4.fr 1; have f2 := B4.fr 2; have f3 := B4.fr 3; have f4 := B4.fr 4; have f5 := B4.fr 5
      refine ⟨⟨.tuple #[cvS (injectV b 0 V1 m.1) q2 cap2, .int .i64 (errV (stateB b 0 V1))], cvS (injectV b 0 V1 m.1) q2 cap2, .int .i64 (errV (stateB b 0 V1)), ((((((w6.setCell ⟨g5, 0, none⟩ (.int .i64 (injectV b 0 V1 m.1).fl)).setCell ⟨g5, 1, none⟩ (.int .i64 (injectV b 0 V1 m.1).dir)).setCell ⟨g5, 2, none⟩ (.int .i64 (injectV b 0 V1 m.1).door)).setCell ⟨g5, 3, none⟩ (.slice q2 (injectV b 0 V1 m.1).du.length cap2)).setCell ⟨g5, 4, none⟩ (.int .i64 (injectV b 0 V1 m.1).still)).setCell ⟨g5, 5, none⟩ (.bool (injectV b 0 V1 m.1).late)), ?_, ?_, ?_, ?_, ?_, ?_, ?_, ?_⟩⟩
      · first | rfl | (go_simp; done) | (go_simp; rfl)
      · (intro W; simp only [Grow.put_lit, Grow.setAt]; first | rfl | (go_simp; done) | (go_simp; rfl))
      · (intro W; simp only [Grow.put_lit, Grow.setAt]; first | rfl | (go_simp; done) | (go_simp; rfl))
      · (intro W; simp only [Grow.put_lit, Grow.setAt]; first | rfl | (go_simp; done) | (go_simp; rfl))
      · (intro W; simp only [Grow.put_lit, Grow.setAt]; first | rfl | (go_simp; done) | (go_simp; rfl))
      · (simp only [Grow.put_lit, Grow.setAt]; refine Grow.run_of_wp rfl ?_; go_wp2_with fail; try exact ⟨rfl, rfl⟩)
      · (simp only [Grow.put_lit, Grow.setAt]; refine Grow.run_of_wp rfl ?_; go_wp2_with fail; try exact ⟨rfl, rfl⟩)
      simp only [Grow.put_lit, Grow.setAt]
      clear y0 y1 y2 y3 y4 y5 f0 f1 f2 f3 f4 f5
      have HSb := Lib.hid ((((((B4.set 0 (.int .i64 (injectV b 0 V1 m.1).fl)).set 1 (.int .i64 (injectV b 0 V1 m.1).dir)).set 2 (.int .i64 (injectV b 0 V1 m.1).door)).set 3 (.slice q2 (injectV b 0 V1 m.1).du.length cap2)).set 4 (.int .i64 (injectV b 0 V1 m.1).still)).set 5 (.bool (injectV b 0 V1 m.1).late))
      have HEb := Lib.hid (((((((HEa.out.step hb4).set 0 (.int .i64 (injectV b 0 V1 m.1).fl)).set 1 (.int .i64 (injectV b 0 V1 m.1).dir)).set 2 (.int .i64 (injectV b 0 V1 m.1).door)).set 3 (.slice q2 (injectV b 0 V1 m.1).du.length cap2)).set 4 (.int .i64 (injectV b 0 V1 m.1).still)).set 5 (.bool (injectV b 0 V1 m.1).late))
      have hne5 : ∀ A, q2 = some A → A.block ≠ g5 := fun A hA => by have := hlo1 A hA; omega
      have HDb := Lib.hid ((((((hrd1.set (g := g5) (i := 0) (u := (.int .i64 (injectV b 0 V1 m.1).fl)) hne5).set (g := g5) (i := 1) (u := (.int .i64 (injectV b 0 V1 m.1).dir)) hne5).set (g := g5) (i := 2) (u := (.int .i64 (injectV b 0 V1 m.1).door)) hne5).set (g := g5) (i := 3) (u := (.slice q2 (injectV b 0 V1 m.1).du.length cap2)) hne5).set (g := g5) (i := 4) (u := (.int .i64 (injectV b 0 V1 m.1).still)) hne5).set (g := g5) (i := 5) (u := (.bool (injectV b 0 V1 m.1).late)) hne5)
      have HLOb := Lib.hid hlo1
      clear B4 hb4 hrd1 hlo1 hne5 HRr hlo
      generalize ((((((w6.setCell ⟨g5, 0, none⟩ (.int .i64 (injectV b 0 V1 m.1).fl)).setCell ⟨g5, 1, none⟩ (.int .i64 (injectV b 0 V1 m.1).dir)).setCell ⟨g5, 2, none⟩ (.int .i64 (injectV b 0 V1 m.1).door)).setCell ⟨g5, 3, none⟩ (.slice q2 (injectV b 0 V1 m.1).du.length cap2)).setCell ⟨g5, 4, none⟩ (.int .i64 (injectV b 0 V1 m.1).still)).setCell ⟨g5, 5, none⟩ (.bool (injectV b 0 V1 m.1).late)) = w7 at *
      have HWrb := Lib.hid (HW3.out.trans (HEb.out.below hg5 hG3))
      change Hid (Blk w7 g5 [.int .i64 (injectV b 0 V1 m.1).fl, .int .i64 (injectV b 0 V1 m.1).dir, .int .i64 (injectV b 0 V1 m.1).door, .slice q2 (injectV b 0 V1 m.1).du.length cap2, .int .i64 (injectV b 0 V1 m.1).still, .bool (injectV b 0 V1 m.1).late]) at HSb
      go_wp2_with fail
      exact ⟨⟨i + 1, q2, cap2, by omega, by go_num, by rw [HFS.out]; exact inj_len _ _ _ _, by rw [HFS.out]; exact HSb.out, by rw [HFS.out]; exact HDb.out, HLOb.out, HEb.out⟩, by simp [intOf]; omega⟩
    · obtain rfl : i = n := by omega
      have hd : decide ((i : Int) < (i : Int)) = false := by simp
      have ht : L.take i = L := by rw [HN.out, List.take_length]
      rw [ht] at HS HD HV64
      clear ht
      have HL := Lib.hid hL150
      have HFV : Hid (foldV b L = foldV b L) := Lib.hid rfl
      obtain ⟨V, hV⟩ : ∃ V, V = foldV b L := ⟨_, rfl⟩
      have HV := Lib.hid hV
      rw [← hV] at HS HD HV64
      clear hV HFV
      have c0 := base_cell HWr.out
      have j0 := (HS.out).cell 0 _ rfl
      have j1 := (HS.out).cell 1 _ rfl
      have j2 := (HS.out).cell 2 _ rfl
      have j3 := (HS.out).cell 3 _ rfl
      have j4 := (HS.out).cell 4 _ rfl
      have j5 := (HS.out).cell 5 _ rfl
      have z0 := (HX1.out).cell 0 _ rfl
      have z1 := (HX1.out).cell 1 _ rfl
      have z2 := (HX1.out).cell 2 _ rfl
      have z3 := (HX1.out).cell 3 _ rfl
      have z4 := (HX1.out).cell 4 _ rfl
      have z5 := (HX1.out).cell 5 _ rfl
      have R1 := HX1.out.later HWr.out hz1
      have f0 := R1.fr 0; have f1 := R1.fr 1; have f2 := R1.fr 2; have f3 := R1.fr 3; have f4 := R1.fr 4; have f5 := R1.fr 5
      clear R1
      have hne : ∀ A, q9 = some A → A.block ≠ g1 := fun A hA => by have := hlo9 A hA; omega
      have HNE := Lib.hid hne
      have HLO := Lib.hid hlo9
      clear hne hlo9
      go_wp2_with fail
      have R8 := ((((((HX1.out.later HWr.out hz1).set 0 (.int .i64 V.fl)).set 1 (.int .i64 V.dir)).set 2 (.int .i64 V.door)).set 3 (.slice q9 V.du.length cap9)).set 4 (.int .i64 V.still)).set 5 (.bool V.late)
      have r0 := (R8).cell 0 _ rfl
      have r1 := (R8).cell 1 _ rfl
      have r2 := (R8).cell 2 _ rfl
      have r3 := (R8).cell 3 _ rfl
      have r4 := (R8).cell 4 _ rfl
      have r5 := (R8).cell 5 _ rfl
      exact bodyPost_ret (v := cvS V q9 cap9) (by simp [results, Try.results14, go_sem, r0, r1, r2, r3, r4, r5]) rfl ⟨L, q9, cap9, by rw [← HV.out], by rw [← HN.out]; exact HL.out, HOB.out, by rw [← HV.out]; exact HV64.out,
        by rw [← HV.out]; exact (((((HD.out.set HNE.out).set HNE.out).set HNE.out).set HNE.out).set HNE.out).set HNE.out, fun A hA => by have := HLO.out A hA; omega,
        ((((((HWW.out.trans (HWr.out.mono HWW.out.size)).setCell (p := ⟨g1, 0, none⟩) hG1 _).setCell (p := ⟨g1, 1, none⟩) hG1 _).setCell (p := ⟨g1, 2, none⟩) hG1 _).setCell (p := ⟨g1, 3, none⟩) hG1 _).setCell (p := ⟨g1, 4, none⟩) hG1 _).setCell (p := ⟨g1, 5, none⟩) hG1 _⟩
end Go.Proofs.Ytnnkldidlgiipaa
