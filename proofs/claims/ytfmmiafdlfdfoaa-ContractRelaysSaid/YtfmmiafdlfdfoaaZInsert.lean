/- The walk over slices.Insert at a row of its own: one duty, in the midst. Conditions: at most 1000 duties; the new one lies in another block. -/
import Derived.Test.YtfmmiafdlfdfoaaZInjNew
import Derived.Shelf.Spec.SlicesInsert
import Derived.Lib.AppendZerosOnto
namespace Go.Proofs.Ytfmmiafdlfdfoaa
open Go.RowKit
/-- What a copy of elements of k cells into a row leaves behind. -/
theorem run_copy_rowK {P : Program} (w : World) (dT sT ty elem : TypeId) (g o dLen dCap : Nat) (a : Addr) (sLen sCap k : Nat) (cur : Array Value) (t : TypeId) (cs : List Value)
    (hu : P.underlying dT = some (.slice elem)) (hs : (P.info? elem).map (·.size) = some k)
    (hg : w.heap[g]? = some (.cells cur t (0, 0))) (hn : Nat.min sLen dLen * k = cs.length)
    (hsrc : ∀ j v, cs[j]? = some v → w.cell? (a.add j) = some v) (hfit : o + cs.length ≤ cur.size) (h1 : ∀ v ∈ cs, v.oneCell' = true) :
    (Builtin.copy_ #[dT, sT] ty #[.slice (some ⟨g, o, none⟩) dLen dCap, .slice (some a) sLen sCap]).run P w =
      .ok (goInt (Nat.min sLen dLen)) (w.setRow g (cur.toList.take o ++ cs ++ cur.toList.drop (o + cs.length)).toArray) := by
  have hl := run_loadCells_list (P := P) w a cs hsrc
  have hst := run_storeCells_at P g o t cs 0 cur w hg (by simpa using hfit) h1
  cases hq : P.info? elem with
  | none => simp [hq] at hs
  | some i =>
    have hi : i.size = k := by simpa [hq] using hs
    have hn' : sLen.min dLen * k = cs.length := hn
    simp [Builtin.copy_, run_underlying hu, Builtin.lenOf, Builtin.firstCells, sizeOf, typeInfo, hq, hi, hn', hl, hst]
theorem splice_len (C xs : List Value) (o : Nat) (h : o + xs.length ≤ C.length) : (C.take o ++ xs ++ C.drop (o + xs.length)).length = C.length := by simp; omega
theorem splice_in (C xs : List Value) (o j : Nat) (h : o + xs.length ≤ C.length) (h1 : o ≤ j) (h2 : j < o + xs.length) : (C.take o ++ xs ++ C.drop (o + xs.length))[j]? = xs[j - o]? := by
  rw [List.append_assoc, List.getElem?_append_right (by simp; omega), List.getElem?_append_left (by simp; omega)]
  congr 1; simp; omega
theorem splice_out (C xs : List Value) (o j : Nat) (h : o + xs.length ≤ C.length) (h1 : j < o ∨ o + xs.length ≤ j) : (C.take o ++ xs ++ C.drop (o + xs.length))[j]? = C[j]? := by
  rcases h1 with h1 | h1
  · rw [List.append_assoc, List.getElem?_append_left (by simp; omega), List.getElem?_take, if_pos h1]
  · rw [List.getElem?_append_right (by simp; omega), List.getElem?_drop]
    congr 1; simp; omega
/-- The row behind both copies holds the new duty in its place. -/
theorem row_ins (X D : List Value) (o : Nat) (hX : o ≤ X.length) (R : List Value)
    (h0 : ∀ j, j < o → R[j]? = X[j]?) (h1 : ∀ j, o ≤ j → j < o + D.length → R[j]? = D[j - o]?) (h2 : ∀ j, o + D.length ≤ j → j < X.length + D.length → R[j]? = X[j - D.length]?) : R.take (X.length + D.length) = X.take o ++ D ++ X.drop o := by
  apply List.ext_getElem?
  intro j
  rw [List.getElem?_take]
  by_cases hj : j < X.length + D.length
  · rw [if_pos hj]
    by_cases ha : j < o
    · rw [h0 j ha, List.append_assoc, List.getElem?_append_left (by simp; omega), List.getElem?_take, if_pos ha]
    · by_cases hb : j < o + D.length
      · rw [h1 j (by omega) hb, List.append_assoc, List.getElem?_append_right (by simp; omega), List.getElem?_append_left (by simp; omega)]
        congr 1; simp; omega
      · rw [h2 j (by omega) hj, List.getElem?_append_right (by simp; omega), List.getElem?_drop]
        congr 1; simp; omega
  · rw [if_neg hj, List.getElem?_eq_none (by simp; omega)]
theorem dutyCells_len (L : List Duty) : (dutyCells L).length = L.length * 3 := by
  induction L with
  | nil => rfl
  | cons d L ih => simp only [dutyCells, List.flatMap_cons, List.length_append, List.length_cons] at *; rw [ih]; simp; omega
theorem dutyCells_take (L : List Duty) (i : Nat) : dutyCells (L.take i) = (dutyCells L).take (i * 3) := by
  induction L generalizing i with
  | nil => simp [dutyCells]
  | cons d L ih =>
    cases i with
    | zero => simp [dutyCells]
    | succ i =>
      have := ih i
      simp only [dutyCells, List.take_succ_cons, List.flatMap_cons] at this ⊢
      rw [this, show (i + 1) * 3 = (Duty.cells d).length + i * 3 by simp; omega, List.take_length_add_append]
theorem dutyCells_drop (L : List Duty) (i : Nat) : dutyCells (L.drop i) = (dutyCells L).drop (i * 3) := by
  induction L generalizing i with
  | nil => simp [dutyCells]
  | cons d L ih =>
    cases i with
    | zero => simp [dutyCells]
    | succ i =>
      have := ih i
      simp only [dutyCells, List.drop_succ_cons, List.flatMap_cons] at this ⊢
      rw [this, show (i + 1) * 3 = (Duty.cells d).length + i * 3 by simp; omega, List.drop_length_add_append]
theorem dutyCells_ins (L : List Duty) (i : Nat) (d : Duty) : dutyCells (L.take i ++ d :: L.drop i) = (dutyCells L).take (i * 3) ++ d.cells ++ (dutyCells L).drop (i * 3) := by
  have : dutyCells (L.take i ++ d :: L.drop i) = dutyCells (L.take i) ++ (d.cells ++ dutyCells (L.drop i)) := by simp [dutyCells]
  rw [this, dutyCells_take, dutyCells_drop, List.append_assoc]
theorem dutyCells_one (L : List Duty) : ∀ v ∈ dutyCells L, v.oneCell' = true := by
  intro v hv
  obtain ⟨d, _, hd⟩ := List.mem_flatMap.1 hv
  exact duty_one d v hd
theorem below_row {B g : Nat} {w0 w : World} (hb : Below B w0 w) (hBg : B ≤ g) (cs : Array Value) : Below B w0 (w.setRow g cs) :=
  hb.trans ⟨rfl, rfl, rfl, by simp [World.setRow], fun k hk => setRow_other w g k cs (by omega)⟩
/-- The parts of a row of duties. -/
theorem row_parts {w : World} {base n cap g5 : Nat} {X : List Value} (h : w.ownsRow base 71 3 (.slice (some ⟨g5, 0, none⟩) n cap) n X) : base ≤ g5 ∧ n ≤ cap ∧ cap ≤ maxLen ∧ ∃ cur : Array Value, w.heap[g5]? = some (.cells cur 71 (0, 0)) ∧ cur.size = cap * 3 ∧ cur.toList.take (n * 3) = X := by
  rcases h.2 with ⟨hv, _⟩ | ⟨g, cap', cur, hv, hb, hh, hn, hc, hs, ht⟩
  · simp at hv
  · simp at hv
    obtain ⟨rfl, rfl⟩ := hv
    exact ⟨hb, hn, hc, cur, hh, hs, ht⟩
set_option maxHeartbeats 4000000 in
set_option maxRecDepth 100000 in
theorem insert_shift (base n cap i g g5 : Nat) (L : List Duty) (d : Duty) (w : World) (hn : n ≤ 1000) (hi : i < n) (hroom : n + 1 ≤ cap) (hown : w.ownsRow base 71 3 (.slice (some ⟨g5, 0, none⟩) n cap) n (dutyCells L)) (hl : L.length = n) (hg : Blk w g d.cells) (hne : g ≠ g5) :
    Calls Try.prog 62 #[.slice (some ⟨g5, 0, none⟩) n cap, .int .i64 i, .slice (some ⟨g, 0, none⟩) 1 1] w fun e w' => ∃ v', e = .returned v' ∧ w'.ownsRow base 71 3 v' (n + 1) (dutyCells (L.take i ++ d :: L.drop i)) ∧ Below base w w' ∧ w.grownBy w' (Value.slice (some ⟨g5, 0, none⟩) n cap).ownBlock := by
  obtain ⟨hb5, hnc, hcm, cur, hh, hs, hX⟩ := row_parts hown
  obtain ⟨tg, hgh⟩ := id hg
  have hz1 : ¬ ((1 : Int) = 0) := by omega
  have hz2 : ¬ ((i : Int) = (n : Int)) := by omega
  have hsz : (Try.prog.info? 71).map (·.size) = some 3 := by kernel_rfl
  have hov : ∀ lb cb, (callFunc 80 #[.slice (some ⟨g, 0, none⟩) 1 1, .slice (some ⟨g5, (i + 1) * 3, none⟩) lb cb]).run Try.prog w = .ok (.value (.bool false)) w := fun lb cb => by
    have hsa : w.shape? g = some (tg, d.cells.toArray.size) := by unfold World.shape?; rw [hgh]
    have hsb : w.shape? g5 = some (71, cur.size) := by unfold World.shape?; rw [hh]
    have hkB : cur.size ≠ 0 := by omega
    have hfa : w.frozen? ⟨g, 0, none⟩ = false := hg.fr 0
    have hfe : w.frozen? ⟨g, d.cells.toArray.size, none⟩ = false := hg.fr _
    rw [run_callFunc_extern Try.func80 (by kernel_rfl) (by kernel_rfl) (by kernel_rfl) (e := Extern.SlicesOverlaps.overlaps #[36, 36] #[4]) (by kernel_rfl),
      Lib.run_overlaps_apart w 36 4 71 Try.underlying36 3 (fun w => by kernel_rfl) ⟨g, 0, none⟩ ⟨g5, (i + 1) * 3, none⟩ 1 1 lb cb hne tg 71 _ _ hsa hsb hkB hfa hfe]
    rfl
  have hcur : ∀ j, j < n * 3 → cur.toList[j]? = (dutyCells L)[j]? := fun j hj => by rw [← hX, List.getElem?_take, if_pos hj]
  have hXl : (dutyCells L).length = n * 3 := by rw [dutyCells_len, hl]
  have hdl : ((dutyCells L).drop (i * 3)).length = (n - i) * 3 := by rw [List.length_drop, hXl]; omega
  have hcl : cur.toList.length = cap * 3 := by simpa using hs
  obtain ⟨R1, hR1⟩ : ∃ R1, R1 = cur.toList.take ((i + 1) * 3) ++ (dutyCells L).drop (i * 3) ++ cur.toList.drop ((i + 1) * 3 + ((dutyCells L).drop (i * 3)).length) := ⟨_, rfl⟩
  have hR1l : R1.length = cap * 3 := by rw [hR1, splice_len _ _ _ (by rw [hdl, hcl]; omega), hcl]
  have hcp1 : ∀ ty dc sc, (Builtin.copy_ #[36, 36] ty #[.slice (some ⟨g5, (i + 1) * 3, none⟩) (n - i) dc, .slice (some ⟨g5, i * 3, none⟩) (n + 1 - i) sc]).run Try.prog w.drew = .ok (goInt (Nat.min (n + 1 - i) (n - i))) (w.drew.setRow g5 R1.toArray) := fun ty dc sc => by
    rw [hR1]
    refine run_copy_rowK w.drew _ _ ty 71 g5 ((i + 1) * 3) (n - i) dc ⟨g5, i * 3, none⟩ (n + 1 - i) sc 3 cur 71 ((dutyCells L).drop (i * 3)) Try.underlying36 hsz hh ?_ (fun j v hj => ?_) ?_ (fun v hv => dutyCells_one L v (List.mem_of_mem_drop hv))
    · show min (n + 1 - i) (n - i) * 3 = _
      rw [hdl, Nat.min_eq_right (by omega)]
    · have hjl := (List.getElem?_eq_some_iff.1 hj).1
      rw [List.getElem?_drop] at hj
      rw [hdl] at hjl
      show w.cell? _ = _
      rw [Addr.add_lit]
      have : cur[i * 3 + j]? = some v := by rw [← hj, ← hcur _ (by omega)]; simp
      simp only [World.cell?, hh]
      simpa using this
    · rw [hdl, hs]; omega
  obtain ⟨W1, hW1⟩ : ∃ W1, W1 = w.drew.setRow g5 R1.toArray := ⟨_, rfl⟩
  have hh1 : W1.heap[g5]? = some (.cells R1.toArray 71 (0, 0)) := by rw [hW1]; exact setRow_heap _ _ _ _ _ _ (show w.drew.heap[g5]? = _ from hh)
  have hg1 : W1.heap[g]? = some (.cells d.cells.toArray tg (0, 0)) := by rw [hW1, setRow_other _ _ _ _ hne]; exact hgh
  obtain ⟨R2, hR2⟩ : ∃ R2, R2 = R1.take (i * 3) ++ d.cells ++ R1.drop (i * 3 + d.cells.length) := ⟨_, rfl⟩
  have hcp2 : ∀ (W : World), W.heap = W1.heap → ∀ ty dc, (Builtin.copy_ #[36, 36] ty #[.slice (some ⟨g5, i * 3, none⟩) (n + 1 - i) dc, .slice (some ⟨g, 0, none⟩) 1 1]).run Try.prog W = .ok (goInt (Nat.min 1 (n + 1 - i))) (W.setRow g5 R2.toArray) := fun W hW ty dc => by
    rw [hR2]
    have e1 : W.heap[g5]? = some (.cells R1.toArray 71 (0, 0)) := by rw [hW]; exact hh1
    have h := run_copy_rowK (P := Try.prog) W 36 36 ty 71 g5 (i * 3) (n + 1 - i) dc ⟨g, 0, none⟩ 1 1 3 R1.toArray 71 d.cells Try.underlying36 hsz e1 ?_ (fun j v hj => ?_) ?_ (duty_one d)
    · simpa using h
    · show min 1 (n + 1 - i) * 3 = _
      rw [Nat.min_eq_left (by omega)]; rfl
    · rw [Addr.add_lit]
      simp only [World.cell?, hW, hg1]
      simpa using hj
    · simp [hR1l]; omega
  rw [← hW1] at hcp1
  have HEAP := Lib.hid (And.intro hh1 (And.intro hR1 hR2))
  have HLEN := Lib.hid (And.intro hR1l (And.intro hdl (And.intro hcl hXl)))
  have HCUR := Lib.hid hcur
  have HW1 := Lib.hid hW1
  have HOWN := Lib.hid hown
  clear hh1 hR1 hR2 hR1l hdl hcl hXl hcur hW1 hown hX
  have mixed : Try.prog.follows .mixedOrders = true := by kernel_rfl
  have hin : i ≤ n := by omega
  have hw1 : IntKind.i64.wrap ((i : Int) + 1) = (i : Int) + 1 := by rw [IntKind.wrap_i64]; omega
  have hb1 : (0 : Int) ≤ (i : Int) + 1 := by omega
  have hb3 : (i : Int) ≤ (n : Int) + 1 := by omega
  have htn : ((i : Int) + 1).toNat = i + 1 := by omega
  have hb2 : ¬ (cap = i + 1) := by omega
  have hb4 : ¬ (cap = i) := by omega
  have hc63 : (cap : Int) ≤ 9223372036854775807 := by unfold maxLen at hcm; omega
  have hnc1 : (n : Int) + 1 ≤ (cap : Int) := by omega
  go_enter Try.func62, Try.ntmps62
  go_wp2_with (simp only [hov])
  go_region_law_o (refine step_copy_runI rfl _ _ 36 36 rfl _ _ (by simp [Act.eval, Act.put]) (by simp [Act.eval, Act.put]) (hcp1 _ _ _) ?_)
  go_wp2_with (at_builtin; refine wpList_copy_runI _ rfl _ _ 36 36 rfl _ _ rfl rfl (hcp2 _ rfl _ _) ?_)
  go_ret
  obtain ⟨hh1, hR1, hR2⟩ := HEAP.out
  obtain ⟨hR1l, hdl, hcl, hXl⟩ := HLEN.out
  have hdc : d.cells.length = 3 := rfl
  have hR2l : R2.length = cap * 3 := by rw [hR2, splice_len _ _ _ (by rw [hR1l, hdc]; omega), hR1l]
  refine ⟨_, rfl, ⟨?_, .inr ⟨g5, cap, R2.toArray, rfl, hb5, setRow_heap _ _ _ _ _ _ hh1, hroom, hcm, by simpa using hR2l, ?_⟩⟩, ?_, ?_⟩
  · rw [dutyCells_len]
    simp only [List.length_append, List.length_take, List.length_cons, List.length_drop, hl]
    omega
  · rw [dutyCells_ins]
    have h := row_ins (dutyCells L) d.cells (i * 3) (by rw [hXl]; omega) R2 (fun j hj => ?_) (fun j hj1 hj2 => ?_) (fun j hj1 hj2 => ?_)
    · rw [hXl, hdc, show n * 3 + 3 = (n + 1) * 3 by omega] at h
      exact h
    · rw [hR2, splice_out R1 d.cells (i * 3) j (by rw [hR1l, hdc]; omega) (.inl hj), hR1, splice_out cur.toList _ ((i + 1) * 3) j (by rw [hdl, hcl]; omega) (.inl (by omega))]
      exact HCUR.out j (by omega)
    · rw [hR2, splice_in R1 d.cells (i * 3) j (by rw [hR1l, hdc]; omega) hj1 hj2]
    · rw [hdc] at hj1 hj2
      rw [hXl] at hj2
      rw [hR2, splice_out R1 d.cells (i * 3) j (by rw [hR1l, hdc]; omega) (.inr (by rw [hdc]; omega)), hR1, splice_in cur.toList _ ((i + 1) * 3) j (by rw [hdl, hcl]; omega) (by omega) (by rw [hdl]; omega), List.getElem?_drop]
      congr 1
      rw [hdc]; omega
  · rw [HW1.out]
    exact below_row (below_row (⟨rfl, rfl, rfl, Nat.le_refl _, fun _ _ => rfl⟩ : Below base w w.drew) hb5 _) hb5 _
  · rw [HW1.out]
    exact ⟨rfl, rfl, rfl, by simp only [World.setRow, Array.size_modify]; exact Nat.le_refl _, fun k _ hk => by
      have hk' : k ≠ g5 := fun e => hk (by rw [e]; rfl)
      rw [setRow_other _ _ _ _ hk', setRow_other _ _ _ _ hk']; rfl⟩
set_option maxHeartbeats 4000000 in
set_option maxRecDepth 100000 in
theorem insert_grow (base n cap i g g5 : Nat) (L : List Duty) (d : Duty) (w : World) (hn : n ≤ 1000) (hi : i < n) (hroom : cap < n + 1) (hown : w.ownsRow base 71 3 (.slice (some ⟨g5, 0, none⟩) n cap) n (dutyCells L)) (hl : L.length = n) (hg : Blk w g d.cells) (hbw : base ≤ w.heap.size) :
    Calls Try.prog 62 #[.slice (some ⟨g5, 0, none⟩) n cap, .int .i64 i, .slice (some ⟨g, 0, none⟩) 1 1] w fun e w' => ∃ v', e = .returned v' ∧ w'.ownsRow base 71 3 v' (n + 1) (dutyCells (L.take i ++ d :: L.drop i)) ∧ Below base w w' ∧ w.grownBy w' (Value.slice (some ⟨g5, 0, none⟩) n cap).ownBlock := by
  obtain ⟨hb5, hnc, hcm, cur, hh, hs, hX⟩ := row_parts hown
  obtain ⟨tg, hgh⟩ := id hg
  obtain ⟨i0, hi0, hy0, hy1, hy2⟩ := info_parts infoD
  have hgw : g < w.heap.size := hg.lt
  have hg5w : g5 < w.heap.size := (Array.getElem?_eq_some_iff.1 hh).1
  have hz1 : ¬ ((1 : Int) = 0) := by omega
  have hz2 : ¬ ((i : Int) = (n : Int)) := by omega
  have hz3 : (cap : Int) < (n : Int) + 1 := by omega
  have hsz : (Try.prog.info? 71).map (·.size) = some 3 := by kernel_rfl
  have hcur : ∀ j, j < n * 3 → cur.toList[j]? = (dutyCells L)[j]? := fun j hj => by rw [← hX, List.getElem?_take, if_pos hj]
  have hXl : (dutyCells L).length = n * 3 := by rw [dutyCells_len, hl]
  have hdl : ((dutyCells L).drop (i * 3)).length = (n - i) * 3 := by rw [List.length_drop, hXl]; omega
  have htl : ((dutyCells L).take (i * 3)).length = i * 3 := by rw [List.length_take, hXl]; omega
  have hkk : (n : Int) + 1 - (i : Int) = ((n + 1 - i : Nat) : Int) := by omega
  have hik : i + (n + 1 - i) = n + 1 := by omega
  have hold : (Builtin.firstCells i0.size i (.slice (some ⟨g5, 0, none⟩) i cap)).run Try.prog w.drew = .ok ((dutyCells L).take (i * 3)).toArray w.drew := by
    rw [hy1]
    exact run_firstCells_some w.drew 3 i ⟨g5, 0, none⟩ i cap ((dutyCells L).take (i * 3)) (by rw [htl]) (fun j v hj => by
      have hjl := (List.getElem?_eq_some_iff.1 hj).1
      rw [htl] at hjl
      rw [List.getElem?_take, if_pos hjl] at hj
      show w.cell? _ = _
      rw [Addr.add_lit, Nat.zero_add]
      have : cur[j]? = some v := by rw [← hj, ← hcur _ (by omega)]; simp
      simp only [World.cell?, hh]
      simpa using this)
  obtain ⟨G, hG⟩ : ∃ G, G = grownCap w (n + 1) cap 71 := ⟨_, rfl⟩
  obtain ⟨ROW, hROW⟩ : ∃ ROW : Array Value, ROW = ((dutyCells L).take (i * 3)).toArray ++ Builtin.zeroCells (Value.agg #[.int .i64 0, .int .i64 0, .int .i64 0]).cells (n + 1 - i) ++ Builtin.zeroCells (Value.agg #[.int .i64 0, .int .i64 0, .int .i64 0]).cells (G - (n + 1)) := ⟨_, rfl⟩
  have hGn : n + 1 ≤ G := by rw [hG]; exact grownCap_ge w _ _ _
  have hGm : G ≤ maxLen := by rw [hG]; exact grownCap_le_maxLen w (n + 1) cap 71 (by unfold maxLen; omega)
  have hrz : ∀ ty, (Builtin.append_ #[36, 3] ty #[.slice (some ⟨g5, 0, none⟩) i cap, .int .i64 ((n : Int) + 1 - (i : Int))]).run Try.prog w = .ok (.slice (some ⟨w.heap.size, 0, none⟩) (n + 1) G) (w.drew.alloc (.cells ROW 71)) := fun ty => by
    have h := Lib.run_append_grow_zeros (P := Try.prog) w 36 3 ty 71 i0 _ .i64 .i64 Try.underlying36 Try.underlying3 hi0 hy0 (some ⟨g5, 0, none⟩) i cap _ hold (n + 1 - i) (by omega) (by omega) (by omega) (by omega) (by rw [hy2]; omega) (by rw [hy2, hik]; exact growslice_fits hroom (by omega))
    rw [hik] at h
    rw [hkk, hROW, hG]
    exact h
  have hZ : ∀ k, (Builtin.zeroCells (Value.agg #[.int .i64 0, .int .i64 0, .int .i64 0]).cells k).size = k * 3 := fun k => by simp [Builtin.zeroCells, Value.cells]
  have hRl : ROW.size = G * 3 := by
    rw [hROW, Array.size_append, Array.size_append, hZ, hZ, List.size_toArray, htl]; omega
  have hROWt : ∀ j, j < i * 3 → ROW.toList[j]? = (dutyCells L)[j]? := fun j hj => by
    rw [hROW]
    simp only [Array.toList_append, List.append_assoc]
    rw [List.getElem?_append_left (by simp [dutyCells_len, hl]; omega), List.getElem?_take, if_pos hj]
  clear hROW
  obtain ⟨W1, hW1⟩ : ∃ W1, W1 = w.drew.alloc (.cells ROW 71) := ⟨_, rfl⟩
  obtain ⟨gN, hgN⟩ : ∃ gN, gN = w.heap.size := ⟨_, rfl⟩
  have hh1 : W1.heap[gN]? = some (.cells ROW 71 (0, 0)) := by rw [hW1, hgN]; exact heap_alloc_new w.drew _
  have hB1 : Below base w W1 := by
    rw [hW1]
    exact (⟨rfl, rfl, rfl, Nat.le_refl _, fun _ _ => rfl⟩ : Below base w w.drew).trans ((below1' w.drew (.cells ROW 71)).mono hbw)
  have hg1 : W1.heap[g]? = some (.cells d.cells.toArray tg (0, 0)) := by
    rw [hW1, (below1' w.drew (.cells ROW 71)).block g hgw]; exact hgh
  have hc1 : W1.heap[g5]? = some (.cells cur 71 (0, 0)) := by
    rw [hW1, (below1' w.drew (.cells ROW 71)).block g5 hg5w]; exact hh
  obtain ⟨R1, hR1⟩ : ∃ R1, R1 = ROW.toList.take (i * 3) ++ d.cells ++ ROW.toList.drop (i * 3 + d.cells.length) := ⟨_, rfl⟩
  have hdc : d.cells.length = 3 := rfl
  have hRll : ROW.toList.length = G * 3 := by simpa using hRl
  have hR1l : R1.length = G * 3 := by rw [hR1, splice_len _ _ _ (by rw [hdc, hRll]; omega), hRll]
  have hcp1 : ∀ (W : World), W.heap = W1.heap → ∀ ty dc, (Builtin.copy_ #[36, 36] ty #[.slice (some ⟨gN, i * 3, none⟩) (n + 1 - i) dc, .slice (some ⟨g, 0, none⟩) 1 1]).run Try.prog W = .ok (goInt (Nat.min 1 (n + 1 - i))) (W.setRow gN R1.toArray) := fun W hW ty dc => by
    rw [hR1]
    have e1 : W.heap[gN]? = some (.cells ROW 71 (0, 0)) := by rw [hW]; exact hh1
    refine run_copy_rowK (P := Try.prog) W 36 36 ty 71 gN (i * 3) (n + 1 - i) dc ⟨g, 0, none⟩ 1 1 3 ROW 71 d.cells Try.underlying36 hsz e1 ?_ (fun j v hj => ?_) ?_ (duty_one d)
    · show min 1 (n + 1 - i) * 3 = _
      rw [Nat.min_eq_left (by omega)]; rfl
    · rw [Addr.add_lit]
      simp only [World.cell?, hW, hg1]
      simpa using hj
    · rw [hdc, hRl]; omega
  obtain ⟨R2, hR2⟩ : ∃ R2, R2 = R1.take ((i + 1) * 3) ++ (dutyCells L).drop (i * 3) ++ R1.drop ((i + 1) * 3 + ((dutyCells L).drop (i * 3)).length) := ⟨_, rfl⟩
  have hne5 : g5 ≠ gN := by omega
  have hcp2 : ∀ (W : World), W.heap = (W1.setRow gN R1.toArray).heap → ∀ ty dc sc, (Builtin.copy_ #[36, 36] ty #[.slice (some ⟨gN, (i + 1) * 3, none⟩) (n - i) dc, .slice (some ⟨g5, i * 3, none⟩) (n - i) sc]).run Try.prog W = .ok (goInt (Nat.min (n - i) (n - i))) (W.setRow gN R2.toArray) := fun W hW ty dc sc => by
    rw [hR2]
    have e1 : W.heap[gN]? = some (.cells R1.toArray 71 (0, 0)) := by rw [hW]; exact setRow_heap _ _ _ _ _ _ hh1
    have e2 : W.heap[g5]? = some (.cells cur 71 (0, 0)) := by rw [hW, setRow_other _ _ _ _ hne5]; exact hc1
    have h := run_copy_rowK (P := Try.prog) W 36 36 ty 71 gN ((i + 1) * 3) (n - i) dc ⟨g5, i * 3, none⟩ (n - i) sc 3 R1.toArray 71 ((dutyCells L).drop (i * 3)) Try.underlying36 hsz e1 ?_ (fun j v hj => ?_) ?_ (fun v hv => dutyCells_one L v (List.mem_of_mem_drop hv))
    · simpa using h
    · show min (n - i) (n - i) * 3 = _
      rw [hdl, Nat.min_self]
    · have hjl := (List.getElem?_eq_some_iff.1 hj).1
      rw [List.getElem?_drop] at hj
      rw [hdl] at hjl
      rw [Addr.add_lit]
      have : cur[i * 3 + j]? = some v := by rw [← hj, ← hcur _ (by omega)]; simp
      simp only [World.cell?, e2]
      simpa using this
    · simp only [List.size_toArray, hR1l, hdl]; omega
  have hW1h : ∀ W : World, W = (w.alloc (.cells ROW 71)) → True := fun _ _ => trivial
  have HEAP := Lib.hid (And.intro hh1 (And.intro hR1 hR2))
  have HLEN := Lib.hid (And.intro hR1l (And.intro hdl (And.intro hRll hXl)))
  have HROW := Lib.hid hROWt
  have HB1 := Lib.hid hB1
  have HGN := Lib.hid hGn
  have HGM := Lib.hid hGm
  have hgb : base ≤ gN := by omega
  have hG63 : (G : Int) ≤ 9223372036854775807 := by unfold maxLen at hGm; omega
  have hGi : ¬ (G = i) := by omega
  have hGim : ¬ (G = i + 1) := by omega
  have hci : ¬ (cap = i) := by omega
  rw [← hW1] at hrz
  rw [← hgN] at hrz
  have HW1 := Lib.hid hW1
  have HGG := Lib.hid hgN
  clear hh1 hR1 hR2 hR1l hdl hRll hXl hcur hW1 hown hX hROWt hB1 hold hkk hZ htl hW1h hgN hGm hG
  have mixed : Try.prog.follows .mixedOrders = true := by kernel_rfl
  have hin : i ≤ n := by omega
  have hw1 : IntKind.i64.wrap ((i : Int) + 1) = (i : Int) + 1 := by rw [IntKind.wrap_i64]; omega
  have hb1 : (0 : Int) ≤ (i : Int) + 1 := by omega
  have hb3 : (i : Int) ≤ (n : Int) := by omega
  have htn : ((i : Int) + 1).toNat = i + 1 := by omega
  go_enter Try.func62, Try.ntmps62
  go_wp2_with (first
    | (at_builtin; refine Lib.wpList_append_run _ rfl _ _ _ _ rfl _ _ rfl rfl _ _ (hrz _) ?_)
    | (at_builtin; refine wpList_copy_runI _ rfl _ _ 36 36 rfl _ _ rfl rfl (hcp1 _ rfl _ _) ?_))
  go_region_law_o (refine step_copy_runI rfl _ _ 36 36 rfl (.slice (some ⟨gN, (i + 1) * 3, none⟩) (n - i) (G - (i + 1))) (.slice (some ⟨g5, i * 3, none⟩) (n - i) (cap - i)) (by simp [Act.eval, Act.put]) (by simp [Act.eval, Act.put]) (hcp2 (W1.setRow gN R1.toArray).drew rfl 3 (G - (i + 1)) (cap - i)) ?_)
  go_wp2
  go_ret
  obtain ⟨hh1, hR1, hR2⟩ := HEAP.out
  obtain ⟨hR1l, hdl, hRll, hXl⟩ := HLEN.out
  have hGn' := HGN.out
  have hR2l : R2.length = G * 3 := by rw [hR2, splice_len _ _ _ (by rw [hR1l, hdl]; omega), hR1l]
  have hh2 : ((W1.setRow gN R1.toArray).drew).heap[gN]? = some (.cells R1.toArray 71 (0, 0)) := setRow_heap W1 _ _ _ _ _ hh1
  refine ⟨_, rfl, ⟨?_, .inr ⟨gN, G, R2.toArray, rfl, hgb, setRow_heap _ _ _ _ _ _ hh2, HGN.out, HGM.out, by simpa using hR2l, ?_⟩⟩, ?_, ?_⟩
  · rw [dutyCells_len]
    simp only [List.length_append, List.length_take, List.length_cons, List.length_drop, hl]
    omega
  · rw [dutyCells_ins]
    have h := row_ins (dutyCells L) d.cells (i * 3) (by rw [hXl]; omega) R2 (fun j hj => ?_) (fun j hj1 hj2 => ?_) (fun j hj1 hj2 => ?_)
    · rw [hXl, hdc, show n * 3 + 3 = (n + 1) * 3 by omega] at h
      exact h
    · rw [hR2, splice_out R1 _ ((i + 1) * 3) j (by rw [hR1l, hdl]; omega) (.inl (by omega)), hR1, splice_out ROW.toList d.cells (i * 3) j (by rw [hRll, hdc]; omega) (.inl hj)]
      exact HROW.out j hj
    · rw [hdc] at hj2
      rw [hR2, splice_out R1 _ ((i + 1) * 3) j (by rw [hR1l, hdl]; omega) (.inl (by omega)), hR1, splice_in ROW.toList d.cells (i * 3) j (by rw [hRll, hdc]; omega) hj1 (by rw [hdc]; omega)]
    · rw [hdc] at hj1 hj2
      rw [hXl] at hj2
      rw [hR2, splice_in R1 _ ((i + 1) * 3) j (by rw [hR1l, hdl]; omega) (by omega) (by rw [hdl]; omega), List.getElem?_drop]
      congr 1
      rw [hdc]; omega
  · have hd : Below base w (W1.setRow gN R1.toArray).drew := ⟨(below_row HB1.out hgb R1.toArray).os, (below_row HB1.out hgb R1.toArray).tape, (below_row HB1.out hgb R1.toArray).output, (below_row HB1.out hgb R1.toArray).size, (below_row HB1.out hgb R1.toArray).block⟩
    exact below_row hd hgb _
  · have hB : Below w.heap.size w W1 := by
      rw [HW1.out]
      exact (⟨rfl, rfl, rfl, Nat.le_refl _, fun _ _ => rfl⟩ : Below w.heap.size w w.drew).trans (below1' w.drew (.cells ROW 71))
    exact ⟨hB.os, hB.tape, hB.output, by
      have h1 : ((W1.setRow gN R1.toArray).drew.setRow gN R2.toArray).heap.size = W1.heap.size := by
        simp only [World.setRow, Array.size_modify]
        show (W1.setRow gN R1.toArray).heap.size = _
        simp only [World.setRow, Array.size_modify]
      rw [h1]; exact hB.size, fun k hk _ => by
      have hk' : k ≠ gN := by have := HGG.out; omega
      rw [setRow_other _ _ _ _ hk']
      show (W1.setRow gN R1.toArray).heap[k]? = _
      rw [setRow_other _ _ _ _ hk', hB.block k hk]⟩
/-- slices.Insert, wherever. -/
theorem insert_any (base n cap i g : Nat) (q : Option Addr) (L : List Duty) (d : Duty) (w : World) (hn : n ≤ 1000) (hi : i ≤ n) (hown : w.ownsRow base 71 3 (.slice q n cap) n (dutyCells L)) (hl : L.length = n) (hg : Blk w g d.cells) (hne : some g ≠ (Value.slice q n cap).ownBlock) (hbw : base ≤ w.heap.size) :
    Calls Try.prog 62 #[.slice q n cap, .int .i64 i, .slice (some ⟨g, 0, none⟩) 1 1] w fun e w' => ∃ v', e = .returned v' ∧ w'.ownsRow base 71 3 v' (n + 1) (dutyCells (L.take i ++ d :: L.drop i)) ∧ Below base w w' ∧ w.grownBy w' (Value.slice q n cap).ownBlock := by
  by_cases h : i = n
  · subst h
    have := insert_end _ base i cap g q L d w rfl hn hown hbw hg
    rw [List.take_of_length_le (by omega), List.drop_of_length_le (by omega)]
    exact this
  · obtain ⟨g5, cap', hv, _, _⟩ := World.ownsRow.form hown (by omega)
    obtain ⟨rfl, rfl⟩ : q = some ⟨g5, 0, none⟩ ∧ cap = cap' := by simpa using hv
    by_cases hr : n + 1 ≤ cap
    · exact insert_shift base n cap i g g5 L d w hn (by omega) hr hown hl hg fun e => hne (by rw [e]; rfl)
    · exact insert_grow base n cap i g g5 L d w hn (by omega) (by omega) hown hl hg hbw
end Go.Proofs.Ytfmmiafdlfdfoaa
