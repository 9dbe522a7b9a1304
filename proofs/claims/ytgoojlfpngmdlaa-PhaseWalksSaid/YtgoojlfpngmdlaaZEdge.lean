/- The edges between phases: the walks over phase.Edge (a map literal of rows) and its reference. Conditions: none. -/
import Derived.Test.YtgoojlfpngmdlaaZImg
import Derived.Carry
import Derived.IntWalk
namespace Go.Proofs.Ytgoojlfpngmdlaa
open Go.RowKit Go.MapKept
/-- Where one may go from a phase. -/
def edgeTo (f : Int) : List Int := if f = 0 then [1] else if f = 1 then [0, 2] else if f = 2 then [0, 3] else if f = 3 then [2, 4] else if f = 4 then [2] else []
theorem edgeTo_len (f : Int) : (edgeTo f).length ≤ 1000 := by
  unfold edgeTo
  split
  · decide
  split
  · decide
  split
  · decide
  split
  · decide
  split
  · decide
  · decide
def edgeB (f t : Int) : Bool := (edgeTo f).contains t
/-- A row of a map literal: key, block, what the block holds. -/
abbrev MRow := Int × Nat × List Value
def esL : Nat → List MRow → List MapEntry
  | _, [] => []
  | i, x :: r => ⟨.int .i64 x.1, .slice (some ⟨x.2.1, 0, none⟩) x.2.2.length x.2.2.length, i⟩ :: esL (i + 1) r
theorem esL_snoc (l : List MRow) (x : MRow) : ∀ i, esL i (l ++ [x]) = esL i l ++ [⟨.int .i64 x.1, .slice (some ⟨x.2.1, 0, none⟩) x.2.2.length x.2.2.length, i + l.length⟩] := by
  induction l with
  | nil => intro i; rfl
  | cons y l ih =>
    intro i
    show _ :: esL (i + 1) (l ++ [x]) = _
    rw [ih (i + 1)]
    simp [esL]; omega
def getE (l : List MRow) (f : Int) : Option MRow := l.find? fun x => f == x.1
theorem findNow_esL (kd : IntKind) (f : Int) (l : List MRow) : ∀ i j, (getE l f = none → Instr.findNow (.int kd) (.int .i64 f) (esL i l) j = some none) ∧ (∀ x, getE l f = some x → ∃ n, Instr.findNow (.int kd) (.int .i64 f) (esL i l) j = some (some (n, .slice (some ⟨x.2.1, 0, none⟩) x.2.2.length x.2.2.length))) := by
  induction l with
  | nil => intro i j; exact ⟨fun _ => rfl, fun x h => by simp [getE] at h⟩
  | cons y l ih =>
    intro i j
    obtain ⟨h1, h2⟩ := ih (i + 1) (j + 1)
    by_cases e : f = y.1
    · refine ⟨fun h => ?_, fun x h => ?_⟩
      · simp [getE, e] at h
      · simp [getE, e] at h
        subst h
        exact ⟨j, by simp [esL, Instr.findNow, Instr.sameNow, e]⟩
    · have e' : (f == y.1) = false := by simpa using e
      refine ⟨fun h => ?_, fun x h => ?_⟩
      · have h' : getE l f = none := by simpa [getE, e'] using h
        simp only [esL, Instr.findNow, Instr.sameNow, e', if_true]
        exact h1 h'
      · have h' : getE l f = some x := by simpa [getE, e'] using h
        obtain ⟨n, hn⟩ := h2 x h'
        refine ⟨n, ?_⟩
        simp only [esL, Instr.findNow, Instr.sameNow, e', if_true]
        exact hn
theorem blk_same {w w' : World} {g : Nat} {xs : List Value} (h : Blk w g xs) (e : w'.heap[g]? = w.heap[g]?) : Blk w' g xs := by
  obtain ⟨t, h⟩ := h
  exact ⟨t, e.trans h⟩
/-- Block b is the map of these rows, all of which lie beside. -/
def MapSt (W0 W : World) (b : Nat) (l : List MRow) : Prop := W.heap[b]? = some (.map (esL 0 l).toArray l.length) ∧ (∀ x ∈ l, Blk W x.2.1 x.2.2 ∧ x.2.1 ≠ b) ∧ W0.heap.size ≤ b ∧ Below W0.heap.size W0 W
theorem MapSt.made (w : World) : MapSt w (w.alloc (.map #[] 0)) w.heap.size [] :=
  ⟨by simp [World.alloc, esL, -World.alloc_eq], fun x h => by simp at h, Nat.le_refl _, below1' _ _⟩
theorem MapSt.al {W0 W : World} {b : Nat} {l : List MRow} (h : MapSt W0 W b l) (o : Obj) : MapSt W0 (W.alloc o) b l := by
  obtain ⟨h1, h2, h3, h4⟩ := h
  have hlt : b < W.heap.size := (Array.getElem?_eq_some_iff.1 h1).1
  refine ⟨((below1' W o).block b hlt).trans h1, fun x hx => ⟨(h2 x hx).1.next (below1' W o), (h2 x hx).2⟩, h3, h4.trans ((below1' W o).mono h4.size)⟩
/-- The store of a row that has just been laid. -/
theorem wpList_insert_row {P : Program} {W0 wp : World} {ops : Array Oper} {rest : List Oper} {o : Oper} {a : Act} {Q : Exit → Act → World → Prop} {xs : List Value} {ty : TypeId}
    (hg : o.guard = none) (m x v : Operand) (t : TypeId) (hop : o.op = Op.insert t m x v) (kt et : TypeId) (kd : IntKind) (ht : P.underlying t = some (.map kt et)) (hk : P.underlying kt = some (.int kd)) (hkd : kd = .i64) (b : Nat) (l : List MRow)
    (hm : a.eval m = .map (some b)) (key : Int) (hx : a.eval x = .int .i64 key) (n gv : Nat) (hv : a.eval v = .slice (some ⟨gv, 0, none⟩) n n) (hn : n = xs.length) (hgv : gv = wp.heap.size) (hst : MapSt W0 wp b l) (hnew : getE l key = none)
    (hK : ∀ w', MapSt W0 w' b (l ++ [(key, wp.heap.size, xs)]) → wpList P ops Q rest (a.put o.dst undef) w') : wpList P ops Q (o :: rest) a (wp.alloc (.cells xs.toArray ty)) := by
  subst hkd hn hgv
  have hlt : b < wp.heap.size := (Array.getElem?_eq_some_iff.1 hst.1).1
  obtain ⟨h1, h2, h3, h4⟩ := hst.al (.cells xs.toArray ty)
  have hB := Blk.new wp xs ty
  refine wpList_plain hg fun K' hK' => ?_
  obtain ⟨O, hO⟩ : ∃ O, O = Obj.map ((esL 0 l).toArray.push ⟨.int .i64 key, .slice (some ⟨wp.heap.size, 0, none⟩) xs.length xs.length, l.length⟩) (l.length + 1) := ⟨_, rfl⟩
  have hrun : (Instr.mapUpdate t (.map (some b)) (.int .i64 key) (.slice (some ⟨wp.heap.size, 0, none⟩) xs.length xs.length)).run P (wp.alloc (.cells xs.toArray ty)) = .ok () { (wp.alloc (.cells xs.toArray ty)) with heap := (wp.alloc (.cells xs.toArray ty)).heap.setIfInBounds b O } := by
    rw [hO]
    simp [Instr.mapUpdate, run_underlying ht, MapKept.run_getObj_map h1, run_checkKey hk (show IsKey (.int .i64) (.int .i64 key) from rfl), run_findKey hk ((findNow_esL .i64 key l 0 0).1 hnew), MapKept.run_setObj_map _ h1, Result.andThen]
  unfold Oper.wp
  simp only [execOp, hop, hm, hx, hv]
  simp [hrun, Result.andThen]
  refine hK' _ _ (hK _ ?_)
  obtain ⟨g1, g2⟩ := heap_set (o' := O) h1
  refine ⟨?_, ?_, h3, ?_⟩
  · refine g1.trans ?_
    rw [hO, esL_snoc, List.length_append]
    simp
  · intro y hy
    rw [List.mem_append, List.mem_singleton] at hy
    rcases hy with hy | hy
    · obtain ⟨hy1, hy2⟩ := h2 y hy
      exact ⟨blk_same hy1 (g2 _ hy2), hy2⟩
    · subst hy
      exact ⟨blk_same hB (g2 _ (by show wp.heap.size ≠ b; omega)), by show wp.heap.size ≠ b; omega⟩
  · exact ⟨h4.os, h4.tape, h4.output, by simpa using h4.size, fun k hk => (g2 k (by omega)).trans (h4.block k hk)⟩
/-- What a look-up in such a map hands back. -/
def RowV (w : World) (l : List MRow) (f : Int) (v : Value) : Prop := (getE l f = none ∧ v = .slice none 0 0) ∨ ∃ x, getE l f = some x ∧ v = .slice (some ⟨x.2.1, 0, none⟩) x.2.2.length x.2.2.length ∧ Blk w x.2.1 x.2.2
theorem wpList_lookup_row {P : Program} {W0 w : World} {ops : Array Oper} {rest : List Oper} {o : Oper} {a : Act} {Q : Exit → Act → World → Prop}
    (hg : o.guard = none) (m x : Operand) (t : TypeId) (hop : o.op = Op.lookup t m x false) (kt et : TypeId) (kd : IntKind) (ht : P.underlying t = some (.map kt et)) (hk : P.underlying kt = some (.int kd)) (hkd : kd = .i64)
    (hz : ∀ W, (zeroValue et).run P W = .ok (.slice none 0 0) W) (b : Nat) (l : List MRow) (hm : a.eval m = .map (some b)) (f : Int) (hx : a.eval x = .int .i64 f) (hst : MapSt W0 w b l)
    (hK : ∀ v, RowV w l f v → wpList P ops Q rest (a.put o.dst v) w) : wpList P ops Q (o :: rest) a w := by
  subst hkd
  obtain ⟨h1, h2, h3, h4⟩ := hst
  refine wpList_plain hg fun K' hK' => ?_
  unfold Oper.wp
  simp only [execOp, hop, hm, hx]
  cases hf : getE l f with
  | none =>
    have hrun : (Instr.lookup t (.map (some b)) (.int .i64 f) false).run P w = .ok (.slice none 0 0) w := by
      simp [Instr.lookup, run_underlying ht, MapKept.run_getObj_map h1, run_checkKey hk (show IsKey (.int .i64) (.int .i64 f) from rfl), run_findKey hk ((findNow_esL .i64 f l 0 0).1 hf), hz, Result.andThen]
    simp [hrun, Result.andThen]
    exact hK' _ _ (hK _ (.inl ⟨hf, rfl⟩))
  | some y =>
    obtain ⟨n, hn⟩ := (findNow_esL .i64 f l 0 0).2 y hf
    have hrun : (Instr.lookup t (.map (some b)) (.int .i64 f) false).run P w = .ok (.slice (some ⟨y.2.1, 0, none⟩) y.2.2.length y.2.2.length) w := by
      simp [Instr.lookup, run_underlying ht, MapKept.run_getObj_map h1, run_checkKey hk (show IsKey (.int .i64) (.int .i64 f) from rfl), run_findKey hk hn, Result.andThen]
    simp [hrun, Result.andThen]
    exact hK' _ _ (hK _ (.inr ⟨y, hf, rfl, (h2 y (List.mem_of_find?_eq_some hf)).1⟩))
theorem rdX_of_blk {w : World} {g : Nat} {xs : List Value} (h : Blk w g xs) : RdX w (some ⟨g, 0, none⟩) xs := fun i u hu =>
  ⟨_, rfl, h.lt, by
    have := h.cell i u hu
    simp only [Addr.add]
    split
    · rename_i e; obtain rfl : i = 0 := by simpa using e
      exact this
    · simpa using this⟩
theorem row_edge {w : World} {g0 g1 g2 g3 g4 : Nat} {f : Int} {v : Value} (h : RowV w [(0, g0, [.int .i64 1]), (1, g1, [.int .i64 0, .int .i64 2]), (2, g2, [.int .i64 0, .int .i64 3]), (3, g3, [.int .i64 2, .int .i64 4]), (4, g4, [.int .i64 2])] f v) : ∃ q c, v = .slice q (edgeTo f).length c ∧ RdX w q (intCells (edgeTo f)) := by
  have hE : ∀ y, RowV w [(0, g0, [.int .i64 1]), (1, g1, [.int .i64 0, .int .i64 2]), (2, g2, [.int .i64 0, .int .i64 3]), (3, g3, [.int .i64 2, .int .i64 4]), (4, g4, [.int .i64 2])] f v → getE [(0, g0, [.int .i64 1]), (1, g1, [.int .i64 0, .int .i64 2]), (2, g2, [.int .i64 0, .int .i64 3]), (3, g3, [.int .i64 2, .int .i64 4]), (4, g4, [.int .i64 2])] f = some y → v = .slice (some ⟨y.2.1, 0, none⟩) y.2.2.length y.2.2.length ∧ Blk w y.2.1 y.2.2 := by
    intro y h hy
    rcases h with ⟨h, _⟩ | ⟨x, h, hv, hb⟩
    · rw [h] at hy; cases hy
    · rw [h] at hy; cases hy; exact ⟨hv, hb⟩
  by_cases e0 : f = 0
  · subst e0; obtain ⟨hv, hb⟩ := hE _ h rfl; exact ⟨_, _, hv, rdX_of_blk hb⟩
  by_cases e1 : f = 1
  · subst e1; obtain ⟨hv, hb⟩ := hE _ h rfl; exact ⟨_, _, hv, rdX_of_blk hb⟩
  by_cases e2 : f = 2
  · subst e2; obtain ⟨hv, hb⟩ := hE _ h rfl; exact ⟨_, _, hv, rdX_of_blk hb⟩
  by_cases e3 : f = 3
  · subst e3; obtain ⟨hv, hb⟩ := hE _ h rfl; exact ⟨_, _, hv, rdX_of_blk hb⟩
  by_cases e4 : f = 4
  · subst e4; obtain ⟨hv, hb⟩ := hE _ h rfl; exact ⟨_, _, hv, rdX_of_blk hb⟩
  have hn : edgeTo f = [] := by simp [edgeTo, e0, e1, e2, e3, e4]
  rcases h with ⟨_, hv⟩ | ⟨x, h, _, _⟩
  · rw [hn]; exact ⟨none, 0, hv, fun i u hu => by simp [intCells] at hu⟩
  · simp [getE, e0, e1, e2, e3, e4] at h
set_option maxHeartbeats 2000000 in
theorem index_any (L : List Int) (q : Option Addr) (c : Nat) (x : Int) (w : World) (hl : L.length ≤ 1000) (h : RdX w q (intCells L)) :
    Calls Try.prog 45 #[.slice q L.length c, .int .i64 x] w fun e w' => (∃ i : Int, e = .returned (.int .i64 i) ∧ decide (0 ≤ i) = L.contains x) ∧ Below w.heap.size w w' := by
  obtain ⟨n, hn⟩ : ∃ n, n = L.length := ⟨_, rfl⟩
  rw [← hn] at hl ⊢
  have HN := Lib.hid hn; have H := Lib.hid h
  clear hn h
  go_enter Try.func45, Try.ntmps45
  go_wp2_with fail
  go_loopw [8] (fun v wr => ∃ i : Nat, i ≤ n ∧ v = .int .i64 i ∧ (L.take i).contains x = false ∧ Below w.heap.size w wr) (fun v _ => n - (intOf v).toNat)
  case atStart => exact ⟨0, by omega, rfl, rfl, Below.refl _ _⟩
  case round =>
    obtain ⟨i, hi, rfl, hc, hb⟩ := hrel
    have HB := Lib.hid hb; have HC := Lib.hid hc
    clear hb hc
    by_cases hlt : i < n
    · have hd : decide ((i : Int) < (n : Int)) = true := by simp; omega
      obtain ⟨y, hy⟩ : ∃ y, L[i]? = some y := ⟨_, List.getElem?_eq_getElem (by rw [← HN.out]; exact hlt)⟩
      obtain ⟨A, hqA, _, hcell⟩ := (H.out.next HB.out).it hy
      subst hqA
      have HY := Lib.hid hy
      have hi0 : (0 : Int) ≤ (i : Int) := by omega
      have hin : (i : Int) < (n : Int) := by omega
      clear hy
      by_cases hxy : x = y
      · have HR : Hid (L.contains x = true) := Lib.hid (by rw [List.contains_iff_mem, hxy]; exact List.mem_of_getElem? HY.out)
        have he : (x == y) = true := by simpa using hxy
        clear hxy
        go_wp2_with fail
        go_ret
        exact ⟨⟨i, rfl, by rw [HR.out]; simp⟩, HB.out⟩
      · have HR : Hid ((L.take (i + 1)).contains x = false) := Lib.hid (by
          rw [List.take_add_one, HY.out]
          have := HC.out
          simp at this ⊢
          exact ⟨this, hxy⟩)
        have he : (x == y) = false := by simpa using hxy
        clear hxy
        go_wp2_with fail
        exact ⟨⟨i + 1, by omega, by go_num, HR.out, HB.out⟩, by simp [intOf]; omega⟩
    · have hd : decide ((i : Int) < (n : Int)) = false := by simp; omega
      have HR : Hid (L.contains x = false) := Lib.hid (by
        have := HC.out
        rwa [show i = L.length by rw [← HN.out]; omega, List.take_length] at this)
      go_wp2_with fail
      go_ret
      exact ⟨⟨-1, rfl, by rw [HR.out]; rfl⟩, HB.out⟩
theorem contains_any (L : List Int) (q : Option Addr) (c : Nat) (x : Int) (w : World) (hl : L.length ≤ 1000) (h : RdX w q (intCells L)) :
    Calls Try.prog 28 #[.slice q L.length c, .int .i64 x] w fun e w' => e = .returned (.bool (L.contains x)) ∧ Below w.heap.size w w' := by
  have hh := index_any L q c x w hl h
  generalize L.length = n at *
  generalize L.contains x = r at *
  go_enter Try.func28, Try.ntmps28
  go_wp2_with fail
  refine hh.mono ?_
  clear hh
  rintro e w1 ⟨⟨i, rfl, hi⟩, hb⟩
  go_wp2_with fail
  go_ret
  exact ⟨rfl, hb⟩
set_option maxHeartbeats 2000000 in
set_option maxRecDepth 100000 in
theorem edge_any (f t : Int) (w : World) :
    Calls Try.prog 7 #[.int .i64 f, .int .i64 t] w fun e w' => e = .returned (.bool (edgeB f t)) ∧ Below w.heap.size w w' := by
  have hmm := @run_makeMap Try.prog
  have hz : ∀ W, (zeroValue 31).run Try.prog W = .ok (.slice none 0 0) W := fun W => rfl
  go_enter Try.func7, Try.ntmps7
  have hs := MapSt.made w
  go_wp2_with (first
    | (refine wpList_insert_row rfl _ _ _ _ rfl _ _ _ Try.underlying65 Try.underlying3 rfl _ _ rfl _ rfl _ _ rfl rfl (by first | rfl | simp) ‹_› rfl ?_; clear hs; intro w2 hs)
    | (refine wpList_lookup_row rfl _ _ _ rfl _ _ _ Try.underlying65 Try.underlying3 rfl hz _ _ rfl _ rfl ‹_› ?_; intro v hv))
  obtain ⟨q, c, rfl, hr⟩ := row_edge hv
  have HB := Lib.hid hs.2.2.2
  clear hv hs hmm hz
  have hc := contains_any (edgeTo f) q c t w2 (edgeTo_len f) hr
  rw [show (edgeTo f).contains t = edgeB f t from rfl] at hc
  refine hc.mono ?_
  clear hc
  rintro e w3 ⟨rfl, hb⟩
  clear hr
  go_wp2_with fail
  go_ret
  exact ⟨rfl, HB.out.trans (hb.mono HB.out.size)⟩
theorem run_eql_i2 (x y u v : Int) (w : World) : (binOp .eql 62 (.agg #[.int .i64 x, .int .i64 y]) (.agg #[.int .i64 u, .int .i64 v])).run Try.prog w = .ok (.bool (x == u && y == v)) w := by
  obtain ⟨i, hi⟩ := Option.isSome_iff_exists.1 (show (Try.prog.info? 3).isSome = true by kernel_rfl)
  have hc : Try.prog.cellsOf 3 = 1 := by kernel_rfl
  rw [run_eql_struct, show (10000 : Nat) = 9999 + 1 from rfl, run_equalIn_array w 9999 _ _ Try.underlying62 hi, hc]
  cases h1 : x == u <;> cases h2 : y == v <;> simp [List.range, List.range.loop, Op.eqItems, go_sem, h1, h2, Result.andThen]
attribute [local go_sem ↓] run_eql_i2
def pairs8 : List (Int × Int) := [(0, 1), (1, 0), (1, 2), (2, 0), (2, 3), (3, 2), (3, 4), (4, 2)]
def pairCells (l : List (Int × Int)) : List Value := l.flatMap fun p => [.int .i64 p.1, .int .i64 p.2]
theorem pairCells_at (l : List (Int × Int)) (i : Nat) (p : Int × Int) (h : l[i]? = some p) : (pairCells l)[i * 2]? = some (.int .i64 p.1) ∧ (pairCells l)[i * 2 + 1]? = some (.int .i64 p.2) := by
  induction l generalizing i with
  | nil => simp at h
  | cons q l ih =>
    cases i with
    | zero => simp at h; subst h; exact ⟨rfl, rfl⟩
    | succ i =>
      have h2 : l[i]? = some p := by simpa using h
      obtain ⟨a, b⟩ := ih i h2
      have e : (i + 1) * 2 = i * 2 + 1 + 1 := by omega
      rw [e]
      exact ⟨a, b⟩
theorem edgeB_pairs (f t : Int) : edgeB f t = pairs8.contains (f, t) := by
  unfold edgeB edgeTo
  by_cases e0 : f = 0
  · subst e0; simp [pairs8]
  by_cases e1 : f = 1
  · subst e1; simp [pairs8]
  by_cases e2 : f = 2
  · subst e2; simp [pairs8]
  by_cases e3 : f = 3
  · subst e3; simp [pairs8]
  by_cases e4 : f = 4
  · subst e4; simp [pairs8]
  simp [pairs8, e0, e1, e2, e3, e4]
set_option maxHeartbeats 2000000 in
set_option maxRecDepth 100000 in
theorem refEdge_any (f t : Int) (w : World) :
    Calls Try.prog 8 #[.int .i64 f, .int .i64 t] w fun e w' => e = .returned (.bool (edgeB f t)) ∧ Below w.heap.size w w' := by
  rw [edgeB_pairs]
  go_enter Try.func8, Try.ntmps8
  go_wp2_with fail
  have hb1 := below1' w (.cells (pairCells pairs8).toArray 62)
  have hx1 := Blk.new w (pairCells pairs8) 62
  change Below w.heap.size w (w.alloc (.cells #[.int .i64 0, .int .i64 1, .int .i64 1, .int .i64 0, .int .i64 1, .int .i64 2, .int .i64 2, .int .i64 0, .int .i64 2, .int .i64 3, .int .i64 3, .int .i64 2, .int .i64 3, .int .i64 4, .int .i64 4, .int .i64 2] 62)) at hb1
  change Blk (w.alloc (.cells #[.int .i64 0, .int .i64 1, .int .i64 1, .int .i64 0, .int .i64 1, .int .i64 2, .int .i64 2, .int .i64 0, .int .i64 2, .int .i64 3, .int .i64 3, .int .i64 2, .int .i64 3, .int .i64 4, .int .i64 4, .int .i64 2] 62)) _ _ at hx1
  have HX1 := Lib.hid hx1; have HB1 := Lib.hid hb1
  clear hx1 hb1
  generalize w.alloc (.cells #[.int .i64 0, .int .i64 1, .int .i64 1, .int .i64 0, .int .i64 1, .int .i64 2, .int .i64 2, .int .i64 0, .int .i64 2, .int .i64 3, .int .i64 3, .int .i64 2, .int .i64 3, .int .i64 4, .int .i64 4, .int .i64 2] 62) = w1 at *
  generalize hg1 : w.heap.size = g1 at *
  have HG1 := Lib.hid hg1
  clear hg1
  go_loopw [6] (fun v wr => ∃ i : Nat, i ≤ 8 ∧ v = .int .i64 i ∧ (pairs8.take i).contains (f, t) = false ∧ Below w1.heap.size w1 wr) (fun v _ => 8 - (intOf v).toNat)
  case atStart => exact ⟨0, by omega, rfl, rfl, Below.refl _ _⟩
  case round =>
    obtain ⟨i, hi, rfl, hc, hb⟩ := hrel
    have HB := Lib.hid hb; have HC := Lib.hid hc
    clear hb hc
    by_cases hlt : i < 8
    · have hd : decide ((i : Int) < 8) = true := by simp; omega
      obtain ⟨y, hy⟩ : ∃ y, pairs8[i]? = some y := ⟨_, List.getElem?_eq_getElem (by simpa [pairs8] using hlt)⟩
      obtain ⟨p1, p2⟩ := pairCells_at pairs8 i y hy
      have c0 := (HX1.out.next HB.out).cell _ _ p1
      have c1 := (HX1.out.next HB.out).cell _ _ p2
      have HY := Lib.hid hy
      have hi0 : (0 : Int) ≤ (i : Int) := by omega
      have hin : (i : Int) < 8 := by omega
      clear hy p1 p2
      by_cases hxy : y = (f, t)
      · have HR : Hid (pairs8.contains (f, t) = true) := Lib.hid (by rw [List.contains_iff_mem, ← hxy]; exact List.mem_of_getElem? HY.out)
        have he : (y.1 == f && y.2 == t) = true := by simp [hxy]
        clear hxy
        go_wp2_with fail
        go_ret
        exact ⟨congrArg (fun b => Ending.returned (.bool b)) HR.out.symm, by rw [HG1.out]; exact HB1.out.trans (HB.out.mono (Nat.le_of_lt HX1.out.lt))⟩
      · have HR : Hid ((pairs8.take (i + 1)).contains (f, t) = false) := Lib.hid (by
          rw [List.take_add_one, HY.out]
          have := HC.out
          simp at this ⊢
          exact ⟨this, fun e => hxy e.symm⟩)
        have he : (y.1 == f && y.2 == t) = false := by
          rw [← Bool.not_eq_true]
          intro h
          simp at h
          exact hxy (Prod.ext h.1 h.2)
        clear hxy
        go_wp2_with fail
        exact ⟨⟨i + 1, by omega, by go_num, HR.out, HB.out⟩, by simp [intOf]; omega⟩
    · have hd : decide ((i : Int) < 8) = false := by simp; omega
      have HR : Hid (pairs8.contains (f, t) = false) := Lib.hid (by
        have := HC.out
        rwa [show i = 8 by omega] at this)
      go_wp2_with fail
      go_ret
      exact ⟨congrArg (fun b => Ending.returned (.bool b)) HR.out.symm, by rw [HG1.out]; exact HB1.out.trans (HB.out.mono (Nat.le_of_lt HX1.out.lt))⟩
end Go.Proofs.Ytgoojlfpngmdlaa
