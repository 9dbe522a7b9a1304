/- The plain law of insertion: a duty laid into its place of a row in order. Conditions: those of each theorem. · The walk over belief.Inject. Conditions: cars and duties that can be read, at most 900 duties. · The plain law of Inject: what the code lays into place is what the reference picks. Conditions: a belief of the car. -/
import Derived.Test.YtfmmiafdlfdfoaaZBsf
import Derived.Test.YtfmmiafdlfdfoaaZInjNew
import Derived.Test.YtfmmiafdlfdfoaaZCallsEach
import Derived.Laws.OwnMore
namespace Go.Proofs.Ytfmmiafdlfdfoaa
open Go.RowKit
def insK (l : List Duty) (d : Duty) : List Duty := if l.any (fun e => key e == key d) then l else l.filter (fun e => key e < key d) ++ d :: l.filter (fun e => key d < key e)
def insF (l : List Duty) (ps : List (Int × Int)) : List Duty := ps.foldl (fun l p => insK l (p.1, p.2, 0)) l
theorem insF_snoc (l : List Duty) (ps : List (Int × Int)) (k : Nat) (p : Int × Int) (h : ps[k]? = some p) : insF l (ps.take (k + 1)) = insK (insF l (ps.take k)) (p.1, p.2, 0) := by
  rw [List.take_add_one, h]
  simp [insF]
theorem insK_found (l : List Duty) (d e : Duty) (i : Nat) (h : l[i]? = some e) (hk : key e = key d) : insK l d = l := by
  unfold insK
  rw [if_pos (List.any_eq_true.2 ⟨e, List.mem_of_getElem? h, by simpa using hk⟩)]
theorem insK_new (l : List Duty) (d : Duty) (i : Nat) (hs : l.Pairwise (fun e d => key e < key d)) (h1 : ∀ (t : Nat) e, l[t]? = some e → t < i → key e < key d) (h2 : ∀ (t : Nat) e, l[t]? = some e → i ≤ t → key d ≤ key e) (hf : ¬ ∃ e, l[i]? = some e ∧ key e = key d) : insK l d = l.take i ++ d :: l.drop i := by
  have h3 : ∀ (t : Nat) e, l[t]? = some e → i ≤ t → key d < key e := by
    intro t e he ht
    have h := h2 t e he ht
    rcases Int.lt_or_eq_of_le h with h | h
    · exact h
    · exfalso
      obtain ⟨x, hx⟩ : ∃ x, l[i]? = some x := ⟨_, List.getElem?_eq_getElem (by have := (List.getElem?_eq_some_iff.1 he).1; omega)⟩
      have hx2 := h2 i x hx (Nat.le_refl _)
      by_cases hti : i < t
      · have := sorted_lt hs hx he hti; omega
      · obtain rfl : t = i := by omega
        exact hf ⟨e, he, h.symm⟩
  have hn : l.any (fun e => key e == key d) = false := by
    rw [List.any_eq_false]
    intro e he
    obtain ⟨t, ht⟩ := List.getElem?_of_mem he
    by_cases h : t < i
    · have := h1 t e ht h; simp; omega
    · have := h3 t e ht (by omega); simp; omega
  unfold insK
  rw [hn, if_neg (by simp)]
  have ha : ∀ e ∈ l.take i, key e < key d := fun e he => by
    obtain ⟨t, ht⟩ := List.getElem?_of_mem he
    rw [List.getElem?_take] at ht
    split at ht
    · rename_i h; exact h1 t e ht h
    · cases ht
  have hb : ∀ e ∈ l.drop i, key d < key e := fun e he => by
    obtain ⟨t, ht⟩ := List.getElem?_of_mem he
    rw [List.getElem?_drop] at ht
    exact h3 (i + t) e ht (by omega)
  have e1 : l.filter (fun e => decide (key e < key d)) = l.take i := by
    conv => lhs; rw [← List.take_append_drop i l]
    rw [List.filter_append, List.filter_eq_self.2 (fun e he => by simpa using ha e he), List.filter_eq_nil_iff.2 (fun e he => by have := hb e he; simp; omega), List.append_nil]
  have e2 : l.filter (fun e => decide (key d < key e)) = l.drop i := by
    conv => lhs; rw [← List.take_append_drop i l]
    have a1 : (l.take i).filter (fun e => decide (key d < key e)) = [] := List.filter_eq_nil_iff.2 (fun e he => by have := ha e he; simp; omega)
    have a2 : (l.drop i).filter (fun e => decide (key d < key e)) = l.drop i := List.filter_eq_self.2 (fun e he => by simpa using hb e he)
    rw [List.filter_append, a1, a2, List.nil_append]
  rw [e1, e2]
theorem insK_mem (l : List Duty) (d x : Duty) : x ∈ insK l d → x ∈ l ∨ x = d := by
  unfold insK
  split
  · exact fun h => .inl h
  · intro h
    rcases List.mem_append.1 h with h | h
    · exact .inl (List.mem_filter.1 h).1
    · rcases List.mem_cons.1 h with h | h
      · exact .inr h
      · exact .inl (List.mem_filter.1 h).1
theorem insK_pair (l : List Duty) (d : Duty) (hs : l.Pairwise (fun e d => key e < key d)) : (insK l d).Pairwise (fun e d => key e < key d) := by
  unfold insK
  split
  · exact hs
  · refine List.pairwise_append.2 ⟨hs.filter _, List.pairwise_cons.2 ⟨fun x hx => by simpa using (List.mem_filter.1 hx).2, hs.filter _⟩, fun a ha b hb => ?_⟩
    have h1 : key a < key d := by simpa using (List.mem_filter.1 ha).2
    rcases List.mem_cons.1 hb with rfl | hb
    · exact h1
    · have h2 : key d < key b := by simpa using (List.mem_filter.1 hb).2
      omega
theorem insK_len (l : List Duty) (d : Duty) : (insK l d).length ≤ l.length + 1 := by
  by_cases h : l.any (fun e => key e == key d) = true
  · unfold insK; rw [if_pos h]; omega
  · unfold insK
    rw [if_neg h]
    have : ∀ l : List Duty, (l.filter (fun e => key e < key d)).length + (l.filter (fun e => key d < key e)).length ≤ l.length := by
      intro l
      induction l with
      | nil => simp
      | cons a l ih =>
        simp only [List.filter_cons]
        by_cases h1 : key a < key d
        · have h2 : ¬ key d < key a := by omega
          simp [h1, h2] at ih ⊢; omega
        · by_cases h2 : key d < key a
          · simp [h1, h2] at ih ⊢; omega
          · simp [h1, h2] at ih ⊢; omega
    have := this l
    simp only [List.length_append, List.length_cons]
    omega
theorem insF_ok (l : List Duty) (ps : List (Int × Int)) (hs : l.Pairwise (fun e d => key e < key d)) (hk : ∀ e ∈ l, 1 ≤ e.2.1 ∧ e.2.1 ≤ 2) (hp : ∀ p ∈ ps, 1 ≤ p.2 ∧ p.2 ≤ 2) : ∀ k, (insF l (ps.take k)).Pairwise (fun e d => key e < key d) ∧ (∀ e ∈ insF l (ps.take k), 1 ≤ e.2.1 ∧ e.2.1 ≤ 2) ∧ (insF l (ps.take k)).length ≤ l.length + k := by
  intro k
  induction k with
  | zero => exact ⟨hs, hk, Nat.le_refl _⟩
  | succ k ih =>
    cases h : ps[k]? with
    | none => rw [List.take_add_one, h]; simp only [Option.toList_none, List.append_nil]; exact ⟨ih.1, ih.2.1, by omega⟩
    | some p =>
      rw [insF_snoc l ps k p h]
      refine ⟨insK_pair _ _ ih.1, fun e he => ?_, ?_⟩
      · rcases insK_mem _ _ _ he with h1 | rfl
        · exact ih.2.1 e h1
        · exact hp p (List.mem_of_getElem? h)
      · have := insK_len (insF l (ps.take k)) (p.1, p.2, 0)
        omega
theorem duty_split (L : List Duty) : ∀ (j : Nat) v, (dutyCells L)[j]? = some v → ∃ (i : Nat) (d : Duty) (r : Nat), L[i]? = some d ∧ d.cells[r]? = some v ∧ j = i * 3 + r := by
  induction L with
  | nil => intro j v h; simp [dutyCells] at h
  | cons d L ih =>
    intro j v h
    simp only [dutyCells, List.flatMap_cons] at h
    by_cases hj : j < 3
    · rw [List.getElem?_append_left (by simpa using hj)] at h
      exact ⟨0, d, j, rfl, h, by omega⟩
    · rw [List.getElem?_append_right (by simp; omega)] at h
      obtain ⟨i, e, r, h1, h2, h3⟩ := ih (j - 3) v (by unfold dutyCells; simpa using h)
      exact ⟨i + 1, e, r, by simpa using h1, h2, by omega⟩
end Go.Proofs.Ytfmmiafdlfdfoaa
namespace Go.Proofs.Ytfmmiafdlfdfoaa
open Go.RowKit
/-- What the code's Inject hands back. -/
def injectN (b : BldV) (s : BelV) (c : CS) : List Duty := insF s.du (listC (both c (hallC b)))
def injectW (b : BldV) (car : Int) (s : BelV) (c : CS) : BelV := if stateB b car s then ⟨s.fl, s.dir, s.door, injectN b s c, s.still, s.late && decide ((injectN b s c).length = 0)⟩ else zeroB
def zerosD (n : Nat) : Array Value := madeCells #[.int .i64 0, .int .i64 0, .int .i64 0] (n * 3)
theorem run_mkD (n : Nat) (hn : n ≤ 5000) (W : World) :
    (Instr.makeSlice 36 (.int .i64 (n : Int)) (.int .i64 (n : Int))).run Try.prog W = .ok (.slice (some ⟨W.heap.size, 0, none⟩) n n) (W.alloc (.cells (zerosD n) 71)) := by
  obtain ⟨i, hi, hz0, hz1, hz2⟩ := info_parts infoD
  have h := run_make (P := Try.prog) W 36 71 i (.agg #[.int .i64 0, .int .i64 0, .int .i64 0]) Try.underlying36 hi hz0 .i64 .i64 n n (by omega) (Int.le_refl _) (by rw [hz2]; omega) (by omega)
  rw [h]
  simp [zerosD, hz1, Value.cells]
theorem zerosD_size (n : Nat) : (zerosD n).size = n * 3 := size_madeCells _ _
/-- copy of all duties into a new row. -/
theorem copy_duties (w : World) (g5 n cap' : Nat) (q' : Option Addr) (L : List Duty) (hl : L.length = n) (hn : n ≤ 5000) (base : Nat) (hb : base ≤ g5) (hg : w.heap[g5]? = some (.cells (zerosD n) 71 (0, 0))) (hr : RdD w q' L) : ∃ (r : Value) (w' : World),
    (Builtin.copy_ #[36, 36] 3 #[.slice (some ⟨g5, 0, none⟩) n n, .slice q' n cap']).run Try.prog w = .ok r w' ∧ w'.ownsRow base 71 3 (.slice (some ⟨g5, 0, none⟩) n n) n (dutyCells L) ∧ w.grownBy w' (some g5) := by
  have hX : (dutyCells L).length = n * 3 := by rw [dutyCells_len, hl]
  cases q' with
  | none =>
    have h0 : L = [] := by
      cases L with
      | nil => rfl
      | cons d L =>
        obtain ⟨A, hA, _⟩ := hr 0 d rfl
        cases hA
    subst h0
    obtain rfl : n = 0 := hl.symm
    refine ⟨goInt 0, w, ?_, ⟨by simp [dutyCells], .inr ⟨g5, 0, zerosD 0, rfl, hb, hg, Nat.le_refl _, by omega, zerosD_size 0, by simp [dutyCells]⟩⟩, ⟨rfl, rfl, rfl, Nat.le_refl _, fun _ _ _ => rfl⟩⟩
    obtain ⟨i, hi, _⟩ := info_parts infoD
    simp [Builtin.copy_, run_underlying Try.underlying36, Builtin.lenOf, Builtin.firstCells, sizeOf, typeInfo, hi, storeCells]
  | some a =>
    have h := run_copy_rowK (P := Try.prog) w 36 36 3 71 g5 0 n n a n cap' 3 (zerosD n) 71 (dutyCells L) Try.underlying36 (by kernel_rfl) hg ?_ (fun j v hj => ?_) ?_ (dutyCells_one L)
    · refine ⟨_, _, h, ⟨hX, .inr ⟨g5, n, _, rfl, hb, setRow_heap _ _ _ _ _ _ hg, Nat.le_refl _, by unfold maxLen; omega, ?_, ?_⟩⟩, ⟨rfl, rfl, rfl, by simp [World.setRow], fun k _ hk => setRow_other _ _ _ _ (fun e => hk (by rw [e]))⟩⟩
      · have := zerosD_size n
        simp [hX]; omega
      · have := zerosD_size n
        simp only [List.take_zero, List.nil_append, Nat.zero_add]
        rw [List.take_append_of_le_length (by omega), ← hX, List.take_length]
    · show min n n * 3 = _
      rw [Nat.min_self, hX]
    · obtain ⟨i, d, r, h1, h2, rfl⟩ := duty_split L j v hj
      obtain ⟨A, hA, _, hc⟩ := hr i d h1
      obtain rfl : a = A := by simpa using hA
      exact hc r v h2
    · rw [hX, zerosD_size]; omega
/-- The list of entries, told: it is a row of its own. -/
def entsR (lo : Nat) (all : List (Int × Int)) (v : Value) (w : World) : Prop := ∃ q cap, v = .slice q all.length cap ∧ w.ownsRow lo 53 5 (.slice q all.length cap) all.length (cells all)
theorem entsR_stable (lo : Nat) (all : List (Int × Int)) (v : Value) : Grow.Stable (entsR lo all v) := by
  rintro w w' ⟨q, cap, hv, hr⟩ hb
  exact ⟨q, cap, hv, rowLater hr hb⟩
theorem entsR_form {lo : Nat} {all : List (Int × Int)} {v : Value} {w : World} (h : entsR lo all v w) : ∃ q cap, v = .slice q all.length cap := by
  obtain ⟨q, cap, hv, _⟩ := h
  exact ⟨q, cap, hv⟩
theorem entsR_out {lo : Nat} {all : List (Int × Int)} {q : Option Addr} {cap : Nat} {w : World} (h : entsR lo all (.slice q all.length cap) w) : w.ownsRow lo 53 5 (.slice q all.length cap) all.length (cells all) := by
  obtain ⟨q', cap', hv, hr⟩ := h
  obtain ⟨rfl, rfl⟩ : q = q' ∧ cap = cap' := by simpa using hv
  exact hr
/-- Rows of two types lie in two blocks. -/
theorem rows_apart {w : World} {b1 b2 s1 s2 n1 n2 : Nat} {e1 e2 : TypeId} {v1 v2 : Value} {x1 x2 : List Value} (hne : e1 ≠ e2) (h1 : w.ownsRow b1 e1 s1 v1 n1 x1) (h2 : w.ownsRow b2 e2 s2 v2 n2 x2) : v1.ownBlock = none ∨ v1.ownBlock ≠ v2.ownBlock := by
  rcases h1.2 with ⟨rfl, _⟩ | ⟨g, cap, cur, rfl, _, hgb, _⟩
  · exact .inl rfl
  · exact .inr (block_not_row hgb hne h2)
end Go.Proofs.Ytfmmiafdlfdfoaa
namespace Go.Proofs.Ytfmmiafdlfdfoaa
open Go.RowKit
theorem sorted_ext : ∀ (l1 l2 : List Duty), l1.Pairwise (fun e d => key e < key d) → l2.Pairwise (fun e d => key e < key d) → (∀ x, x ∈ l1 ↔ x ∈ l2) → l1 = l2
  | [], l2, _, _, h => by
    cases l2 with
    | nil => rfl
    | cons b l2 => exact absurd ((h b).2 List.mem_cons_self) (by simp)
  | a :: l1, [], _, _, h => absurd ((h a).1 List.mem_cons_self) (by simp)
  | a :: l1, b :: l2, h1, h2, h => by
    obtain ⟨p1, q1⟩ := List.pairwise_cons.1 h1
    obtain ⟨p2, q2⟩ := List.pairwise_cons.1 h2
    have hab : a = b := by
      rcases List.mem_cons.1 ((h a).1 List.mem_cons_self) with e | ha
      · exact e
      · rcases List.mem_cons.1 ((h b).2 List.mem_cons_self) with e | hb
        · exact e.symm
        · have := p2 a ha; have := p1 b hb; omega
    subst hab
    rw [sorted_ext l1 l2 q1 q2 fun x => ?_]
    constructor
    · intro hx
      rcases List.mem_cons.1 ((h x).1 (List.mem_cons_of_mem _ hx)) with rfl | h'
      · have := p1 x hx; omega
      · exact h'
    · intro hx
      rcases List.mem_cons.1 ((h x).2 (List.mem_cons_of_mem _ hx)) with rfl | h'
      · have := p2 x hx; omega
      · exact h'
theorem insK_iff (l : List Duty) (d x : Duty) : x ∈ insK l d ↔ x ∈ l ∨ (x = d ∧ ∀ e ∈ l, key e ≠ key d) := by
  unfold insK
  by_cases h : l.any (fun e => key e == key d) = true
  · rw [if_pos h]
    refine ⟨.inl, fun h' => ?_⟩
    rcases h' with h' | ⟨_, h'⟩
    · exact h'
    · obtain ⟨e, he, hk⟩ := List.any_eq_true.1 h
      exact absurd (by simpa using hk) (h' e he)
  · rw [if_neg h]
    have hno : ∀ e ∈ l, key e ≠ key d := fun e he hk => h (List.any_eq_true.2 ⟨e, he, by simpa using hk⟩)
    rw [List.mem_append, List.mem_cons, List.mem_filter, List.mem_filter]
    constructor
    · rintro (⟨h', _⟩ | rfl | ⟨h', _⟩)
      · exact .inl h'
      · exact .inr ⟨rfl, hno⟩
      · exact .inl h'
    · rintro (h' | ⟨rfl, _⟩)
      · have := hno x h'
        by_cases hlt : key x < key d
        · exact .inl ⟨h', by simpa using hlt⟩
        · exact .inr (.inr ⟨h', by simp; omega⟩)
      · exact .inr (.inl rfl)
theorem insF_iff : ∀ (ps : List (Int × Int)) (l : List Duty) (x : Duty), ps.Pairwise (fun p q => keyE p < keyE q) → (x ∈ insF l ps ↔ x ∈ l ∨ ∃ p ∈ ps, x = (p.1, p.2, 0) ∧ ∀ e ∈ l, key e ≠ keyE p)
  | [], l, x, _ => by simp [insF]
  | p :: ps, l, x, hs => by
    obtain ⟨h1, h2⟩ := List.pairwise_cons.1 hs
    have e : insF l (p :: ps) = insF (insK l (p.1, p.2, 0)) ps := rfl
    have hk : key (p.1, p.2, 0) = keyE p := rfl
    rw [e, insF_iff ps _ x h2]
    constructor
    · rintro (h | ⟨p', hp', rfl, hno⟩)
      · rcases (insK_iff _ _ _).1 h with h' | ⟨hx, h'⟩
        · exact .inl h'
        · exact .inr ⟨p, List.mem_cons_self, hx, h'⟩
      · exact .inr ⟨p', List.mem_cons_of_mem _ hp', rfl, fun e he => hno e ((insK_iff _ _ _).2 (.inl he))⟩
    · rintro (h | ⟨p', hp', rfl, hno⟩)
      · exact .inl ((insK_iff _ _ _).2 (.inl h))
      · rcases List.mem_cons.1 hp' with rfl | hp'
        · exact .inl ((insK_iff _ _ _).2 (.inr ⟨rfl, hno⟩))
        · refine .inr ⟨p', hp', rfl, fun e he => ?_⟩
          rcases (insK_iff _ _ _).1 he with he | ⟨rfl, _⟩
          · exact hno e he
          · have := h1 p' hp'; rw [hk]; omega
theorem listC_iff (c : CS) (p : Int × Int) : p ∈ listC c ↔ ∃ k : Nat, k < 32 ∧ p.1 = k ∧ (p.2 = 1 ∨ p.2 = 2) ∧ has c p.1 p.2 = true := by
  refine ⟨listC_mem c p, ?_⟩
  rintro ⟨k, hk, h1, h2, hh⟩
  obtain ⟨f, d⟩ := p
  simp only at h1 h2 hh
  subst h1
  unfold listC listTo
  refine List.mem_flatMap.2 ⟨k, List.mem_range.2 hk, ?_⟩
  unfold rowOf item
  rw [List.mem_append]
  rcases h2 with rfl | rfl
  · exact .inl (by rw [if_pos hh]; simp)
  · exact .inr (by rw [if_pos hh]; simp)
theorem has_both (c h : CS) (k : Nat) (d : Int) (hk : k < 32) (hd : d = 1 ∨ d = 2) : has (both c h) k d = (has c k d && has h k d) := by
  rcases hd with rfl | rfl
  · rw [has_up _ _ (by omega) (by omega), has_up _ _ (by omega) (by omega), has_up _ _ (by omega) (by omega)]
    show (c.1 &&& h.1).getLsbD _ = _
    rw [BitVec.getLsbD_and]
  · rw [has_down _ _ (by omega) (by omega), has_down _ _ (by omega) (by omega), has_down _ _ (by omega) (by omega)]
    show (c.2 &&& h.2).getLsbD _ = _
    rw [BitVec.getLsbD_and]
theorem ageOf_ge (f d : Int) : ∀ (l : List Duty) (a : Int), (∀ e ∈ l, 0 ≤ e.2.2) → (0 ≤ a ∨ ∃ e ∈ l, e.1 = f ∧ e.2.1 = d) → 0 ≤ l.foldl (fun a x => if x.1 = f ∧ x.2.1 = d then x.2.2 else a) a
  | [], a, _, h => by
    rcases h with h | ⟨e, he, _⟩
    · exact h
    · simp at he
  | x :: l, a, hp, h => by
    rw [List.foldl_cons]
    refine ageOf_ge f d l _ (fun e he => hp e (List.mem_cons_of_mem _ he)) ?_
    by_cases hx : x.1 = f ∧ x.2.1 = d
    · rw [if_pos hx]; exact .inl (hp x List.mem_cons_self)
    · rw [if_neg hx]
      rcases h with h | ⟨e, he, h1, h2⟩
      · exact .inl h
      · rcases List.mem_cons.1 he with rfl | he
        · exact absurd ⟨h1, h2⟩ hx
        · exact .inr ⟨e, he, h1, h2⟩
theorem inject_eq (b : BldV) (car : Int) (s : BelV) (c : CS) (hs : stateB b car s = true) : insF s.du (listC (both c (hallC b))) = injectL s.du c (listC (hallC b)) := by
  obtain ⟨_, hd, hp⟩ := (stateB_iff b car s).1 hs
  have hdu : ∀ e ∈ s.du, (∃ k : Nat, k < 32 ∧ e.1 = k) ∧ (e.2.1 = 1 ∨ e.2.1 = 2) ∧ 0 ≤ e.2.2 ∧ callB b e.1 e.2.1 = true := fun e he => by
    obtain ⟨h1, h2, _⟩ := (dutyB_iff b _ e).1 (hd e he)
    have hv : validN b = 0 := state_valid b car s hs
    obtain ⟨_, hf⟩ := valid_fl b hv
    have h3 := h1
    unfold callB isCallB at h3
    simp only [Bool.and_eq_true, Bool.or_eq_true, decide_eq_true_eq, inR_iff] at h3
    refine ⟨⟨e.1.toNat, by omega, by omega⟩, by omega, h2, h1⟩
  have hin : ∀ e ∈ s.du, (e.1, e.2.1) ∈ listC (hallC b) := fun e he => by
    obtain ⟨⟨k, hk, hk1⟩, h2, _, h3⟩ := hdu e he
    refine (listC_iff _ _).2 ⟨k, hk, hk1, h2, ?_⟩
    show has (hallC b) e.1 e.2.1 = true
    rw [hk1, hall_has b k _ hk (by omega) (by omega), ← hk1]; exact h3
  have hone : ∀ e ∈ s.du, ∀ f ∈ s.du, key e = key f → e = f := fun e he f hf hk => by
    obtain ⟨i, hi⟩ := List.getElem?_of_mem he
    obtain ⟨j, hj⟩ := List.getElem?_of_mem hf
    rcases Nat.lt_trichotomy i j with h | h | h
    · have := sorted_lt hp hi hj h; omega
    · subst h; rw [hi] at hj; exact Option.some.inj hj
    · have := sorted_lt hp hj hi h; omega
  have hages : ∀ e ∈ s.du, 0 ≤ e.2.2 := fun e he => (hdu e he).2.2.1
  have hall : ∀ p ∈ listC (both c (hallC b)), 1 ≤ p.2 ∧ p.2 ≤ 2 := fun p hp => by
    obtain ⟨_, _, _, h, _⟩ := listC_mem _ p hp
    omega
  have hso := insF_ok s.du (listC (both c (hallC b))) hp (fun e he => by have := (hdu e he).2.1; omega) hall (listC (both c (hallC b))).length
  rw [List.take_length] at hso
  refine sorted_ext _ _ hso.1 (injectL_pair _ _ _ (listC_pair _)) fun x => ?_
  rw [insF_iff _ _ _ (listC_pair _)]
  unfold injectL
  rw [List.mem_flatMap]
  constructor
  · rintro (hx | ⟨p, hpm, rfl, hno⟩)
    · refine ⟨(x.1, x.2.1), hin x hx, ?_⟩
      have ha : 0 ≤ ageOf s.du x.1 x.2.1 := ageOf_ge _ _ _ _ hages (.inr ⟨x, hx, rfl, rfl⟩)
      obtain ⟨e, he, h1, h2, h3⟩ := ageOf_mem s.du x.1 x.2.1 ha
      obtain rfl : e = x := hone e he x hx (by unfold key; rw [h1, h2])
      unfold itemJ
      rw [if_pos ha, h3]
      simp
    · obtain ⟨k, hk, h1, h2, hh⟩ := listC_mem _ p hpm
      rw [h1, has_both c _ k p.2 hk h2, Bool.and_eq_true] at hh
      refine ⟨p, (listC_iff _ _).2 ⟨k, hk, h1, h2, by rw [h1]; exact hh.2⟩, ?_⟩
      have ha : ¬ 0 ≤ ageOf s.du p.1 p.2 := fun ha => by
        obtain ⟨e, he, e1, e2, _⟩ := ageOf_mem s.du p.1 p.2 ha
        exact hno e he (by unfold key keyE; rw [e1, e2])
      unfold itemJ
      rw [if_neg ha, if_pos (by rw [h1]; exact hh.1)]
      simp
  · rintro ⟨p, hpm, hx⟩
    obtain ⟨k, hk, h1, h2, hh⟩ := listC_mem _ p hpm
    unfold itemJ at hx
    split at hx
    · rename_i ha
      obtain ⟨e, he, e1, e2, e3⟩ := ageOf_mem s.du p.1 p.2 ha
      obtain rfl : x = (p.1, p.2, ageOf s.du p.1 p.2) := by simpa using hx
      left
      have : (p.1, p.2, ageOf s.du p.1 p.2) = e := by rw [e3, ← e1, ← e2]
      rw [this]; exact he
    · rename_i ha
      split at hx
      · rename_i hc
        obtain rfl : x = (p.1, p.2, 0) := by simpa using hx
        right
        refine ⟨p, (listC_iff _ _).2 ⟨k, hk, h1, h2, ?_⟩, rfl, fun e he hke => ha ?_⟩
        · rw [h1, has_both c _ k p.2 hk h2, Bool.and_eq_true, ← h1]; exact ⟨hc, hh⟩
        · refine ageOf_ge _ _ _ _ hages (.inr ⟨e, he, ?_⟩)
          have := (hdu e he).2.1
          unfold key keyE at hke
          omega
      · simp at hx
theorem injectW_eq (b : BldV) (car : Int) (s : BelV) (c : CS) : injectW b car s c = injectV b car s c := by
  unfold injectW injectV
  by_cases hs : stateB b car s = true
  · rw [if_pos hs, if_pos hs]
    unfold injectN
    rw [inject_eq b car s c hs]
    by_cases h : 0 < (injectL s.du c (listC (hallC b))).length
    · rw [if_pos h, decide_eq_false (by omega), Bool.and_false]
    · rw [if_neg h, decide_eq_true (by omega), Bool.and_true]
  · rw [if_neg hs, if_neg hs]
end Go.Proofs.Ytfmmiafdlfdfoaa
