/- The plain law of chapter 18: the code's ticks give what the reference says of each call by itself. Conditions: those of each theorem. · The walk over belief.Quiet. Conditions: cars and duties that can be read. · Small words for laws that keep a belief in a variable; the made building, as data. Conditions: none. -/
import Derived.Test.YtfmmiafdlfdfoaaZRef18
import Derived.Test.YtfmmiafdlfdfoaaZInjNew
namespace Go.Proofs.Ytfmmiafdlfdfoaa
open Go.RowKit
/-- The duties of calls whose duties began in the ticks g, behind i ticks. -/
def mkD (all : List (Int × Int)) (i : Nat) (g : Int × Int → Int) : List Duty := all.flatMap fun p => if 0 ≤ g p then [(p.1, p.2, (i : Int) - 1 - g p)] else []
theorem mkD_mem (all : List (Int × Int)) (i : Nat) (g : Int × Int → Int) (d : Duty) : d ∈ mkD all i g ↔ ∃ p ∈ all, 0 ≤ g p ∧ d = (p.1, p.2, (i : Int) - 1 - g p) := by
  unfold mkD
  rw [List.mem_flatMap]
  constructor
  · rintro ⟨p, hp, hd⟩
    split at hd
    · exact ⟨p, hp, by assumption, by simpa using hd⟩
    · simp at hd
  · rintro ⟨p, hp, h0, rfl⟩
    exact ⟨p, hp, by rw [if_pos h0]; simp⟩
theorem mkD_none (all : List (Int × Int)) (i : Nat) : mkD all i (fun _ => -1) = [] := by
  induction all with
  | nil => rfl
  | cons p l ih => unfold mkD at ih ⊢; rw [List.flatMap_cons, ih]; rfl
theorem flatMap_ext {α β : Type} (l : List α) (f g : α → List β) (h : ∀ p ∈ l, f p = g p) : l.flatMap f = l.flatMap g := by
  induction l with
  | nil => rfl
  | cons p l ih => rw [List.flatMap_cons, List.flatMap_cons, h p (by simp), ih fun q hq => h q (by simp [hq])]
def foldF (F : Int × Int → Int) (all : List (Int × Int)) (a : Int) : Int := all.foldl (fun a p => firstI a (F p)) a
theorem foldF_spec (F : Int × Int → Int) : ∀ (all : List (Int × Int)) (a : Int), (foldF F all a = a ∨ ∃ p ∈ all, foldF F all a = F p ∧ 0 ≤ F p) ∧ (0 ≤ a → 0 ≤ foldF F all a ∧ foldF F all a ≤ a) ∧ (∀ p ∈ all, 0 ≤ F p → 0 ≤ foldF F all a ∧ foldF F all a ≤ F p)
  | [], a => ⟨Or.inl rfl, fun h => ⟨h, Int.le_refl _⟩, fun p hp => by simp at hp⟩
  | p :: l, a => by
    obtain ⟨h1, h2, h3⟩ := foldF_spec F l (firstI a (F p))
    have e : foldF F (p :: l) a = foldF F l (firstI a (F p)) := rfl
    rw [e]
    have hf : (firstI a (F p) = F p ∧ 0 ≤ F p ∧ (a < 0 ∨ F p < a)) ∨ (firstI a (F p) = a ∧ ¬ (0 ≤ F p ∧ (a < 0 ∨ F p < a))) := by
      unfold firstI
      split
      · rename_i h; exact Or.inl ⟨rfl, h.1, h.2⟩
      · rename_i h; exact Or.inr ⟨rfl, h⟩
    refine ⟨?_, fun h => ?_, fun q hq h => ?_⟩
    · rcases h1 with h1 | ⟨q, hq, h1, h0⟩
      · rcases hf with ⟨hf, h0, _⟩ | ⟨hf, _⟩
        · exact Or.inr ⟨p, by simp, by rw [h1, hf], h0⟩
        · exact Or.inl (by rw [h1, hf])
      · exact Or.inr ⟨q, by simp [hq], h1, h0⟩
    · have := h2 (by omega)
      omega
    · rcases List.mem_cons.1 hq with rfl | hq
      · have := h2 (by omega)
        omega
      · exact h3 q hq h
theorem foldF_none (F : Int × Int → Int) (all : List (Int × Int)) (h : ∀ p ∈ all, F p < 0) : foldF F all (-1) = -1 := by
  obtain ⟨h1, _, _⟩ := foldF_spec F all (-1)
  rcases h1 with h1 | ⟨p, hp, _, h0⟩
  · exact h1
  · have := h p hp; omega
theorem foldF_min (F : Int × Int → Int) (all : List (Int × Int)) (p : Int × Int) (hp : p ∈ all) (h0 : 0 ≤ F p) (h : ∀ q ∈ all, F q < 0 ∨ F p ≤ F q) : foldF F all (-1) = F p := by
  obtain ⟨h1, _, h3⟩ := foldF_spec F all (-1)
  have h4 := h3 p hp h0
  rcases h1 with h1 | ⟨q, hq, h1, h5⟩
  · omega
  · have := h q hq; omega
theorem foldF_ext (F G : Int × Int → Int) : ∀ (all : List (Int × Int)) (a : Int), (∀ p ∈ all, F p = G p) → foldF F all a = foldF G all a
  | [], _, _ => rfl
  | p :: l, a, h => by
    show foldF F l (firstI a (F p)) = foldF G l (firstI a (G p))
    rw [h p (by simp)]
    exact foldF_ext F G l _ fun q hq => h q (by simp [hq])
theorem followV_ge (b : BldV) (lim f d : Int) : ∀ (L : List MarkV) (i : Nat) (g : Int), (followV b lim f d i g L).1 = -1 ∨ (i : Int) ≤ (followV b lim f d i g L).1
  | [], _, _ => Or.inl rfl
  | m :: L, i, g => by
    unfold followV
    split
    · exact Or.inr (Int.le_refl _)
    · rcases followV_ge b lim f d L (i + 1) (stepG b f d i g m) with h | h
      · exact Or.inl h
      · exact Or.inr (by omega)
theorem stepG_range (b : BldV) (f d : Int) (i : Nat) (g : Int) (m : MarkV) (h1 : -1 ≤ g) (h2 : g < (i : Int)) : -1 ≤ stepG b f d i g m ∧ stepG b f d i g m < ((i + 1 : Nat) : Int) := by
  unfold stepG
  split <;> (try split) <;> omega
theorem late_mk (lim : Int) (all : List (Int × Int)) (i : Nat) (g : Int × Int → Int) : agedLate lim (mkD all i g) = true ↔ ∃ p ∈ all, 0 ≤ g p ∧ lim < (i : Int) - g p := by
  unfold agedLate
  rw [List.any_eq_true]
  constructor
  · rintro ⟨d, hd, hl⟩
    obtain ⟨p, hp, h0, rfl⟩ := (mkD_mem _ _ _ _).1 hd
    refine ⟨p, hp, h0, ?_⟩
    have : lim < (i : Int) - 1 - g p + 1 := by simpa using hl
    omega
  · rintro ⟨p, hp, h0, hl⟩
    refine ⟨_, (mkD_mem _ _ _ _).2 ⟨p, hp, h0, rfl⟩, ?_⟩
    show decide (lim < (i : Int) - 1 - g p + 1) = true
    rw [decide_eq_true_eq]
    omega
theorem ageOf_no (f d : Int) (l : List Duty) (h : ∀ e ∈ l, ¬ (e.1 = f ∧ e.2.1 = d)) : ageOf l f d = -1 := by
  have key : ∀ (l : List Duty) (a : Int), (∀ e ∈ l, ¬ (e.1 = f ∧ e.2.1 = d)) → l.foldl (fun a x => if x.1 = f ∧ x.2.1 = d then x.2.2 else a) a = a := by
    intro l
    induction l with
    | nil => intro a _; rfl
    | cons e l ih =>
      intro a h
      rw [List.foldl_cons, if_neg (h e (by simp))]
      exact ih a fun x hx => h x (by simp [hx])
  exact key l (-1) h
theorem ageOf_yes (f d : Int) (l : List Duty) (a : Int) (hm : (f, d, a) ∈ l) (h0 : ∀ e ∈ l, 0 ≤ e.2.2) (hu : ∀ e ∈ l, e.1 = f → e.2.1 = d → e.2.2 = a) : ageOf l f d = a := by
  have h1 : 0 ≤ ageOf l f d := ageOf_ge f d l (-1) h0 (Or.inr ⟨_, hm, rfl, rfl⟩)
  obtain ⟨e, he, h2, h3, h4⟩ := ageOf_mem l f d h1
  rw [h4]
  exact hu e he h2 h3
theorem tick_mk (b : BldV) (all : List (Int × Int)) (i : Nat) (g : Int × Int → Int) (m : MarkV) (hg : ∀ p ∈ all, -1 ≤ g p ∧ g p < (i : Int)) : injectL (agedL (showsV b.fl m.2) (mkD all i g)) m.1 all = mkD all (i + 1) (fun p => stepG b p.1 p.2 i (g p) m) := by
  unfold injectL
  conv => rhs; unfold mkD
  refine flatMap_ext _ _ _ fun p hp => ?_
  show itemJ _ m.1 p = if 0 ≤ stepG b p.1 p.2 i (g p) m then [(p.1, p.2, ((i + 1 : Nat) : Int) - 1 - stepG b p.1 p.2 i (g p) m)] else []
  obtain ⟨hg1, hg2⟩ := hg p hp
  have hmem : ∀ e ∈ agedL (showsV b.fl m.2) (mkD all i g), ∃ q ∈ all, 0 ≤ g q ∧ has (showsV b.fl m.2) q.1 q.2 = false ∧ e = (q.1, q.2, (i : Int) - g q) := by
    intro e he
    unfold agedL at he
    obtain ⟨x, hx, rfl⟩ := List.mem_map.1 he
    obtain ⟨hx1, hx2⟩ := List.mem_filter.1 hx
    obtain ⟨q, hq, h0, rfl⟩ := (mkD_mem _ _ _ _).1 hx1
    refine ⟨q, hq, h0, by simpa using hx2, ?_⟩
    show (q.1, q.2, (i : Int) - 1 - g q + 1) = _
    rw [show (i : Int) - 1 - g q + 1 = (i : Int) - g q by omega]
  have h00 : ∀ e ∈ agedL (showsV b.fl m.2) (mkD all i g), 0 ≤ e.2.2 := by
    intro e he
    obtain ⟨q, hq, h0, _, rfl⟩ := hmem e he
    have := hg q hq
    show 0 ≤ (i : Int) - g q
    omega
  unfold itemJ
  by_cases hA : 0 ≤ g p ∧ has (showsV b.fl m.2) p.1 p.2 = false
  · obtain ⟨hA1, hA2⟩ := hA
    have hmm : (p.1, p.2, (i : Int) - g p) ∈ agedL (showsV b.fl m.2) (mkD all i g) := by
      unfold agedL
      refine List.mem_map.2 ⟨(p.1, p.2, (i : Int) - 1 - g p), List.mem_filter.2 ⟨(mkD_mem _ _ _ _).2 ⟨p, hp, hA1, rfl⟩, by show (!has _ p.1 p.2) = true; rw [hA2]; rfl⟩, ?_⟩
      show (p.1, p.2, (i : Int) - 1 - g p + 1) = _
      rw [show (i : Int) - 1 - g p + 1 = (i : Int) - g p by omega]
    have hag := ageOf_yes p.1 p.2 _ _ hmm h00 (fun e he h1 h2 => by
      obtain ⟨q, hq, _, _, rfl⟩ := hmem e he
      have : q = p := Prod.ext h1 h2
      rw [this])
    have hst : stepG b p.1 p.2 i (g p) m = g p := by
      unfold stepG
      rw [hA2]
      simp only [Bool.and_false, Bool.false_eq_true, if_false]
      rw [if_neg (by omega)]
    rw [hag, hst, if_pos (by omega), if_pos hA1]
    rw [show ((i + 1 : Nat) : Int) - 1 - g p = (i : Int) - g p by omega]
  · have hag : ageOf (agedL (showsV b.fl m.2) (mkD all i g)) p.1 p.2 = -1 := ageOf_no _ _ _ fun e he h => by
      obtain ⟨q, hq, h0, hs, rfl⟩ := hmem e he
      have : q = p := Prod.ext h.1 h.2
      subst this
      exact hA ⟨h0, hs⟩
    rw [hag, if_neg (by omega)]
    have hin : (if (decide (0 ≤ g p) && has (showsV b.fl m.2) p.1 p.2) = true then -1 else g p) < 0 := by
      by_cases h0 : 0 ≤ g p
      · have hh : has (showsV b.fl m.2) p.1 p.2 = true := by
          cases h : has (showsV b.fl m.2) p.1 p.2
          · exact absurd ⟨h0, h⟩ hA
          · rfl
        rw [decide_eq_true h0, hh]
        simp
      · rw [decide_eq_false h0]
        simp only [Bool.false_and, Bool.false_eq_true, if_false]
        omega
    cases hc : has m.1 p.1 p.2
    · have hst : stepG b p.1 p.2 i (g p) m < 0 := by
        unfold stepG
        rw [if_neg (by rw [hc]; simp)]
        exact hin
      rw [if_neg (by omega : ¬ 0 ≤ stepG b p.1 p.2 i (g p) m)]
      simp
    · have hst : stepG b p.1 p.2 i (g p) m = (i : Int) := by
        unfold stepG
        rw [if_pos ⟨hin, hc⟩]
      rw [if_pos rfl, hst, if_pos (by omega)]
      simp
theorem tickD_inj (b : BldV) (car : Int) (D : List Duty) (m : MarkV) (h : stateB b car (sD D) = true) (hl : agedLate (dlOf b car) D = false) : tickD b D m = injectL (agedL (showsV b.fl m.2) D) m.1 (listC (hallC b)) := by
  have hs := aged_state b car D (showsV b.fl m.2) h hl
  exact inject_eq b car (sD (agedL (showsV b.fl m.2) D)) m.1 hs
theorem run_mk (b : BldV) (car : Int) : ∀ (L : List MarkV) (i : Nat) (g : Int × Int → Int), (∀ p ∈ listC (hallC b), -1 ≤ g p ∧ g p < (i : Int)) → okD b car (mkD (listC (hallC b)) i g) = true →
    (runV b (dlOf b car) i (mkD (listC (hallC b)) i g) L).1 = foldF (fun p => (followV b (dlOf b car) p.1 p.2 i (g p) L).1) (listC (hallC b)) (-1) ∧
    ((runV b (dlOf b car) i (mkD (listC (hallC b)) i g) L).1 < 0 → (runV b (dlOf b car) i (mkD (listC (hallC b)) i g) L).2 = mkD (listC (hallC b)) (i + L.length) (fun p => (followV b (dlOf b car) p.1 p.2 i (g p) L).2))
  | [], i, g, hg, hok => ⟨(foldF_none _ _ fun p _ => by show (-1 : Int) < 0; omega).symm, fun _ => rfl⟩
  | m :: L, i, g, hg, hok => by
    have er : ∀ l, runV b (dlOf b car) i (mkD (listC (hallC b)) i g) (m :: l) = if agedLate (dlOf b car) (mkD (listC (hallC b)) i g) then ((i : Int), []) else runV b (dlOf b car) (i + 1) (tickD b (mkD (listC (hallC b)) i g) m) l := fun _ => rfl
    have ef : ∀ p : Int × Int, followV b (dlOf b car) p.1 p.2 i (g p) (m :: L) = if 0 ≤ g p ∧ dlOf b car < (i : Int) - g p then ((i : Int), g p) else followV b (dlOf b car) p.1 p.2 (i + 1) (stepG b p.1 p.2 i (g p) m) L := fun _ => rfl
    rw [er]
    cases hl : agedLate (dlOf b car) (mkD (listC (hallC b)) i g)
    · have hno : ∀ p ∈ listC (hallC b), ¬ (0 ≤ g p ∧ dlOf b car < (i : Int) - g p) := fun p hp h => by
        have := (late_mk (dlOf b car) (listC (hallC b)) i g).2 ⟨p, hp, h.1, h.2⟩
        rw [hl] at this
        cases this
      have hs := ((okD_iff _ _ _).1 hok).1
      have ht : tickD b (mkD (listC (hallC b)) i g) m = mkD (listC (hallC b)) (i + 1) (fun p => stepG b p.1 p.2 i (g p) m) := by
        rw [tickD_inj b car _ m hs hl]
        exact tick_mk b _ i g m hg
      have hok2 := tick_ok b car _ m hok hl
      rw [ht] at hok2
      obtain ⟨h1, h2⟩ := run_mk b car L (i + 1) (fun p => stepG b p.1 p.2 i (g p) m) (fun p hp => stepG_range b p.1 p.2 i (g p) m (hg p hp).1 (hg p hp).2) hok2
      rw [ht]
      simp only [Bool.false_eq_true, if_false]
      refine ⟨?_, fun h => ?_⟩
      · rw [h1]
        exact foldF_ext _ _ _ _ fun p hp => by have e2 := ef p; rw [if_neg (hno p hp)] at e2; show (followV b (dlOf b car) p.1 p.2 (i + 1) (stepG b p.1 p.2 i (g p) m) L).1 = (followV b (dlOf b car) p.1 p.2 i (g p) (m :: L)).1; rw [e2]
      · rw [h2 h, List.length_cons, show i + 1 + L.length = i + (L.length + 1) by omega]
        unfold mkD
        refine flatMap_ext _ _ _ fun p hp => ?_
        have e2 := ef p
        rw [if_neg (hno p hp)] at e2
        simp only [e2]
    · obtain ⟨p, hp, h0, h1⟩ := (late_mk _ _ _ _).1 hl
      simp only [if_true]
      have hF : (followV b (dlOf b car) p.1 p.2 i (g p) (m :: L)).1 = (i : Int) := by rw [ef, if_pos ⟨h0, h1⟩]
      refine ⟨?_, fun h => by omega⟩
      have := foldF_min (fun p => (followV b (dlOf b car) p.1 p.2 i (g p) (m :: L)).1) (listC (hallC b)) p hp (by show 0 ≤ (followV b (dlOf b car) p.1 p.2 i (g p) (m :: L)).1; rw [hF]; omega) (fun q _ => by
        show (followV b (dlOf b car) q.1 q.2 i (g q) (m :: L)).1 < 0 ∨ (followV b (dlOf b car) p.1 p.2 i (g p) (m :: L)).1 ≤ (followV b (dlOf b car) q.1 q.2 i (g q) (m :: L)).1
        rw [hF]
        rcases followV_ge b (dlOf b car) q.1 q.2 (m :: L) i (g q) with h | h
        · left; rw [h]; omega
        · right; exact h)
      rw [this]
      exact hF.symm
theorem runV_broke (b : BldV) (lim : Int) : ∀ (L : List MarkV) (i : Nat) (D : List Duty), 0 ≤ (runV b lim i D L).1 → (runV b lim i D L).2 = []
  | [], _, _, h => by
    have : (0 : Int) ≤ -1 := h
    omega
  | m :: L, i, D, h => by
    have er : ∀ l, runV b lim i D (m :: l) = if agedLate lim D then ((i : Int), []) else runV b lim (i + 1) (tickD b D m) l := fun _ => rfl
    rw [er] at h ⊢
    cases hl : agedLate lim D
    · rw [hl] at h
      simp only [Bool.false_eq_true, if_false] at h ⊢
      exact runV_broke b lim L (i + 1) _ h
    · rfl
theorem ref_check (b : BldV) (car : Int) (L : List MarkV) : refCheckB b car L = (runB b car L).1 := by
  unfold refCheckB runB
  cases hp : properB b car L.length
  · rfl
  · obtain ⟨hv, hc, _⟩ := properB_car _ _ _ hp
    have h := (run_mk b car L 0 (fun _ => -1) (fun p _ => by constructor <;> (show _ ; omega)) (by rw [mkD_none]; exact okD_nil b car hv hc)).1
    rw [mkD_none] at h
    simp only [if_true]
    rw [h]
    rfl
theorem ref_duties (b : BldV) (car : Int) (L : List MarkV) : refDutiesB b car L = (runB b car L).2 := by
  have hk := ref_check b car L
  unfold refDutiesB
  rw [hk]
  unfold runB
  cases hp : properB b car L.length
  · rfl
  · obtain ⟨hv, hc, _⟩ := properB_car _ _ _ hp
    have h := (run_mk b car L 0 (fun _ => -1) (fun p _ => by constructor <;> (show _ ; omega)) (by rw [mkD_none]; exact okD_nil b car hv hc)).2
    rw [mkD_none] at h
    simp only [if_true, true_and]
    by_cases h0 : (runV b (dlOf b car) 0 [] L).1 < 0
    · rw [if_pos h0, h h0]
      unfold duV mkD
      refine flatMap_ext _ _ _ fun p _ => ?_
      unfold itemF
      rw [Nat.zero_add]
    · rw [if_neg h0, runV_broke b _ L 0 [] (by omega)]
end Go.Proofs.Ytfmmiafdlfdfoaa
namespace Go.Proofs.Ytfmmiafdlfdfoaa
open Go.RowKit
def quOf (b : BldV) (car : Int) : Int := (b.cars[car.toNat]?.map CarV.qu).getD 0
def quietB (b : BldV) (car : Int) (s : BelV) : Bool := stateB b car s && decide (s.du.length = 0) && decide (s.door = 2) && decide (quOf b car ≤ s.still)
theorem RdC.reg2 {w : World} {q : Option Addr} {l : List CarV} (h : RdC w q l) {i : Nat} {c : CarV} (hi : l[i]? = some c) : ∃ A, q = some A ∧ A.block < w.heap.size ∧ ∀ W, Grow.Cl w.drew W → W.cell? ⟨(A.add (i * 9)).block, (A.add (i * 9)).off + 2, none⟩ = some (.int .i64 c.qu) := by
  obtain ⟨A, hq, hA, hc⟩ := h i c hi
  exact ⟨A, hq, hA, fun W hW => cell_later (Grow.Cl.base hW) (by rw [← addr_one]; exact hc 2 _ rfl)⟩
theorem car_qu (b : BldV) (car : Int) (h : inR 0 ((b.cars.length : Int) - 1) car = true) : ∃ c, 0 ≤ car ∧ car < (b.cars.length : Int) ∧ b.cars[car.toNat]? = some c ∧ quOf b car = c.qu := by
  obtain ⟨h0, h1⟩ := (inR_iff _ _ _).1 h
  have hn : car.toNat < b.cars.length := by omega
  exact ⟨b.cars[car.toNat], h0, by omega, List.getElem?_eq_getElem hn, by simp [quOf, hn]⟩
end Go.Proofs.Ytfmmiafdlfdfoaa
namespace Go.Proofs.Ytfmmiafdlfdfoaa
open Go.RowKit
theorem cvB18v (n t g cap : Nat) : (Value.agg (bldP (fl18 n) (1 + (t : Int) % 7) (.slice (some ⟨g, 0, none⟩) (k18 n) cap)).toArray) = cvB (b18 n t) (some ⟨g, 0, none⟩) cap := by
  show _ = Value.agg #[.int .i64 (fl18 n), .int .i64 1, .int .i64 4000, .int .i64 (1 + (t : Int) % 7), .float .f64 4591870180066957722, .float .f64 4605380978949069210, .float .f64 4607632778762754458, .slice (some ⟨g, 0, none⟩) (cars18 n t).length cap]
  rw [cars18_len]
/-- The made building, as data. -/
theorem b18_val2 (n t : Nat) (w : World) (hn : n < 256) (ht : t < 256) :
    Calls Try.prog 10 #[.int .u8 n, .int .u8 t] w fun e w' => ∃ g cap, e = .returned (cvB (b18 n t) (some ⟨g, 0, none⟩) cap) ∧ w.heap.size < g ∧ g < w'.heap.size ∧ w'.ownsRow (w.heap.size + 1) 40 9 (.slice (some ⟨g, 0, none⟩) (b18 n t).cars.length cap) (b18 n t).cars.length (carCells (b18 n t).cars) ∧ RdC w' (some ⟨g, 0, none⟩) (b18 n t).cars ∧ Below w.heap.size w w' := by
  refine (b18_any n t w hn ht).mono ?_
  rintro e w' ⟨g, cap, rfl, hown, hb⟩
  refine ⟨g, cap, by rw [cvB18v], ?_, ?_, ?_, rdC_of_owns hown (cars18_len n t), hb⟩
  · exact row_ge hown (Nat.le_refl _) (k := g) rfl
  · rcases hown.2 with ⟨hv, _⟩ | ⟨g', cap', cur, hv, _, hh, _⟩
    · simp at hv
    · simp at hv; rw [hv.1]; exact (Array.getElem?_eq_some_iff.1 hh).1
  · show w'.ownsRow _ _ 9 (.slice (some ⟨g, 0, none⟩) (cars18 n t).length cap) (cars18 n t).length (carCells (cars18 n t))
    rw [cars18_len]; exact hown
theorem drewB2 (w : World) : Below w.heap.size w w.drew := ⟨rfl, rfl, rfl, Nat.le_refl _, fun _ _ => rfl⟩
theorem below_al2 {B : Nat} {w W : World} (h : Below B w W) (hB : B ≤ w.heap.size) (o : Obj) : Below B w (W.alloc o) := h.trans ((below1' W o).mono (Nat.le_trans hB h.size))
theorem base_frozen2 {W w1 : World} (hb : Below W.heap.size W w1) : ∀ b o, b < W.heap.size → w1.frozen? ⟨b, o, none⟩ = W.frozen? ⟨b, o, none⟩ := fun b o h => by
  simp only [World.frozen?, hb.block b h]
end Go.Proofs.Ytfmmiafdlfdfoaa
