/- What a command, or what happens by itself, hands the law's walk: plain laws. Conditions: none. -/
import Derived.Test.YtgoojlfpngmdlaaZWalkLaw
namespace Go.Proofs.Ytgoojlfpngmdlaa
open Go.RowKit
def WInv (b : BldV) (m : ImgV) : Prop := invM b m ∨ m = img0
/-- The answer: an error and nothing, or no error and good records. -/
def resW (b : BldV) (m : ImgV) (C : List Bool) (L : List R5) (e : Int) : Prop := (e ≠ 0 ∧ L = []) ∨ (e = 0 ∧ ((m = img0 ∧ L = []) ∨ (invM b m ∧ GoodL b m L C)))
theorem img0_not {b : BldV} (h1 : 1 ≤ b.cars.length) : imgB b img0 = false := by
  cases h : imgB b img0
  · rfl
  · have := (imgB_facts h).2.2.1
    simp [img0] at this; omega
theorem order_res {b : BldV} {m : ImgV} {C : List Bool} {kind car : Int} (h1 : 1 ≤ b.cars.length) (hw : WInv b m) : resW b m C (orderF b m kind car C).1 (orderF b m kind car C).2 := by
  by_cases he : (orderF b m kind car C).2 = 0
  · right
    refine ⟨he, ?_⟩
    rcases hw with h | h
    · right
      refine ⟨h, order_good (kind := kind) (car := car) h ?_⟩
      rw [← he]
    · left
      refine ⟨h, ?_⟩
      rw [h] at he ⊢
      have h0 := img0_not h1
      unfold orderF at he ⊢
      rw [if_pos (by rw [h0]; simp)] at he ⊢
  · exact .inl ⟨he, order_err he⟩
theorem auto_res {b : BldV} {m : ImgV} {C : List Bool} (h1 : 1 ≤ b.cars.length) (hw : WInv b m) : resW b m C (autoF b m C) 0 := by
  right
  refine ⟨rfl, ?_⟩
  rcases hw with h | h
  · exact .inr ⟨h, auto_good h⟩
  · left
    refine ⟨h, ?_⟩
    rw [h]
    unfold autoF
    rw [if_neg (by rw [img0_not h1]; simp)]
theorem order_len {b : BldV} {m : ImgV} {C : List Bool} {kind car : Int} (h1 : 1 ≤ b.cars.length) (hw : WInv b m) : (orderF b m kind car C).1.length ≤ 3000 := by
  rcases order_res (C := C) (kind := kind) (car := car) h1 hw with ⟨_, h⟩ | ⟨he, ⟨_, h⟩ | ⟨hi, _⟩⟩
  · rw [h]; simp
  · rw [h]; simp
  · obtain ⟨F, hF⟩ : ∃ F, orderF b m kind car C = F := ⟨_, rfl⟩
    rw [hF] at he ⊢
    obtain ⟨L, e⟩ := F
    simp only at he
    subst he
    rcases order_step hi hF with h | ⟨r, h, _⟩
    · simp [h]
    · simp [h]
theorem auto_len {b : BldV} {m : ImgV} {C : List Bool} (hp : m.ph.length ≤ 1000) : (autoF b m C).length ≤ 3000 := by
  unfold autoF
  split
  · have := autoN_len m C m.ph.length
    omega
  · simp
/-- Rows that lie below the end of the heap. -/
def FarM (w : World) (a : ImgA) : Prop := ∀ g, w.heap.size ≤ g → NeM g a
/-- Parts of a function's code. -/
def lhsC : Code → Code
  | .seq a _ => a
  | .block _ a => a
  | .loop a => a
  | .cond _ a _ => a
  | a => a
def rhsC : Code → Code
  | .seq _ a => a
  | .cond _ _ a => a
  | a => a
/-- The image behind j of the records. -/
def midW (m : ImgV) (L : List R5) (j : Nat) : ImgV := (L.take j).foldl applyV m
theorem midW_zero (m : ImgV) (L : List R5) : midW m L 0 = m := rfl
theorem midW_all (m : ImgV) (L : List R5) : midW m L L.length = L.foldl applyV m := by unfold midW; rw [List.take_length]
theorem applyV_en {m : ImgV} {r : R5} (h : r.1 = 4 ∨ r.1 = 5 ∨ r.1 = 6) : (applyV m r).en = m.en := by
  unfold applyV
  rcases h with h | h | h <;> simp [h]
/-- Good records, one by one. -/
structure RecsW (b : BldV) (m : ImgV) (L : List R5) (C : List Bool) : Prop where
  kind : ∀ r ∈ L, (r.1 = 4 ∨ r.1 = 5 ∨ r.1 = 6) ∧ recOk b r = true
  step : ∀ j r, L[j]? = some r → applyF b (midW m L j) r = midW m L (j + 1)
  ph : ∀ j, j ≤ L.length → (midW m L j).ph.length = m.ph.length
  en : ∀ j, j ≤ L.length → (midW m L j).en = m.en
theorem recsW_of {b : BldV} {m : ImgV} {C : List Bool} {L : List R5} (h : (m = img0 ∧ L = []) ∨ (invM b m ∧ GoodL b m L C)) : RecsW b m L C := by
  rcases h with ⟨_, rfl⟩ | ⟨hi, hk, _⟩
  · have h0 : ∀ j, midW m [] j = m := fun j => by unfold midW; rw [List.take_nil]; rfl
    exact ⟨fun r hr => (by simp at hr), fun j r hr => (by simp at hr), fun j _ => (by rw [h0]), fun j _ => (by rw [h0])⟩
  · have hb : ∀ j, imgB b (midW m L j) = true := fun j => (good_fold (fun r hr => (hk r (List.mem_of_mem_take hr)).2) hi.1).2
    have hs : ∀ j r, L[j]? = some r → midW m L (j + 1) = applyV (midW m L j) r := fun j r hr => by
      unfold midW
      rw [List.take_add_one, hr, List.foldl_append]; rfl
    refine ⟨hk, fun j r hr => ?_, fun j _ => ?_, ?_⟩
    · rw [hs j r hr]
      unfold applyF applyOk
      rw [hb, (hk r (List.mem_of_getElem? hr)).2]; rfl
    · rw [(imgB_facts (hb j)).2.2.1, (imgB_facts hi.1).2.2.1]
    · intro j
      induction j with
      | zero => intro _; rfl
      | succ j ih =>
        intro hj
        obtain ⟨r, hr⟩ : ∃ r, L[j]? = some r := ⟨_, List.getElem?_eq_getElem (by omega)⟩
        rw [hs j r hr, applyV_en (hk r (List.mem_of_getElem? hr)).1, ih (by omega)]
/-- What the law's last loop finds of a car. -/
structure CarsW (b : BldV) (m x : ImgV) (C : List Bool) : Prop where
  inv : WInv b x
  len : x.ph.length = m.ph.length
  lv : x.lv.length = x.ph.length
  en : x.en = m.en
  tr : transN x x.ph.length ≤ 1
  fact : ∀ (j : Nat) (f t : Int) (l : Bool), m.ph[j]? = some f → x.ph[j]? = some t → x.lv[j]? = some l → (f = t ∨ edgeB f t = true) ∧ (l = true → t = 4) ∧ (f ≠ t → t = 2 → (f = 3 ∨ ∀ e ∈ m.en, e.2.2.1 ≠ (j : Int)) ∧ C[j]? = some true)
theorem carsW_of {b : BldV} {m : ImgV} {C : List Bool} {L : List R5} (h : (m = img0 ∧ L = []) ∨ (invM b m ∧ GoodL b m L C)) : CarsW b m (L.foldl applyV m) C := by
  rcases h with ⟨rfl, rfl⟩ | ⟨hi, _, hs⟩
  · refine ⟨.inr rfl, rfl, rfl, rfl, by simp [img0, transN], fun j f t l h1 => ?_⟩
    simp [img0] at h1
  · generalize L.foldl applyV m = x at *
    have hf := imgB_facts hs.inv.1
    refine ⟨.inl hs.inv, hs.len.1, hf.1, hs.en, hs.inv.2.2, fun j f t l h1 h2 h3 => ?_⟩
    have hj : j < m.ph.length := (List.getElem?_eq_some_iff.1 h1).1
    have e1 := phAt_of h1
    have e2 := phAt_of h2
    have e3 := lvAt_of h3
    refine ⟨?_, fun hl => ?_, fun hne ht => ?_⟩
    · have := hs.edge j hj
      rw [e1, e2] at this
      rcases this with h | h
      · exact .inl h.symm
      · exact .inr h
    · have := hs.inv.2.1 j (by rw [e3]; exact hl)
      rw [← e2]; exact this
    · obtain ⟨h4, h5⟩ := hs.iso j hj (by rw [e1, e2]; exact fun h => hne h.symm) (by rw [e2]; exact ht)
      rw [e1] at h4
      refine ⟨?_, ?_⟩
      · rcases h4 with h4 | h4
        · exact .inl h4
        · right
          intro e he hc
          unfold burdB at h4
          rw [List.any_eq_false] at h4
          exact h4 e he (by simp [hc])
      · cases hc : C[j]? with
        | none => rw [hc] at h5; simp at h5
        | some v => rw [hc] at h5; simp at h5; rw [h5]
end Go.Proofs.Ytgoojlfpngmdlaa
