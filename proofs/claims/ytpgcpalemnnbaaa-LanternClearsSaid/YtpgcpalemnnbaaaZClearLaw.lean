/- What is served is what was registered and is lit: plain laws, no program in sight. Conditions: none. -/
import Derived.Test.YtpgcpalemnnbaaaZImgLaw
import Derived.Test.YtpgcpalemnnbaaaZLitLaw
namespace Go.Proofs.Ytpgcpalemnnbaaa
open Go.RowKit
theorem cs_bits {x y : CS} (h1 : ∀ i, x.1.getLsbD i = y.1.getLsbD i) (h2 : ∀ i, x.2.getLsbD i = y.2.getLsbD i) : x = y :=
  Prod.ext (BitVec.eq_of_getLsbD_eq fun i _ => h1 i) (BitVec.eq_of_getLsbD_eq fun i _ => h2 i)
theorem union_minus (a c : CS) : union a (minus c a) = union a c := by
  refine cs_bits (fun i => ?_) fun i => ?_
  · simp only [union, minus, BitVec.getLsbD_or, BitVec.getLsbD_and, BitVec.getLsbD_not]
    by_cases hi : i < 32
    · cases a.1.getLsbD i <;> cases c.1.getLsbD i <;> simp [hi]
    · have h1 : a.1.getLsbD i = false := BitVec.getLsbD_of_ge _ i (by omega)
      have h2 : c.1.getLsbD i = false := BitVec.getLsbD_of_ge _ i (by omega)
      simp [h1, h2]
  · simp only [union, minus, BitVec.getLsbD_or, BitVec.getLsbD_and, BitVec.getLsbD_not]
    by_cases hi : i < 32
    · cases a.2.getLsbD i <;> cases c.2.getLsbD i <;> simp [hi]
    · have h1 : a.2.getLsbD i = false := BitVec.getLsbD_of_ge _ i (by omega)
      have h2 : c.2.getLsbD i = false := BitVec.getLsbD_of_ge _ i (by omega)
      simp [h1, h2]
theorem clr_setV (b : BldV) (V : List ViewV) (B : List CS) (hB : V.length = B.length) : ∀ i, i ≤ V.length → (lightK b V B i).clr = setV b (V.take i) := by
  intro i
  induction i with
  | zero => intro _; rfl
  | succ i ih =>
    intro hi
    obtain ⟨v, hv⟩ : ∃ v, V[i]? = some v := ⟨_, List.getElem?_eq_getElem (by omega)⟩
    obtain ⟨p, hp⟩ : ∃ p, B[i]? = some p := ⟨_, List.getElem?_eq_getElem (by omega)⟩
    rw [lightK_succ b V B i v p hv hp, setV_take b V i v hv, ← ih (by omega)]
    exact union_minus _ _
theorem real_low {l : List (Int × Int)} (hl : ∀ p ∈ l, Real p) {i : Nat} {d : Int} (h : ((i : Int), d) ∈ l) : i < 32 := by
  have := (hl _ h).2.1
  simp only at this
  omega
theorem both_ofL (l : List (Int × Int)) (hl : ∀ p ∈ l, Real p) (c : CS) : both (ofL l) c = ofL (l.filter fun p => has c p.1 p.2) := by
  have hf : ∀ p ∈ l.filter fun p => has c p.1 p.2, Real p := fun p hp => hl p (List.mem_filter.1 hp).1
  refine cs_bits (fun i => ?_) fun i => ?_
  · rw [(ofL_bits _ hf i).1]
    simp only [both, BitVec.getLsbD_and, (ofL_bits l hl i).1, List.mem_filter]
    by_cases h : ((i : Int), (1 : Int)) ∈ l
    · rw [has_up c i (by omega) (by have := real_low hl h; omega)]
      simp [h]
    · simp [h]
  · rw [(ofL_bits _ hf i).2]
    simp only [both, BitVec.getLsbD_and, (ofL_bits l hl i).2, List.mem_filter]
    by_cases h : ((i : Int), (2 : Int)) ∈ l
    · rw [has_down c i (by omega) (by have := real_low hl h; omega)]
      simp [h]
    · simp [h]
theorem ofL_fresh (l : List (Int × Int)) (hl : ∀ p ∈ l, Real p) (p : Int × Int) (hr : Real p) (hp : p ∉ l) : both (ofL l) (one p.1 p.2) = (0#32, 0#32) := by
  have hb := ofL_bits l hl
  have hh : has (ofL l) p.1 p.2 = false := by
    obtain ⟨f, d⟩ := p
    obtain ⟨r0, r1, r2⟩ := hr
    simp only at r0 r1 r2 hp ⊢
    obtain ⟨n, rfl⟩ := Int.eq_ofNat_of_zero_le r0
    rcases r2 with rfl | rfl
    · rw [has_up _ _ r0 r1, Int.toNat_natCast, (hb n).1]; simpa using hp
    · rw [has_down _ _ r0 r1, Int.toNat_natCast, (hb n).2]; simpa using hp
  unfold has at hh
  simpa using hh
theorem count_zero : (listC (0#32, 0#32)).length = 0 := by decide +kernel
theorem count_one (p : Int × Int) (hr : Real p) : (listC (one p.1 p.2)).length = 1 := by
  have h : ∀ k : Nat, k < 32 → (listC (one (k : Int) 1)).length = 1 ∧ (listC (one (k : Int) 2)).length = 1 := by decide +kernel
  obtain ⟨f, d⟩ := p
  obtain ⟨r0, r1, r2⟩ := hr
  simp only at r0 r1 r2 ⊢
  obtain ⟨n, rfl⟩ := Int.eq_ofNat_of_zero_le r0
  rcases r2 with rfl | rfl
  · exact (h n (by omega)).1
  · exact (h n (by omega)).2
theorem count_ofL (l : List (Int × Int)) (hl : ∀ p ∈ l, Real p) (hn : l.Nodup) : ∀ n, n ≤ l.length → (listC (ofL (l.take n))).length = n := by
  intro n
  induction n with
  | zero => intro _; exact count_zero
  | succ n ih =>
    intro hi
    obtain ⟨p, hp⟩ : ∃ p, l[n]? = some p := ⟨_, List.getElem?_eq_getElem (by omega)⟩
    have hreal := hl p (List.mem_of_getElem? hp)
    have hnot : p ∉ l.take n := by
      intro hm
      have hs : l = l.take n ++ l.drop n := (List.take_append_drop n _).symm
      have hd : p ∈ l.drop n := by
        rw [List.drop_eq_getElem_cons (by omega)]
        have := (List.getElem?_eq_some_iff.1 hp).2
        rw [this]; exact List.mem_cons_self ..
      rw [hs] at hn
      exact (List.nodup_append.1 hn).2.2 p hm p hd rfl
    rw [take_snoc l n p hp, ofL_snoc]
    have h := count_two (ofL (l.take n)) (one p.1 p.2)
    rw [ofL_fresh _ (fun q hq => hl q (List.mem_of_mem_take hq)) p hreal hnot, count_zero, ih (by omega), count_one p hreal] at h
    omega
theorem keys_real {b : BldV} {m : ImgV} (h32 : b.fl ≤ 32) (hm : imgB b m = true) : ∀ p ∈ m.en.map E5.key, Real p := by
  obtain ⟨_, _, h3, _⟩ := (imgB_iff b m).1 hm
  intro p hp
  obtain ⟨e, he, rfl⟩ := List.mem_map.1 hp
  have := h3 e he
  simp only [entryB, callB, Bool.and_eq_true] at this
  have hc := this.1.1.1.1.2
  simp only [isCallB, Bool.and_eq_true, Bool.or_eq_true, decide_eq_true_eq, inR_iff] at hc
  refine ⟨?_, ?_, ?_⟩ <;> simp only [E5.key] <;> omega
theorem keys_nodup {b : BldV} {m : ImgV} (hm : imgB b m = true) : (m.en.map E5.key).Nodup := by
  obtain ⟨_, _, _, h4⟩ := (imgB_iff b m).1 hm
  rw [sort_keys] at h4
  refine h4.imp ?_
  rintro x y h rfl
  omega
def keyR (r : R5) : Int × Int := (r.2.1, r.2.2.1)
theorem served_law (b : BldV) (m : ImgV) (V : List ViewV) (B : List CS) (h32 : b.fl ≤ 32) (hv : validN b = 0) (hm : imgB b m = true ∨ m = img0) (hV : V.length = b.cars.length) (hB : B.length = b.cars.length) :
    ofL ((servF b m V).map keyR) = both (ofL (m.en.map E5.key)) (lightF b V B).clr ∧ (listC (ofL ((servF b m V).map keyR))).length = (servF b m V).length := by
  have hc : (lightF b V B).clr = setV b V := by
    unfold lightF
    rw [if_pos ⟨hv, hV, hB⟩, clr_setV b V B (by omega) _ (Nat.le_refl _), List.take_length]
  rw [hc]
  have hk : imgB b m = true → (servF b m V).map keyR = (m.en.map E5.key).filter fun p => has (setV b V) p.1 p.2 := by
    intro h
    unfold servF
    rw [if_pos ⟨h, hV⟩, servL, List.map_map, List.filter_map]
    rfl
  rcases hm with h | h
  · have hr := keys_real h32 h
    rw [hk h, both_ofL _ hr]
    refine ⟨rfl, ?_⟩
    have hl : (servF b m V).length = ((m.en.map E5.key).filter fun p => has (setV b V) p.1 p.2).length := by rw [← hk h, List.length_map]
    have h1 := count_ofL ((m.en.map E5.key).filter fun p => has (setV b V) p.1 p.2) (fun p hp => hr p (List.mem_filter.1 hp).1) ((keys_nodup h).sublist List.filter_sublist) _ (Nat.le_refl _)
    rw [List.take_length] at h1
    rw [h1, hl]
  · subst h
    have : servF b img0 V = [] := by
      unfold servF; split
      · rfl
      · rfl
    rw [this]
    refine ⟨?_, count_zero⟩
    simp [img0, ofL, both]
end Go.Proofs.Ytpgcpalemnnbaaa
