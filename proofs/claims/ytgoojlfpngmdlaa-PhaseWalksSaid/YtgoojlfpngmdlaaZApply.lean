/- The walk over overlayref10.Apply. Conditions: cars and an image that can be read; slack times that are no more than the greatest number less one. -/
import Derived.Test.YtgoojlfpngmdlaaZImgR
import Derived.Test.YtgoojlfpngmdlaaZValid9
import Derived.Test.YtgoojlfpngmdlaaZEntered
import Derived.Test.YtgoojlfpngmdlaaZAp
import Derived.Test.YtgoojlfpngmdlaaZLanP
import Derived.Test.YtgoojlfpngmdlaaZOwnM
import Derived.Deep.RegionLaw
import Derived.Deep.CutBlock
namespace Go.Proofs.Ytgoojlfpngmdlaa
open Go.RowKit
/-- The entries behind a record of a call. -/
def putE (l : List E5) (r : R5) : List E5 := match findN l r.2.1 r.2.2.1 l.length with
  | none => if r.1 = 1 then enterL l (r.2.1, r.2.2.1, -1, 0, false) else l
  | some i => match l[i]? with
    | none => l
    | some e => if r.1 = 2 then l.take i ++ l.drop (i + 1) else if r.1 = 3 then l.set i (e.1, e.2.1, r.2.2.2.1, e.2.2.2.1, e.2.2.2.2) else if r.1 = 7 then l.set i (e.1, e.2.1, e.2.2.1, r.2.2.2.2, r.2.2.2.1 == 1) else l
def applyV (m : ImgV) (r : R5) : ImgV :=
  if r.1 = 4 then { m with ph := m.ph.set r.2.2.2.1.toNat r.2.2.2.2 }
  else if r.1 = 5 then { m with fg := m.fg.set r.2.2.2.1.toNat (r.2.2.2.2 == 1) }
  else if r.1 = 6 then { m with lv := m.lv.set r.2.2.2.1.toNat (r.2.2.2.2 == 1) }
  else { m with en := putE m.en r }
def applyOk (b : BldV) (m : ImgV) (r : R5) : Bool := imgB b m && recOk b r
def applyF (b : BldV) (m : ImgV) (r : R5) : ImgV := if applyOk b m r then applyV m r else img0
def applyE (b : BldV) (m : ImgV) (r : R5) : Int := if applyOk b m r then 0 else 1
theorem infoI : (Try.prog.info? 3).map (fun i => (i.zero, i.size, i.bytes)) = some (some (.int .i64 0), 1, 8) := by kernel_rfl
theorem int_one (l : List Int) : ∀ u ∈ intCells l, u.oneCell' = true := by
  intro u hu
  obtain ⟨x, _, rfl⟩ := List.mem_map.1 hu
  rfl
theorem bools_one (l : List Bool) : ∀ u ∈ boolCells l, u.oneCell' = true := by
  intro u hu
  obtain ⟨x, _, rfl⟩ := List.mem_map.1 hu
  rfl
theorem ents_one (l : List E5) : ∀ u ∈ entCells l, u.oneCell' = true := by
  intro u hu
  obtain ⟨x, _, hx⟩ := List.mem_flatMap.1 hu
  exact ent_one x u hx
theorem imgB_len (b : BldV) (m : ImgV) (h : imgB b m = true) : m.ph.length = b.cars.length ∧ m.fg.length = b.cars.length ∧ m.lv.length = b.cars.length := by
  simp only [imgB, headM, Bool.and_eq_true, decide_eq_true_eq] at h
  exact ⟨h.1.1.1.1.2, h.1.1.1.2, h.1.1.2⟩
/-- The copies in their places. -/
def copD (w : World) (g1 : Nat) (m : ImgV) (a : ImgA) (wx : World) : Prop := ∃ p pc f fc l lc, Blk wx g1 [.slice p m.ph.length pc, .slice f m.fg.length fc, .slice l m.lv.length lc, .slice a.e m.en.length a.ec] ∧
  wx.ownsRow w.heap.size 3 1 (.slice p m.ph.length pc) m.ph.length (intCells m.ph) ∧ wx.ownsRow w.heap.size 4 1 (.slice f m.fg.length fc) m.fg.length (boolCells m.fg) ∧ wx.ownsRow w.heap.size 4 1 (.slice l m.lv.length lc) m.lv.length (boolCells m.lv) ∧ (∀ A B, f = some A → l = some B → A.block ≠ B.block) ∧ Below g1 w wx ∧ ∀ b, b < w.heap.size → b ≠ g1 → wx.heap[b]? = w.heap[b]?
/-- The image behind the record in its place. -/
def swD (w w2 : World) (g1 g3 : Nat) (m' : ImgV) (wx : World) : Prop := ∃ a', Blk wx g1 [.slice a'.p m'.ph.length a'.pc, .slice a'.f m'.fg.length a'.fc, .slice a'.l m'.lv.length a'.lc, .slice a'.e m'.en.length a'.ec] ∧ OwnM wx w2.heap.size m' a' ∧ Blk wx g3 [.slice none 0 0, .slice none 0 0, .slice none 0 0, .slice none 0 0] ∧ Below w.heap.size w wx
theorem recOk_kinds (b : BldV) (r : R5) (h : recOk b r = true) : (r.1 = 4 ∧ ∃ i : Nat, r.2.2.2.1 = (i : Int) ∧ i < b.cars.length) ∨ (r.1 = 5 ∧ ∃ i : Nat, r.2.2.2.1 = (i : Int) ∧ i < b.cars.length) ∨ (r.1 = 6 ∧ ∃ i : Nat, r.2.2.2.1 = (i : Int) ∧ i < b.cars.length) ∨ r.1 = 1 ∨ r.1 = 2 ∨ r.1 = 3 ∨ r.1 = 7 := by
  unfold recOk at h
  have hc : carOk b r = true → ∃ i : Nat, r.2.2.2.1 = (i : Int) ∧ i < b.cars.length := fun h => by
    simp only [carOk, Bool.and_eq_true, inR_iff] at h
    obtain ⟨⟨⟨h0, h1⟩, _⟩, _⟩ := h
    exact ⟨r.2.2.2.1.toNat, by omega, by omega⟩
  by_cases k1 : r.1 = 1 ∨ r.1 = 2
  · rcases k1 with k | k
    · exact .inr (.inr (.inr (.inl k)))
    · exact .inr (.inr (.inr (.inr (.inl k))))
  · rw [if_neg k1] at h
    by_cases k3 : r.1 = 3
    · exact .inr (.inr (.inr (.inr (.inr (.inl k3)))))
    · rw [if_neg k3] at h
      by_cases k4 : r.1 = 4
      · rw [if_pos k4] at h
        simp only [Bool.and_eq_true] at h
        exact .inl ⟨k4, hc h.2.1⟩
      · rw [if_neg k4] at h
        by_cases k5 : r.1 = 5 ∨ r.1 = 6
        · rw [if_pos k5] at h
          simp only [Bool.and_eq_true] at h
          rcases k5 with k | k
          · exact .inr (.inl ⟨k, hc h.2.1⟩)
          · exact .inr (.inr (.inl ⟨k, hc h.2.1⟩))
        · rw [if_neg k5] at h
          by_cases k7 : r.1 = 7
          · exact .inr (.inr (.inr (.inr (.inr (.inr k7)))))
          · rw [if_neg k7] at h
            simp at h
theorem entCells_app (l l' : List E5) : entCells (l ++ l') = entCells l ++ entCells l' := by simp [entCells]
theorem rdX_take {w : World} {q : Option Addr} {l : List E5} (h : RdX w q (entCells l)) (i : Nat) : RdX w q (entCells (l.take i)) := by
  intro j u hu
  refine h j u ?_
  have e : entCells l = entCells (l.take i) ++ entCells (l.drop i) := by rw [← entCells_app, List.take_append_drop]
  rw [e, List.getElem?_append_left (List.getElem?_eq_some_iff.1 hu).1]
  exact hu
theorem rdX_drop {w : World} {g : Nat} {l : List E5} (h : RdX w (some ⟨g, 0, none⟩) (entCells l)) (i : Nat) (hi : i ≤ l.length) : RdX w (some ⟨g, i * 5, none⟩) (entCells (l.drop i)) := by
  intro j u hu
  have e : entCells l = entCells (l.take i) ++ entCells (l.drop i) := by rw [← entCells_app, List.take_append_drop]
  have hl : (entCells (l.take i)).length = i * 5 := by rw [entCells_len, List.length_take]; congr 1; omega
  obtain ⟨A, hA, hb, hc⟩ := h (i * 5 + j) u (by rw [e, List.getElem?_append_right (by omega), hl, Nat.add_sub_cancel_left]; exact hu)
  obtain rfl : A = ⟨g, 0, none⟩ := by simpa using hA.symm
  refine ⟨⟨g, i * 5, none⟩, rfl, hb, ?_⟩
  rw [Addr.add_lit] at hc ⊢
  rw [Nat.zero_add] at hc
  exact hc
theorem row_cap {w : World} {base g n cap size : Nat} {e : TypeId} {xs : List Value} (h : w.ownsRow base e size (.slice (some ⟨g, 0, none⟩) n cap) n xs) : n ≤ cap := by
  rcases h.2 with ⟨hv, _⟩ | ⟨g', cap', cur, hv, _, _, hn, _⟩
  · simp at hv
  · simp at hv; omega
theorem blk_kept {w w' : World} {g : Nat} {xs : List Value} (h : Blk w g xs) (e : w'.heap[g]? = w.heap[g]?) : Blk w' g xs := by
  obtain ⟨t, ht⟩ := h
  exact ⟨t, by rw [e]; exact ht⟩
theorem copD_fin {w wA wB wC : World} {g1 n1 n2 n3 : Nat} {m : ImgV} {a : ImgA} {q1 q2 q3 : Option Addr} {c1 c2 c3 : Nat} {x1 x2 x3 : List Value} (hg : g1 < w.heap.size) (hA : Below w.drew.heap.size w.drew wA) (hB : Below wA.heap.size wA wB) (hC : Below wB.heap.size wB wC) (hX : Blk wC g1 [.slice a.p m.ph.length a.pc, .slice a.f m.fg.length a.fc, .slice a.l m.lv.length a.lc, .slice a.e m.en.length a.ec])
    (e1 : n1 = m.ph.length) (e2 : n2 = m.fg.length) (e3 : n3 = m.lv.length) (d1 : x1 = intCells m.ph) (d2 : x2 = boolCells m.fg) (d3 : x3 = boolCells m.lv)
    (h1 : wA.ownsRow w.drew.heap.size 3 1 (.slice q1 n1 c1) n1 x1) (h2 : wB.ownsRow wA.heap.size 4 1 (.slice q2 n2 c2) n2 x2) (h3 : wC.ownsRow wB.heap.size 4 1 (.slice q3 n3 c3) n3 x3) :
    copD w g1 m a (((wC.setCell ⟨g1, 0, none⟩ (.slice q1 n1 c1)).setCell ⟨g1, 1, none⟩ (.slice q2 n2 c2)).setCell ⟨g1, 2, none⟩ (.slice q3 n3 c3)) := by
  subst e1 e2 e3 d1 d2 d3
  have hwA : w.heap.size ≤ wA.heap.size := hA.size
  have hAB := hB.size
  have hBC := hC.size
  have hbC : Below w.heap.size w wC := ((drewB2 w).trans (hA.trans ((hB.trans (hC.mono hAB)).mono hwA)))
  have r1 : wC.ownsRow w.heap.size 3 1 (.slice q1 m.ph.length c1) m.ph.length (intCells m.ph) := rowLater (rowLater h1 hB) hC
  have r2 : wC.ownsRow wA.heap.size 4 1 (.slice q2 m.fg.length c2) m.fg.length (boolCells m.fg) := rowLater h2 hC
  have hg2 : g1 < wA.heap.size := by omega
  have hg3 : g1 < wB.heap.size := by omega
  refine ⟨q1, c1, q2, c2, q3, c3, ((hX.set 0 _).set 1 _).set 2 _, ?_, ?_, ?_, ?_, ?_, ?_⟩
  · exact row_set (row_set (row_set r1 (row_ne r1 hg)) (row_ne r1 hg)) (row_ne r1 hg)
  · exact row_base (row_set (row_set (row_set r2 (row_ne r2 hg2)) (row_ne r2 hg2)) (row_ne r2 hg2)) hwA
  · exact row_base (row_set (row_set (row_set h3 (row_ne h3 hg3)) (row_ne h3 hg3)) (row_ne h3 hg3)) (by omega)
  · intro A B hA' hB' e
    have l1 := (h2.lt A.block (by rw [hA']; rfl)).2
    have l2 := (h3.lt B.block (by rw [hB']; rfl)).1
    omega
  · exact (((hbC.mono (Nat.le_of_lt hg)).setCell (p := ⟨g1, 0, none⟩) (Nat.le_refl _) _).setCell (p := ⟨g1, 1, none⟩) (Nat.le_refl _) _).setCell (p := ⟨g1, 2, none⟩) (Nat.le_refl _) _
  · intro k hk hne
    repeat rw [Below.heap_setCell _ _ _ _ hne]
    exact hbC.block k hk
set_option maxHeartbeats 8000000 in
set_option maxRecDepth 100000 in
theorem apply_any (b : BldV) (q : Option Addr) (cap : Nat) (m : ImgV) (a : ImgA) (r : R5) (w : World) (hlen : b.cars.length ≤ 1000) (hsl : ∀ c ∈ b.cars, -9223372036854775808 ≤ c.sl ∧ c.sl < 9223372036854775807) (hp : m.ph.length ≤ 1000) (he : m.en.length ≤ 1000) (hr : RdC w q b.cars) (hm : RdM w m a) :
    Calls Try.prog 16 #[cvB b q cap, cvM m a, cvR r] w fun e w' => ∃ a', e = .returned (.tuple #[cvM (applyF b m r) a', .int .i64 (applyE b m r)]) ∧ OwnM w' w.heap.size (applyF b m r) a' ∧ Below w.heap.size w w' := by
  obtain ⟨i0, hi, hy0, hy1, hy2⟩ := info_parts infoI
  have Hi := Lib.hid hi; have Hz0 := Lib.hid hy0; have Hz1 := Lib.hid hy1; have Hz2 := Lib.hid hy2
  clear hi hy0 hy1 hy2
  obtain ⟨j0, hi, hy0, hy1, hy2⟩ := info_parts infoBo
  have Hj := Lib.hid hi; have Hj0 := Lib.hid hy0; have Hj1 := Lib.hid hy1; have Hj2 := Lib.hid hy2
  clear hi hy0 hy1 hy2
  obtain ⟨e0, hi, hy0, hy1, hy2⟩ := info_parts infoE
  have He := Lib.hid hi; have He0 := Lib.hid hy0; have He1 := Lib.hid hy1; have He2 := Lib.hid hy2
  clear hi hy0 hy1 hy2
  have X0 : Blk (w.alloc (.cells #[.int .i64 b.fl, .int .i64 b.deb, .int .i64 b.room, .int .i64 b.park, .float .f64 b.em, .float .f64 b.fu, .float .f64 b.ov, .slice q b.cars.length cap] 29)) w.heap.size [.int .i64 b.fl, .int .i64 b.deb, .int .i64 b.room, .int .i64 b.park, .float .f64 b.em, .float .f64 b.fu, .float .f64 b.ov, .slice q b.cars.length cap] := by
    have hx := Blk.new w [.int .i64 b.fl, .int .i64 b.deb, .int .i64 b.room, .int .i64 b.park, .float .f64 b.em, .float .f64 b.fu, .float .f64 b.ov, .slice q b.cars.length cap] 29
    exact hx
  replace X0 : Blk ((w.alloc (.cells #[.int .i64 b.fl, .int .i64 b.deb, .int .i64 b.room, .int .i64 b.park, .float .f64 b.em, .float .f64 b.fu, .float .f64 b.ov, .slice q b.cars.length cap] 29)).alloc (.cells #[.slice a.p m.ph.length a.pc, .slice a.f m.fg.length a.fc, .slice a.l m.lv.length a.lc, .slice a.e m.en.length a.ec] 35)) w.heap.size [.int .i64 b.fl, .int .i64 b.deb, .int .i64 b.room, .int .i64 b.park, .float .f64 b.em, .float .f64 b.fu, .float .f64 b.ov, .slice q b.cars.length cap] := X0.next (below1' _ _)
  replace X0 : Blk (((w.alloc (.cells #[.int .i64 b.fl, .int .i64 b.deb, .int .i64 b.room, .int .i64 b.park, .float .f64 b.em, .float .f64 b.fu, .float .f64 b.ov, .slice q b.cars.length cap] 29)).alloc (.cells #[.slice a.p m.ph.length a.pc, .slice a.f m.fg.length a.fc, .slice a.l m.lv.length a.lc, .slice a.e m.en.length a.ec] 35)).alloc (.cells #[.int .i64 r.1, .int .i64 r.2.1, .int .i64 r.2.2.1, .int .i64 r.2.2.2.1, .int .i64 r.2.2.2.2] 47)) w.heap.size [.int .i64 b.fl, .int .i64 b.deb, .int .i64 b.room, .int .i64 b.park, .float .f64 b.em, .float .f64 b.fu, .float .f64 b.ov, .slice q b.cars.length cap] := X0.next (below1' _ _)
  replace X0 : Blk ((((w.alloc (.cells #[.int .i64 b.fl, .int .i64 b.deb, .int .i64 b.room, .int .i64 b.park, .float .f64 b.em, .float .f64 b.fu, .float .f64 b.ov, .slice q b.cars.length cap] 29)).alloc (.cells #[.slice a.p m.ph.length a.pc, .slice a.f m.fg.length a.fc, .slice a.l m.lv.length a.lc, .slice a.e m.en.length a.ec] 35)).alloc (.cells #[.int .i64 r.1, .int .i64 r.2.1, .int .i64 r.2.2.1, .int .i64 r.2.2.2.1, .int .i64 r.2.2.2.2] 47)).alloc (.cells #[.slice none 0 0, .slice none 0 0, .slice none 0 0, .slice none 0 0] 35)) w.heap.size [.int .i64 b.fl, .int .i64 b.deb, .int .i64 b.room, .int .i64 b.park, .float .f64 b.em, .float .f64 b.fu, .float .f64 b.ov, .slice q b.cars.length cap] := X0.next (below1' _ _)
  have X1 : Blk ((w.alloc (.cells #[.int .i64 b.fl, .int .i64 b.deb, .int .i64 b.room, .int .i64 b.park, .float .f64 b.em, .float .f64 b.fu, .float .f64 b.ov, .slice q b.cars.length cap] 29)).alloc (.cells #[.slice a.p m.ph.length a.pc, .slice a.f m.fg.length a.fc, .slice a.l m.lv.length a.lc, .slice a.e m.en.length a.ec] 35)) (w.heap.size + 1) [.slice a.p m.ph.length a.pc, .slice a.f m.fg.length a.fc, .slice a.l m.lv.length a.lc, .slice a.e m.en.length a.ec] := by
    have hx := Blk.new (w.alloc (.cells #[.int .i64 b.fl, .int .i64 b.deb, .int .i64 b.room, .int .i64 b.park, .float .f64 b.em, .float .f64 b.fu, .float .f64 b.ov, .slice q b.cars.length cap] 29)) [.slice a.p m.ph.length a.pc, .slice a.f m.fg.length a.fc, .slice a.l m.lv.length a.lc, .slice a.e m.en.length a.ec] 35
    rw [World.size_alloc] at hx
    exact hx
  replace X1 : Blk (((w.alloc (.cells #[.int .i64 b.fl, .int .i64 b.deb, .int .i64 b.room, .int .i64 b.park, .float .f64 b.em, .float .f64 b.fu, .float .f64 b.ov, .slice q b.cars.length cap] 29)).alloc (.cells #[.slice a.p m.ph.length a.pc, .slice a.f m.fg.length a.fc, .slice a.l m.lv.length a.lc, .slice a.e m.en.length a.ec] 35)).alloc (.cells #[.int .i64 r.1, .int .i64 r.2.1, .int .i64 r.2.2.1, .int .i64 r.2.2.2.1, .int .i64 r.2.2.2.2] 47)) (w.heap.size + 1) [.slice a.p m.ph.length a.pc, .slice a.f m.fg.length a.fc, .slice a.l m.lv.length a.lc, .slice a.e m.en.length a.ec] := X1.next (below1' _ _)
  replace X1 : Blk ((((w.alloc (.cells #[.int .i64 b.fl, .int .i64 b.deb, .int .i64 b.room, .int .i64 b.park, .float .f64 b.em, .float .f64 b.fu, .float .f64 b.ov, .slice q b.cars.length cap] 29)).alloc (.cells #[.slice a.p m.ph.length a.pc, .slice a.f m.fg.length a.fc, .slice a.l m.lv.length a.lc, .slice a.e m.en.length a.ec] 35)).alloc (.cells #[.int .i64 r.1, .int .i64 r.2.1, .int .i64 r.2.2.1, .int .i64 r.2.2.2.1, .int .i64 r.2.2.2.2] 47)).alloc (.cells #[.slice none 0 0, .slice none 0 0, .slice none 0 0, .slice none 0 0] 35)) (w.heap.size + 1) [.slice a.p m.ph.length a.pc, .slice a.f m.fg.length a.fc, .slice a.l m.lv.length a.lc, .slice a.e m.en.length a.ec] := X1.next (below1' _ _)
  have X2 : Blk (((w.alloc (.cells #[.int .i64 b.fl, .int .i64 b.deb, .int .i64 b.room, .int .i64 b.park, .float .f64 b.em, .float .f64 b.fu, .float .f64 b.ov, .slice q b.cars.length cap] 29)).alloc (.cells #[.slice a.p m.ph.length a.pc, .slice a.f m.fg.length a.fc, .slice a.l m.lv.length a.lc, .slice a.e m.en.length a.ec] 35)).alloc (.cells #[.int .i64 r.1, .int .i64 r.2.1, .int .i64 r.2.2.1, .int .i64 r.2.2.2.1, .int .i64 r.2.2.2.2] 47)) (w.heap.size + 1 + 1) [.int .i64 r.1, .int .i64 r.2.1, .int .i64 r.2.2.1, .int .i64 r.2.2.2.1, .int .i64 r.2.2.2.2] := by
    have hx := Blk.new ((w.alloc (.cells #[.int .i64 b.fl, .int .i64 b.deb, .int .i64 b.room, .int .i64 b.park, .float .f64 b.em, .float .f64 b.fu, .float .f64 b.ov, .slice q b.cars.length cap] 29)).alloc (.cells #[.slice a.p m.ph.length a.pc, .slice a.f m.fg.length a.fc, .slice a.l m.lv.length a.lc, .slice a.e m.en.length a.ec] 35)) [.int .i64 r.1, .int .i64 r.2.1, .int .i64 r.2.2.1, .int .i64 r.2.2.2.1, .int .i64 r.2.2.2.2] 47
    rw [World.size_alloc, World.size_alloc] at hx
    exact hx
  replace X2 : Blk ((((w.alloc (.cells #[.int .i64 b.fl, .int .i64 b.deb, .int .i64 b.room, .int .i64 b.park, .float .f64 b.em, .float .f64 b.fu, .float .f64 b.ov, .slice q b.cars.length cap] 29)).alloc (.cells #[.slice a.p m.ph.length a.pc, .slice a.f m.fg.length a.fc, .slice a.l m.lv.length a.lc, .slice a.e m.en.length a.ec] 35)).alloc (.cells #[.int .i64 r.1, .int .i64 r.2.1, .int .i64 r.2.2.1, .int .i64 r.2.2.2.1, .int .i64 r.2.2.2.2] 47)).alloc (.cells #[.slice none 0 0, .slice none 0 0, .slice none 0 0, .slice none 0 0] 35)) (w.heap.size + 1 + 1) [.int .i64 r.1, .int .i64 r.2.1, .int .i64 r.2.2.1, .int .i64 r.2.2.2.1, .int .i64 r.2.2.2.2] := X2.next (below1' _ _)
  have X3 : Blk ((((w.alloc (.cells #[.int .i64 b.fl, .int .i64 b.deb, .int .i64 b.room, .int .i64 b.park, .float .f64 b.em, .float .f64 b.fu, .float .f64 b.ov, .slice q b.cars.length cap] 29)).alloc (.cells #[.slice a.p m.ph.length a.pc, .slice a.f m.fg.length a.fc, .slice a.l m.lv.length a.lc, .slice a.e m.en.length a.ec] 35)).alloc (.cells #[.int .i64 r.1, .int .i64 r.2.1, .int .i64 r.2.2.1, .int .i64 r.2.2.2.1, .int .i64 r.2.2.2.2] 47)).alloc (.cells #[.slice none 0 0, .slice none 0 0, .slice none 0 0, .slice none 0 0] 35)) (w.heap.size + 1 + 1 + 1) [.slice none 0 0, .slice none 0 0, .slice none 0 0, .slice none 0 0] := by
    have hx := Blk.new (((w.alloc (.cells #[.int .i64 b.fl, .int .i64 b.deb, .int .i64 b.room, .int .i64 b.park, .float .f64 b.em, .float .f64 b.fu, .float .f64 b.ov, .slice q b.cars.length cap] 29)).alloc (.cells #[.slice a.p m.ph.length a.pc, .slice a.f m.fg.length a.fc, .slice a.l m.lv.length a.lc, .slice a.e m.en.length a.ec] 35)).alloc (.cells #[.int .i64 r.1, .int .i64 r.2.1, .int .i64 r.2.2.1, .int .i64 r.2.2.2.1, .int .i64 r.2.2.2.2] 47)) [.slice none 0 0, .slice none 0 0, .slice none 0 0, .slice none 0 0] 35
    rw [World.size_alloc, World.size_alloc, World.size_alloc] at hx
    exact hx
  have XW : Below w.heap.size w (w.alloc (.cells #[.int .i64 b.fl, .int .i64 b.deb, .int .i64 b.room, .int .i64 b.park, .float .f64 b.em, .float .f64 b.fu, .float .f64 b.ov, .slice q b.cars.length cap] 29)) := below1' w _
  replace XW : Below w.heap.size w ((w.alloc (.cells #[.int .i64 b.fl, .int .i64 b.deb, .int .i64 b.room, .int .i64 b.park, .float .f64 b.em, .float .f64 b.fu, .float .f64 b.ov, .slice q b.cars.length cap] 29)).alloc (.cells #[.slice a.p m.ph.length a.pc, .slice a.f m.fg.length a.fc, .slice a.l m.lv.length a.lc, .slice a.e m.en.length a.ec] 35)) := XW.trans ((below1' _ _).mono XW.size)
  replace XW : Below w.heap.size w (((w.alloc (.cells #[.int .i64 b.fl, .int .i64 b.deb, .int .i64 b.room, .int .i64 b.park, .float .f64 b.em, .float .f64 b.fu, .float .f64 b.ov, .slice q b.cars.length cap] 29)).alloc (.cells #[.slice a.p m.ph.length a.pc, .slice a.f m.fg.length a.fc, .slice a.l m.lv.length a.lc, .slice a.e m.en.length a.ec] 35)).alloc (.cells #[.int .i64 r.1, .int .i64 r.2.1, .int .i64 r.2.2.1, .int .i64 r.2.2.2.1, .int .i64 r.2.2.2.2] 47)) := XW.trans ((below1' _ _).mono XW.size)
  replace XW : Below w.heap.size w ((((w.alloc (.cells #[.int .i64 b.fl, .int .i64 b.deb, .int .i64 b.room, .int .i64 b.park, .float .f64 b.em, .float .f64 b.fu, .float .f64 b.ov, .slice q b.cars.length cap] 29)).alloc (.cells #[.slice a.p m.ph.length a.pc, .slice a.f m.fg.length a.fc, .slice a.l m.lv.length a.lc, .slice a.e m.en.length a.ec] 35)).alloc (.cells #[.int .i64 r.1, .int .i64 r.2.1, .int .i64 r.2.2.1, .int .i64 r.2.2.2.1, .int .i64 r.2.2.2.2] 47)).alloc (.cells #[.slice none 0 0, .slice none 0 0, .slice none 0 0, .slice none 0 0] 35)) := XW.trans ((below1' _ _).mono XW.size)
  have HWW := Lib.hid XW; have HX0 := Lib.hid X0; have HX1 := Lib.hid X1; have HX2 := Lib.hid X2; have HX3 := Lib.hid X3
  clear XW X0 X1 X2 X3
  have HR := Lib.hid (hr.next HWW.out); have HM := Lib.hid (hm.next HWW.out)
  have HL := Lib.hid hlen; have HSL := Lib.hid hsl; have HP := Lib.hid hp; have HE := Lib.hid he
  have HAF : Hid ((applyOk b m r = true → applyF b m r = applyV m r ∧ applyE b m r = 0) ∧ (applyOk b m r = false → applyF b m r = img0 ∧ applyE b m r = 1)) := Lib.hid ⟨fun h => by rw [applyF, applyE, if_pos h, if_pos h]; exact ⟨rfl, rfl⟩, fun h => by rw [applyF, applyE, h]; exact ⟨rfl, rfl⟩⟩
  have HM0 := Lib.hid hm
  clear hr hm hsl hlen hp he
  go_enter Try.func16, Try.ntmps16
  go_upto_region 1 with fail
  generalize ((((w.alloc (.cells #[.int .i64 b.fl, .int .i64 b.deb, .int .i64 b.room, .int .i64 b.park, .float .f64 b.em, .float .f64 b.fu, .float .f64 b.ov, .slice q b.cars.length cap] 29)).alloc (.cells #[.slice a.p m.ph.length a.pc, .slice a.f m.fg.length a.fc, .slice a.l m.lv.length a.lc, .slice a.e m.en.length a.ec] 35)).alloc (.cells #[.int .i64 r.1, .int .i64 r.2.1, .int .i64 r.2.2.1, .int .i64 r.2.2.2.1, .int .i64 r.2.2.2.2] 47)).alloc (.cells #[.slice none 0 0, .slice none 0 0, .slice none 0 0, .slice none 0 0] 35)) = w0 at *
  generalize hg3 : w.heap.size + 1 + 1 + 1 = g3 at *
  generalize hg2 : w.heap.size + 1 + 1 = g2 at *
  generalize hg1 : w.heap.size + 1 = g1 at *
  have HG1 := Lib.hid hg1; have hq1 : w.heap.size + 1 ≤ g1 := by omega
  have HG2 := Lib.hid hg2; have hq2 : w.heap.size + 2 ≤ g2 := by omega
  have HG3 := Lib.hid hg3; have hq3 : w.heap.size + 3 ≤ g3 := by omega
  clear hg1 hg2 hg3
  have HW := Lib.hid (Below.refl w0.heap.size w0)
  have hz0 := HX0.out.lt; have hz1 := HX1.out.lt; have hz2 := HX2.out.lt; have hz3 := HX3.out.lt
  have k0 := (HX0.out).cell 0 _ rfl
  have k1 := (HX0.out).cell 1 _ rfl
  have k2 := (HX0.out).cell 2 _ rfl
  have k3 := (HX0.out).cell 3 _ rfl
  have k4 := (HX0.out).cell 4 _ rfl
  have k5 := (HX0.out).cell 5 _ rfl
  have k6 := (HX0.out).cell 6 _ rfl
  have k7 := (HX0.out).cell 7 _ rfl
  have y0 := (HX1.out).cell 0 _ rfl
  have y1 := (HX1.out).cell 1 _ rfl
  have y2 := (HX1.out).cell 2 _ rfl
  have y3 := (HX1.out).cell 3 _ rfl
  have x0 := (HX2.out).cell 0 _ rfl
  have x1 := (HX2.out).cell 1 _ rfl
  have x2 := (HX2.out).cell 2 _ rfl
  have x3 := (HX2.out).cell 3 _ rfl
  have x4 := (HX2.out).cell 4 _ rfl
  go_wp2_with fail
  refine (refIsImage_any b q cap m a _ HL.out HSL.out HP.out HE.out HR.out HM.out).mono ?_
  rintro e w1 ⟨rfl, hb1⟩
  have HY0 := Lib.hid (HX0.out.next hb1); have HY1 := Lib.hid (HX1.out.next hb1); have HY2 := Lib.hid (HX2.out.next hb1); have HY3 := Lib.hid (HX3.out.next hb1); have HR1 := Lib.hid (HR.out.next hb1); have HM1 := Lib.hid (HM.out.next hb1)
  have HW1 := Lib.hid (HWW.out.trans (hb1.mono HWW.out.size))
  have hz3 : g3 < w1.heap.size := HY3.out.lt
  clear HX0 HX1 HX2 HX3 HR HM HWW hb1 HW hz0 hz1 hz2 k0 k1 k2 k3 k4 k5 k6 k7 y0 y1 y2 y3 x0 x1 x2 x3 x4
  cases him : imgB b m
  · have HF := Lib.hid (HAF.out.2 (by rw [applyOk, him]; rfl))
    clear him HAF
    have z0 := HY3.out.fr 0; have z1 := HY3.out.fr 1; have z2 := HY3.out.fr 2; have z3 := HY3.out.fr 3
    have y0 := (HY3.out).cell 0 _ rfl
    have y1 := (HY3.out).cell 1 _ rfl
    have y2 := (HY3.out).cell 2 _ rfl
    have y3 := (HY3.out).cell 3 _ rfl
    go_wp2_with fail
    have R3 := (((HY3.out.set 0 (.slice none 0 0)).set 1 (.slice none 0 0)).set 2 (.slice none 0 0)).set 3 (.slice none 0 0)
    have r0 := (R3).cell 0 _ rfl
    have r1 := (R3).cell 1 _ rfl
    have r2 := (R3).cell 2 _ rfl
    have r3 := (R3).cell 3 _ rfl
    refine bodyPost_ret (v := .tuple #[cvM img0 imgA0, .int .i64 1]) (by simp [results, Try.results16, go_sem, r0, r1, r2, r3, img0, imgA0]) rfl ⟨imgA0, by rw [HF.out.1, HF.out.2], by rw [HF.out.1]; exact OwnM.nil _ _, (((HW1.out.setCell (p := ⟨g3, 0, none⟩) (by show w.heap.size ≤ g3; omega) _).setCell (p := ⟨g3, 1, none⟩) (by show w.heap.size ≤ g3; omega) _).setCell (p := ⟨g3, 2, none⟩) (by show w.heap.size ≤ g3; omega) _).setCell (p := ⟨g3, 3, none⟩) (by show w.heap.size ≤ g3; omega) _⟩
  have HIM := Lib.hid him
  clear him
  have k0 := (HY0.out).cell 0 _ rfl
  have k1 := (HY0.out).cell 1 _ rfl
  have k2 := (HY0.out).cell 2 _ rfl
  have k3 := (HY0.out).cell 3 _ rfl
  have k4 := (HY0.out).cell 4 _ rfl
  have k5 := (HY0.out).cell 5 _ rfl
  have k6 := (HY0.out).cell 6 _ rfl
  have k7 := (HY0.out).cell 7 _ rfl
  have x0 := (HY2.out).cell 0 _ rfl
  have x1 := (HY2.out).cell 1 _ rfl
  have x2 := (HY2.out).cell 2 _ rfl
  have x3 := (HY2.out).cell 3 _ rfl
  have x4 := (HY2.out).cell 4 _ rfl
  go_wp2_with fail
  refine (valid9_any b q cap r _ HL.out HSL.out HR1.out).mono ?_
  rintro e w2 ⟨rfl, hb2⟩
  have HZ0 := Lib.hid (HY0.out.next hb2); have HZ1 := Lib.hid (HY1.out.next hb2); have HZ2 := Lib.hid (HY2.out.next hb2); have HZ3 := Lib.hid (HY3.out.next hb2); have HM2 := Lib.hid (HM1.out.next hb2)
  have HW2 := Lib.hid (HW1.out.trans (hb2.mono HW1.out.size))
  have hz3' : g3 < w2.heap.size := HZ3.out.lt
  have hz2' : g2 < w2.heap.size := HZ2.out.lt
  clear HY0 HY1 HY2 HY3 HR1 HM1 HW1 hb2 hz3 k0 k1 k2 k3 k4 k5 k6 k7 x0 x1 x2 x3 x4
  cases hro : recOk b r
  · have HF := Lib.hid (HAF.out.2 (by rw [applyOk, hro, HIM.out]; rfl))
    clear hro HAF
    have z0 := HZ3.out.fr 0; have z1 := HZ3.out.fr 1; have z2 := HZ3.out.fr 2; have z3 := HZ3.out.fr 3
    have y0 := (HZ3.out).cell 0 _ rfl
    have y1 := (HZ3.out).cell 1 _ rfl
    have y2 := (HZ3.out).cell 2 _ rfl
    have y3 := (HZ3.out).cell 3 _ rfl
    go_wp2_with fail
    have R3 := (((HZ3.out.set 0 (.slice none 0 0)).set 1 (.slice none 0 0)).set 2 (.slice none 0 0)).set 3 (.slice none 0 0)
    have r0 := (R3).cell 0 _ rfl
    have r1 := (R3).cell 1 _ rfl
    have r2 := (R3).cell 2 _ rfl
    have r3 := (R3).cell 3 _ rfl
    refine bodyPost_ret (v := .tuple #[cvM img0 imgA0, .int .i64 1]) (by simp [results, Try.results16, go_sem, r0, r1, r2, r3, img0, imgA0]) rfl ⟨imgA0, by rw [HF.out.1, HF.out.2], by rw [HF.out.1]; exact OwnM.nil _ _, (((HW2.out.setCell (p := ⟨g3, 0, none⟩) (by show w.heap.size ≤ g3; omega) _).setCell (p := ⟨g3, 1, none⟩) (by show w.heap.size ≤ g3; omega) _).setCell (p := ⟨g3, 2, none⟩) (by show w.heap.size ≤ g3; omega) _).setCell (p := ⟨g3, 3, none⟩) (by show w.heap.size ≤ g3; omega) _⟩
  have HRO := Lib.hid hro
  have HF := Lib.hid (HAF.out.1 (by rw [applyOk, hro, HIM.out]; rfl))
  clear hro HAF
  go_upto_region 3 with fail
  have hg1 : g1 < w2.heap.size := HZ1.out.lt
  have y0 := (HZ1.out).cell 0 _ rfl
  have y1 := (HZ1.out).cell 1 _ rfl
  have y2 := (HZ1.out).cell 2 _ rfl
  have y3 := (HZ1.out).cell 3 _ rfl
  have f0 := HZ1.out.fr 0; have f1 := HZ1.out.fr 1; have f2 := HZ1.out.fr 2
  obtain ⟨n, hn⟩ : ∃ n, b.cars.length = n := ⟨_, rfl⟩
  obtain ⟨hlp, hlf, hll⟩ := imgB_len b m HIM.out
  have HLP := Lib.hid hlp; have HLF := Lib.hid hlf; have HLL := Lib.hid hll; have HN := Lib.hid hn
  clear hlp hlf hll hn
  go_cut [] from 20 to 31 (fun wx => copD w2 g1 m a wx)
  case first =>
    go_region_law (first
      | (refine step_ap rfl _ _ rfl Try.underlying31 Hi.out Hz0.out Hz1.out Hz2.out rfl (by decide) rfl rfl (World.ownsRow_nil _ _ _ _) (by simp [intCells]) (HM2.out.1.next (drewB2 _)) (int_one _) (by have := HP.out; unfold maxLen; omega) (by have := HP.out; omega) (Nat.le_refl _) ?_
         intro v1 wA hown hgr
         rw [Nat.zero_add, List.nil_append] at hown
         obtain ⟨q1, c1, rfl⟩ := row_form hown
         have HOA := Lib.hid hown; have HBA := Lib.hid (below_none2 hgr)
         have HXA : Hid (Blk wA g1 [.slice a.p m.ph.length a.pc, .slice a.f m.fg.length a.fc, .slice a.l m.lv.length a.lc, .slice a.e m.en.length a.ec]) := Lib.hid ((HZ1.out.next (drewB2 _)).next HBA.out)
         have HMA : Hid (RdM wA m a) := Lib.hid ((HM2.out.next (drewB2 _)).next HBA.out)
         have ya0 := HXA.out.cell 0 _ rfl; have ya1 := HXA.out.cell 1 _ rfl; have ya2 := HXA.out.cell 2 _ rfl; have ya3 := HXA.out.cell 3 _ rfl
         have fya0 := HXA.out.fr 0; have fya1 := HXA.out.fr 1; have fya2 := HXA.out.fr 2
         clear hown hgr)
      | (refine step_ap rfl _ _ rfl Try.underlying32 Hj.out Hj0.out Hj1.out Hj2.out rfl (by decide) rfl rfl (World.ownsRow_nil _ _ _ _) (by simp [boolCells]) HMA.out.2.1 (bools_one _) (by have := HLF.out; have := HL.out; unfold maxLen; omega) (by have := HLF.out; have := HL.out; omega) (Nat.le_refl _) ?_
         intro v2 wB hown hgr
         rw [Nat.zero_add, List.nil_append] at hown
         obtain ⟨q2, c2, rfl⟩ := row_form hown
         have HOB := Lib.hid hown; have HBB := Lib.hid (below_none2 hgr)
         have HXB : Hid (Blk wB g1 [.slice a.p m.ph.length a.pc, .slice a.f m.fg.length a.fc, .slice a.l m.lv.length a.lc, .slice a.e m.en.length a.ec]) := Lib.hid (HXA.out.next HBB.out)
         have HMB : Hid (RdM wB m a) := Lib.hid (HMA.out.next HBB.out)
         have yb0 := HXB.out.cell 0 _ rfl; have yb1 := HXB.out.cell 1 _ rfl; have yb2 := HXB.out.cell 2 _ rfl; have yb3 := HXB.out.cell 3 _ rfl
         have fyb0 := HXB.out.fr 0; have fyb1 := HXB.out.fr 1; have fyb2 := HXB.out.fr 2
         clear hown hgr)
      | (refine step_ap rfl _ _ rfl Try.underlying32 Hj.out Hj0.out Hj1.out Hj2.out rfl (by decide) rfl rfl (World.ownsRow_nil _ _ _ _) (by simp [boolCells]) HMB.out.2.2.1 (bools_one _) (by have := HLL.out; have := HL.out; unfold maxLen; omega) (by have := HLL.out; have := HL.out; omega) (Nat.le_refl _) ?_
         intro v3 wC hown hgr
         rw [Nat.zero_add, List.nil_append] at hown
         obtain ⟨q3, c3, rfl⟩ := row_form hown
         have HOC := Lib.hid hown; have HBC := Lib.hid (below_none2 hgr)
         have HXC : Hid (Blk wC g1 [.slice a.p m.ph.length a.pc, .slice a.f m.fg.length a.fc, .slice a.l m.lv.length a.lc, .slice a.e m.en.length a.ec]) := Lib.hid (HXB.out.next HBC.out)
         have yc0 := HXC.out.cell 0 _ rfl; have yc1 := HXC.out.cell 1 _ rfl; have yc2 := HXC.out.cell 2 _ rfl; have yc3 := HXC.out.cell 3 _ rfl
         have fyc0 := HXC.out.fr 0; have fyc1 := HXC.out.fr 1; have fyc2 := HXC.out.fr 2
         clear hown hgr)
      | fail)
    all_goals go_wp2_with fail
    all_goals go_meet
    all_goals (exact copD_fin hg1 HBA.out HBB.out HBC.out HXC.out rfl rfl rfl rfl rfl rfl HOA.out HOB.out HOC.out)
  case rest =>
    obtain ⟨p1, pc1, pf1, fc1, pl1, lc1, hX3, ho1, ho2, ho3, hne, hb3, hkp⟩ := hcut
    generalize hwc : wc = w3 at *
    clear hwc y0 y1 y2 y3 f0 f1 f2
    have HO1 := Lib.hid ho1; have HO2 := Lib.hid ho2; have HO3 := Lib.hid ho3; have HNE := Lib.hid hne; have HX3 := Lib.hid hX3
    have hgw : w.heap.size ≤ g1 := by omega
    have HW3 := Lib.hid (HW2.out.trans (hb3.mono hgw))
    have hG2 : g2 ≠ g1 := by have := HG1.out; have := HG2.out; omega
    have hG3 : g3 ≠ g1 := by have := HG1.out; have := HG3.out; omega
    have HC2 := Lib.hid (blk_kept HZ2.out (hkp g2 HZ2.out.lt hG2))
    have HC3 := Lib.hid (blk_kept HZ3.out (hkp g3 HZ3.out.lt hG3))
    have HEN : Hid (RdX w3 a.e (entCells m.en)) := Lib.hid (HM0.out.next HW3.out).2.2.2
    have hw23 : w2.heap.size ≤ w3.heap.size := hb3.size
    clear hX3 ho1 ho2 ho3 hne hb3 hkp HZ0 HZ1 HZ2 HZ3 HM2 HW2 HM0
    have y3 := (HX3.out).cell 3 _ rfl
    have HEL := Lib.hid (entCells_len m.en)
    go_upto_region 5 with (at_builtin; refine wpList_ap rfl _ _ rfl Try.underlying33 He.out He0.out He1.out He2.out rfl (by decide) rfl rfl (World.ownsRow_nil w3 w3.heap.size _ _) HEL.out HEN.out (ents_one _) (by have := HE.out; unfold maxLen; omega) (by have := HE.out; omega) (Nat.le_refl _) ?_; intro v4 w4 hown hgr; rw [Nat.zero_add, List.nil_append] at hown; obtain ⟨q4, c4, rfl⟩ := row_form hown; have HO4 := Lib.hid hown; have HB4 := Lib.hid (below_none2 hgr); have HX4 : Hid (Blk w4 g1 _) := Lib.hid (HX3.out.next HB4.out); clear hown hgr y3; have y3 := HX4.out.cell 3 _ rfl; have f3 := HX4.out.fr 3)
    clear y3 f3
    have hg14 : g1 < w3.heap.size := HX3.out.lt
    have HX5 := Lib.hid (HX4.out.set 3 (.slice q4 m.en.length c4))
    have HO15 := Lib.hid (row_set (i := 3) (u := .slice q4 m.en.length c4) (rowLater HO1.out HB4.out) (row_ne (rowLater HO1.out HB4.out) hg1))
    have HO25 := Lib.hid (row_set (i := 3) (u := .slice q4 m.en.length c4) (rowLater HO2.out HB4.out) (row_ne (rowLater HO2.out HB4.out) hg1))
    have HO35 := Lib.hid (row_set (i := 3) (u := .slice q4 m.en.length c4) (rowLater HO3.out HB4.out) (row_ne (rowLater HO3.out HB4.out) hg1))
    have HO45 := Lib.hid (row_base (row_set (i := 3) (u := .slice q4 m.en.length c4) HO4.out (row_ne HO4.out hg14)) hw23)
    have HC25 := Lib.hid ((HC2.out.next HB4.out).other (i := 3) hG2 (.slice q4 m.en.length c4))
    have HC35 := Lib.hid ((HC3.out.next HB4.out).other (i := 3) hG3 (.slice q4 m.en.length c4))
    have HW5 := Lib.hid ((HW3.out.trans (HB4.out.mono HW3.out.size)).setCell (p := ⟨g1, 3, none⟩) hgw (.slice q4 m.en.length c4))
    have HS5 : Hid (w2.heap.size ≤ (w4.setCell ⟨g1, 3, none⟩ (.slice q4 m.en.length c4)).heap.size) := Lib.hid (by have := HB4.out.size; simp; omega)
    clear HX4 HO1 HO2 HO3 HO4 HC2 HC3 HW3 HB4 HX3 HEN
    change Hid (Blk _ g1 [.slice p1 m.ph.length pc1, .slice pf1 m.fg.length fc1, .slice pl1 m.lv.length lc1, .slice q4 m.en.length c4]) at HX5
    generalize w4.setCell ⟨g1, 3, none⟩ (.slice q4 m.en.length c4) = w5 at *
    have HOM : Hid (OwnM w5 w2.heap.size m ⟨p1, pc1, pf1, fc1, pl1, lc1, q4, c4⟩) := Lib.hid ⟨HO15.out, HO25.out, HO35.out, HO45.out, HNE.out⟩
    clear HO15 HO25 HO35 HO45 HNE
    have y0 := (HX5.out).cell 0 _ rfl
    have y1 := (HX5.out).cell 1 _ rfl
    have y2 := (HX5.out).cell 2 _ rfl
    have y3 := (HX5.out).cell 3 _ rfl
    have x0 := (HC25.out).cell 0 _ rfl
    have x1 := (HC25.out).cell 1 _ rfl
    have x2 := (HC25.out).cell 2 _ rfl
    have x3 := (HC25.out).cell 3 _ rfl
    have x4 := (HC25.out).cell 4 _ rfl
    go_wp2_with fail
    refine (find_any m ⟨p1, pc1, pf1, fc1, pl1, lc1, q4, c4⟩ r.2.1 r.2.2.1 _ HE.out HOM.out.rd.2.2.2).mono ?_
    rintro e w6 ⟨rfl, hb6⟩
    have HX6 := Lib.hid (HX5.out.next hb6); have HOM6 := Lib.hid (HOM.out.later hb6); have HC26 := Lib.hid (HC25.out.next hb6); have HC36 := Lib.hid (HC35.out.next hb6)
    have HW6 := Lib.hid (HW5.out.trans (hb6.mono HW5.out.size))
    have hs26' : w2.heap.size ≤ w6.heap.size := by have := HX5.out.lt; have h1 := HS5.out; have h2 := hb6.size; omega
    clear HX5 HOM HC25 HC35 HW5 hb6 y0 y1 y2 y3 x0 x1 x2 x3 x4
    have HLP2 : Hid (m.ph.length = n) := Lib.hid (by rw [HLP.out, HN.out])
    have HLF2 : Hid (m.fg.length = n) := Lib.hid (by rw [HLF.out, HN.out])
    have HLL2 : Hid (m.lv.length = n) := Lib.hid (by rw [HLL.out, HN.out])
    have hk7 := recOk_kinds b r HRO.out
    rw [HN.out] at hk7
    have HK7 := Lib.hid hk7
    clear hk7
    obtain ⟨fi, hfi⟩ : ∃ fi, findI m.en r.2.1 r.2.2.1 = fi := ⟨_, rfl⟩
    have HFC : Hid ((findN m.en r.2.1 r.2.2.1 m.en.length = none ∧ fi = -1) ∨ ∃ (i : Nat) (e : E5), findN m.en r.2.1 r.2.2.1 m.en.length = some i ∧ fi = (i : Int) ∧ m.en[i]? = some e) := Lib.hid (by
      rw [← hfi]
      cases hf : findN m.en r.2.1 r.2.2.1 m.en.length with
      | none => exact .inl ⟨rfl, by unfold findI; rw [hf]⟩
      | some i =>
        obtain ⟨_, _, e, he, _⟩ := findN_lt _ _ _ _ _ hf
        exact .inr ⟨i, e, rfl, by unfold findI; rw [hf], he⟩)
    rw [hfi]
    clear hfi
    go_upto_block 0 with fail
    go_cut [] from 42 to 142 (fun wx => swD w w2 g1 g3 (applyV m r) wx)
    case first =>
      rcases HK7.out with ⟨hk, i, hi, hil⟩ | ⟨hk, i, hi, hil⟩ | ⟨hk, i, hi, hil⟩ | hk | hk | hk | hk
      · have hin : i < m.ph.length := by have := HLP2.out; rw [HLP2.out]; omega
        obtain ⟨bp, cp, hpe, hbl, hbu⟩ := World.ownsRow.form HOM6.out.1 (by omega)
        obtain ⟨rfl, rfl⟩ : p1 = some ⟨bp, 0, none⟩ ∧ pc1 = cp := by simpa using hpe
        have HV : Hid (applyV m r = { m with ph := m.ph.set i r.2.2.2.2 }) := Lib.hid (by
          unfold applyV
          simp only [hk, hi, Int.toNat_natCast]; rfl)
        obtain ⟨uo, huo⟩ : ∃ u, w6.cell? ⟨bp, i, none⟩ = some u := by
          obtain ⟨A, hA, _, hc⟩ := HOM6.out.rd.1 i _ (show (intCells m.ph)[i]? = some _ by simp [intCells, hin]; rfl)
          obtain rfl : A = ⟨bp, 0, none⟩ := by simpa using hA.symm
          rw [Addr.add_lit, Nat.zero_add] at hc
          exact ⟨_, hc⟩
        have hfo := row_fr HOM6.out.1 i
        have x0 : w6.cell? ⟨g2, 0, none⟩ = some (.int .i64 4) := by rw [← hk]; exact HC26.out.cell 0 _ rfl
        have x3 : w6.cell? ⟨g2, 3, none⟩ = some (.int .i64 (i : Int)) := by rw [← hi]; exact HC26.out.cell 3 _ rfl
        have x4 := HC26.out.cell 4 _ rfl
        have y0 := (HX6.out).cell 0 _ rfl
        have y1 := (HX6.out).cell 1 _ rfl
        have y2 := (HX6.out).cell 2 _ rfl
        have y3 := (HX6.out).cell 3 _ rfl
        have hii : (i : Int) < (m.ph.length : Int) := by omega
        have hi0 : (0 : Int) ≤ (i : Int) := by omega
        have hg1b : g1 ≠ bp := by omega
        have hg3b : g3 ≠ bp := by omega
        have hwb : w.heap.size ≤ bp := by omega
        clear hk hi hpe
        go_wp2_with fail
        go_meet
        refine ⟨⟨some ⟨bp, 0, none⟩, pc1, pf1, fc1, pl1, lc1, q4, c4⟩, ?_, ?_, HC36.out.other (i := i) hg3b _, HW6.out.setCell (p := ⟨bp, i, none⟩) hwb _⟩
        · rw [HV.out]
          have h := HX6.out.other (i := i) hg1b (.int .i64 r.2.2.2.2)
          simpa using h
        · rw [HV.out]
          exact HOM6.out.setPh i _
      · have hin : i < m.fg.length := by have := HLF2.out; rw [HLF2.out]; omega
        obtain ⟨bp, cp, hpe, hbl, hbu⟩ := World.ownsRow.form HOM6.out.2.1 (by omega)
        obtain ⟨rfl, rfl⟩ : pf1 = some ⟨bp, 0, none⟩ ∧ fc1 = cp := by simpa using hpe
        have HV : Hid (applyV m r = { m with fg := m.fg.set i (r.2.2.2.2 == 1) }) := Lib.hid (by
          unfold applyV
          simp only [hk, hi, Int.toNat_natCast]; rfl)
        obtain ⟨uo, huo⟩ : ∃ u, w6.cell? ⟨bp, i, none⟩ = some u := by
          obtain ⟨A, hA, _, hc⟩ := HOM6.out.rd.2.1 i _ (show (boolCells m.fg)[i]? = some _ by simp [boolCells, hin]; rfl)
          obtain rfl : A = ⟨bp, 0, none⟩ := by simpa using hA.symm
          rw [Addr.add_lit, Nat.zero_add] at hc
          exact ⟨_, hc⟩
        have hfo := row_fr HOM6.out.2.1 i
        have x0 : w6.cell? ⟨g2, 0, none⟩ = some (.int .i64 5) := by rw [← hk]; exact HC26.out.cell 0 _ rfl
        have x3 : w6.cell? ⟨g2, 3, none⟩ = some (.int .i64 (i : Int)) := by rw [← hi]; exact HC26.out.cell 3 _ rfl
        have x4 := HC26.out.cell 4 _ rfl
        have y0 := (HX6.out).cell 0 _ rfl
        have y1 := (HX6.out).cell 1 _ rfl
        have y2 := (HX6.out).cell 2 _ rfl
        have y3 := (HX6.out).cell 3 _ rfl
        have hii : (i : Int) < (m.fg.length : Int) := by omega
        have hi0 : (0 : Int) ≤ (i : Int) := by omega
        have hg1b : g1 ≠ bp := by omega
        have hg3b : g3 ≠ bp := by omega
        have hwb : w.heap.size ≤ bp := by omega
        clear hk hi hpe
        go_wp2_with fail
        go_meet
        refine ⟨⟨p1, pc1, some ⟨bp, 0, none⟩, fc1, pl1, lc1, q4, c4⟩, ?_, ?_, HC36.out.other (i := i) hg3b _, HW6.out.setCell (p := ⟨bp, i, none⟩) hwb _⟩
        · rw [HV.out]
          have h := HX6.out.other (i := i) hg1b (.bool (r.2.2.2.2 == 1))
          simpa using h
        · rw [HV.out]
          exact HOM6.out.setFg i _
      · have hin : i < m.lv.length := by have := HLL2.out; rw [HLL2.out]; omega
        obtain ⟨bp, cp, hpe, hbl, hbu⟩ := World.ownsRow.form HOM6.out.2.2.1 (by omega)
        obtain ⟨rfl, rfl⟩ : pl1 = some ⟨bp, 0, none⟩ ∧ lc1 = cp := by simpa using hpe
        have HV : Hid (applyV m r = { m with lv := m.lv.set i (r.2.2.2.2 == 1) }) := Lib.hid (by
          unfold applyV
          simp only [hk, hi, Int.toNat_natCast]; rfl)
        obtain ⟨uo, huo⟩ : ∃ u, w6.cell? ⟨bp, i, none⟩ = some u := by
          obtain ⟨A, hA, _, hc⟩ := HOM6.out.rd.2.2.1 i _ (show (boolCells m.lv)[i]? = some _ by simp [boolCells, hin]; rfl)
          obtain rfl : A = ⟨bp, 0, none⟩ := by simpa using hA.symm
          rw [Addr.add_lit, Nat.zero_add] at hc
          exact ⟨_, hc⟩
        have hfo := row_fr HOM6.out.2.2.1 i
        have x0 : w6.cell? ⟨g2, 0, none⟩ = some (.int .i64 6) := by rw [← hk]; exact HC26.out.cell 0 _ rfl
        have x3 : w6.cell? ⟨g2, 3, none⟩ = some (.int .i64 (i : Int)) := by rw [← hi]; exact HC26.out.cell 3 _ rfl
        have x4 := HC26.out.cell 4 _ rfl
        have y0 := (HX6.out).cell 0 _ rfl
        have y1 := (HX6.out).cell 1 _ rfl
        have y2 := (HX6.out).cell 2 _ rfl
        have y3 := (HX6.out).cell 3 _ rfl
        have hii : (i : Int) < (m.lv.length : Int) := by omega
        have hi0 : (0 : Int) ≤ (i : Int) := by omega
        have hg1b : g1 ≠ bp := by omega
        have hg3b : g3 ≠ bp := by omega
        have hwb : w.heap.size ≤ bp := by omega
        clear hk hi hpe
        go_wp2_with fail
        go_meet
        refine ⟨⟨p1, pc1, pf1, fc1, some ⟨bp, 0, none⟩, lc1, q4, c4⟩, ?_, ?_, HC36.out.other (i := i) hg3b _, HW6.out.setCell (p := ⟨bp, i, none⟩) hwb _⟩
        · rw [HV.out]
          have h := HX6.out.other (i := i) hg1b (.bool (r.2.2.2.2 == 1))
          simpa using h
        · rw [HV.out]
          exact HOM6.out.setLv i _
      · rcases HFC.out with ⟨hfn, hfi⟩ | ⟨i, e, hfn, hfi, hie⟩
        · obtain rfl : fi = -1 := hfi
          have HV : Hid (applyV m r = { m with en := enterL m.en (r.2.1, r.2.2.1, -1, 0, false) }) := Lib.hid (by simp [applyV, putE, hk, hfn])
          have x0 : w6.cell? ⟨g2, 0, none⟩ = some (.int .i64 1) := by rw [← hk]; exact HC26.out.cell 0 _ rfl
          have x1 := (HC26.out).cell 1 _ rfl
          have x2 := (HC26.out).cell 2 _ rfl
          have x3 := (HC26.out).cell 3 _ rfl
          have x4 := (HC26.out).cell 4 _ rfl
          have y0 := (HX6.out).cell 0 _ rfl
          have y1 := (HX6.out).cell 1 _ rfl
          have y2 := (HX6.out).cell 2 _ rfl
          have y3 := (HX6.out).cell 3 _ rfl
          clear hk hfn
          go_wp2_with fail
          refine (entered_any m.en q4 c4 (r.2.1, r.2.2.1, -1, 0, false) _ HE.out HOM6.out.rd.2.2.2).mono ?_
          rintro e w7 ⟨v, rfl, hown, hb7⟩
          obtain ⟨q5, c5, rfl⟩ := row_form hown
          have HX7 := Lib.hid (HX6.out.next hb7); have HC37 := Lib.hid (HC36.out.next hb7); have HW7 := Lib.hid (HW6.out.trans (hb7.mono HW6.out.size)); have HOM7 := Lib.hid (HOM6.out.later hb7); have HO7 := Lib.hid hown
          have hx6 : g1 < w6.heap.size := HX6.out.lt
          have hs26 : w2.heap.size ≤ w6.heap.size := hs26'
          clear hown hb7 x0 x1 x2 x3 x4 y0 y1 y2 y3
          have y3 := HX7.out.cell 3 _ rfl
          have f3 := HX7.out.fr 3
          go_wp2_with fail
          go_meet
          refine ⟨⟨p1, pc1, pf1, fc1, pl1, lc1, q5, c5⟩, ?_, ?_, HC37.out.other (i := 3) hG3 _, HW7.out.setCell (p := ⟨g1, 3, none⟩) hgw _⟩
          · rw [HV.out]; exact HX7.out.set 3 _
          · rw [HV.out]
            have h := HOM7.out.set (b := g1) (i := 3) (u := .slice q5 (enterL m.en (r.2.1, r.2.2.1, -1, 0, false)).length c5) hg1
            exact ⟨h.1, h.2.1, h.2.2.1, row_base (row_set HO7.out (row_ne HO7.out hx6)) hs26, h.2.2.2.2⟩
        · obtain rfl : fi = (i : Int) := hfi
          have HV : Hid (applyV m r = m) := Lib.hid (by simp [applyV, putE, hk, hfn, hie])
          have x0 : w6.cell? ⟨g2, 0, none⟩ = some (.int .i64 1) := by rw [← hk]; exact HC26.out.cell 0 _ rfl
          have hni : (0 : Int) ≤ (i : Int) := by omega
          clear hk hfn hie
          go_wp2_with fail
          go_meet
          exact ⟨⟨p1, pc1, pf1, fc1, pl1, lc1, q4, c4⟩, by rw [HV.out]; exact HX6.out, by rw [HV.out]; exact HOM6.out, HC36.out, HW6.out⟩
      · rcases HFC.out with ⟨hfn, hfi⟩ | ⟨i, e, hfn, hfi, hie⟩
        · obtain rfl : fi = -1 := hfi
          have HV : Hid (applyV m r = m) := Lib.hid (by simp [applyV, putE, hk, hfn])
          have x0 : w6.cell? ⟨g2, 0, none⟩ = some (.int .i64 2) := by rw [← hk]; exact HC26.out.cell 0 _ rfl
          clear hk hfn
          go_wp2_with fail
          go_meet
          exact ⟨⟨p1, pc1, pf1, fc1, pl1, lc1, q4, c4⟩, by rw [HV.out]; exact HX6.out, by rw [HV.out]; exact HOM6.out, HC36.out, HW6.out⟩
        · obtain rfl : fi = (i : Int) := hfi
          have hil : i < m.en.length := (List.getElem?_eq_some_iff.1 hie).1
          obtain ⟨bq, cq, hqe, hbl, hbu⟩ := World.ownsRow.form HOM6.out.2.2.2.1 (by omega)
          obtain ⟨rfl, rfl⟩ : q4 = some ⟨bq, 0, none⟩ ∧ c4 = cq := by simpa using hqe
          have HV : Hid (applyV m r = { m with en := m.en.take i ++ m.en.drop (i + 1) }) := Lib.hid (by simp [applyV, putE, hk, hfn, hie])
          have hcap : m.en.length ≤ c4 := row_cap HOM6.out.2.2.2.1
          have x0 : w6.cell? ⟨g2, 0, none⟩ = some (.int .i64 2) := by rw [← hk]; exact HC26.out.cell 0 _ rfl
          have y3 := (HX6.out).cell 3 _ rfl
          have f3 := HX6.out.fr 3
          have hni : (0 : Int) ≤ (i : Int) := by omega
          have hii : (i : Int) < (m.en.length : Int) := by omega
          have hic : (i : Int) ≤ (c4 : Int) := by omega
          have hj1 : IntKind.i64.wrap ((i : Int) + 1) = (i : Int) + 1 := IntWalk.i64_in _ (by have := HE.out; omega)
          have hj2 : ((i : Int) + 1).toNat = i + 1 := by omega
          have hj0 : (0 : Int) ≤ (i : Int) + 1 := by omega
          have hj3 : (i : Int) + 1 ≤ (m.en.length : Int) := by omega
          clear hk hfn hie hqe
          have HJ3 := Lib.hid hj3
          have HTK : Hid ((entCells (m.en.take i)).length = i * 5) := Lib.hid (by rw [entCells_len, List.length_take]; congr 1; omega)
          have HRX : Hid (RdX w6 (some ⟨bq, 0, none⟩) (entCells m.en)) := Lib.hid (rdX_of_owns HOM6.out.2.2.2.1)
          have HDL : Hid ((entCells (m.en.drop (i + 1))).length = (m.en.length - (i + 1)) * 5) := Lib.hid (by rw [entCells_len, List.length_drop])
          have HDR : Hid (∀ W, Below w6.heap.size w6 W → RdX W (if c4 = i + 1 then some ⟨bq, 0, none⟩ else some ⟨bq, (i + 1) * 5, none⟩) (entCells (m.en.drop (i + 1)))) := Lib.hid fun W h => by
            by_cases hc : c4 = i + 1
            · rw [List.drop_of_length_le (by omega)]
              intro j u hu
              simp [entCells] at hu
            · rw [if_neg hc]
              exact rdX_drop (HRX.out.next h) (i + 1) (by omega)
          obtain ⟨sa, hsa⟩ : ∃ sa, (if c4 = i + 1 then some (⟨bq, 0, none⟩ : Addr) else some ⟨bq, (i + 1) * 5, none⟩) = sa := ⟨_, rfl⟩
          rw [hsa] at HDR
          have hg16 : g1 < w6.drew.heap.size := HX6.out.lt
          have HLN : Hid ((m.en.take i ++ m.en.drop (i + 1)).length = i + (m.en.length - (i + 1))) := Lib.hid (by rw [List.length_append, List.length_take, List.length_drop]; omega)
          have HTR : Hid (∀ W, Below w6.heap.size w6 W → RdX W (some ⟨bq, 0, none⟩) (entCells (m.en.take i))) := Lib.hid fun W h => rdX_take (HRX.out.next h) i
          go_wp2_with fail
          go_region_law (first
            | (refine step_ap rfl _ _ rfl Try.underlying33 He.out He0.out He1.out He2.out rfl (by decide) rfl rfl (World.ownsRow_nil _ _ _ _) HTK.out (HTR.out _ (drewB2 _)) (ents_one _) (by have := HE.out; unfold maxLen; omega) (by have := HE.out; omega) (Nat.le_refl _) ?_
               intro v1 wA hown hgr
               rw [Nat.zero_add, List.nil_append] at hown
               obtain ⟨q5, c5, rfl⟩ := row_form hown
               have HOA := Lib.hid hown; have HBA := Lib.hid (below_none2 hgr)
               have HXA := Lib.hid ((HX6.out.next (drewB2 _)).next HBA.out)
               have ya3 := HXA.out.cell 3 _ rfl
               have fa3 := HXA.out.fr 3
               clear hown hgr)
            | (refine step_ap rfl _ _ rfl Try.underlying33 He.out He0.out He1.out He2.out rfl (by decide) rfl rfl HOA.out HDL.out (HDR.out _ ((drewB2 _).trans HBA.out)) (ents_one _) (by have := HE.out; unfold maxLen; omega) (by have := HE.out; omega) HBA.out.size ?_
               intro v2 wB hown hgr
               obtain ⟨q6, c6, rfl⟩ := row_form hown
               have HOB := Lib.hid hown
               have HBB : Hid (Below w6.heap.size w6 wB) := Lib.hid (((drewB2 w6).trans HBA.out).grown hgr HBA.out.size (fun q hq => (HOA.out.lt q hq).1))
               have HXB := Lib.hid (HXA.out.grown hgr (row_ne HOA.out hg16))
               have yb3 := HXB.out.cell 3 _ rfl
               have fb3 := HXB.out.fr 3
               clear hown hgr)
            | fail)
          all_goals go_wp2_with fail
          all_goals go_meet
          all_goals
            refine ⟨⟨p1, pc1, pf1, fc1, pl1, lc1, q6, c6⟩, ?_, ?_, (HC36.out.next HBB.out).other (i := 3) hG3 _, (HW6.out.trans (HBB.out.mono HW6.out.size)).setCell (p := ⟨g1, 3, none⟩) hgw _⟩
            · rw [HV.out]
              have h := HXB.out.set 3 (.slice q6 (i + (m.en.length - (i + 1))) c6)
              show Blk _ g1 [.slice p1 m.ph.length pc1, .slice pf1 m.fg.length fc1, .slice pl1 m.lv.length lc1, .slice q6 (m.en.take i ++ m.en.drop (i + 1)).length c6]
              rw [HLN.out]
              exact h
            · rw [HV.out]
              have h := (HOM6.out.later HBB.out).set (b := g1) (i := 3) (u := .slice q6 (i + (m.en.length - (i + 1))) c6) hg1
              refine ⟨h.1, h.2.1, h.2.2.1, ?_, h.2.2.2.2⟩
              show World.ownsRow _ _ _ _ (.slice q6 (m.en.take i ++ m.en.drop (i + 1)).length c6) (m.en.take i ++ m.en.drop (i + 1)).length (entCells (m.en.take i ++ m.en.drop (i + 1)))
              rw [HLN.out, entCells_app]
              exact row_base (row_set HOB.out (row_ne HOB.out hg16)) hs26'
      · rcases HFC.out with ⟨hfn, hfi⟩ | ⟨i, e, hfn, hfi, hie⟩
        · obtain rfl : fi = -1 := hfi
          have HV : Hid (applyV m r = m) := Lib.hid (by simp [applyV, putE, hk, hfn])
          have x0 : w6.cell? ⟨g2, 0, none⟩ = some (.int .i64 3) := by rw [← hk]; exact HC26.out.cell 0 _ rfl
          clear hk hfn
          go_wp2_with fail
          go_meet
          exact ⟨⟨p1, pc1, pf1, fc1, pl1, lc1, q4, c4⟩, by rw [HV.out]; exact HX6.out, by rw [HV.out]; exact HOM6.out, HC36.out, HW6.out⟩
        · obtain rfl : fi = (i : Int) := hfi
          have hil : i < m.en.length := (List.getElem?_eq_some_iff.1 hie).1
          obtain ⟨bq, cq, hqe, hbl, hbu⟩ := World.ownsRow.form HOM6.out.2.2.2.1 (by omega)
          obtain ⟨rfl, rfl⟩ : q4 = some ⟨bq, 0, none⟩ ∧ c4 = cq := by simpa using hqe
          have HV : Hid (applyV m r = { m with en := m.en.set i (e.1, e.2.1, r.2.2.2.1, e.2.2.2.1, e.2.2.2.2) }) := Lib.hid (by simp [applyV, putE, hk, hfn, hie])
          have huo : w6.cell? ⟨bq, i * 5 + 2, none⟩ = some (.int .i64 e.2.2.1) := by
            rw [HOM6.out.2.2.2.1.cellAt _ (by omega), entCells_at _ _ _ hie 2 (by omega)]; rfl
          have hfo := row_fr HOM6.out.2.2.2.1 (i * 5 + 2)
          have x0 : w6.cell? ⟨g2, 0, none⟩ = some (.int .i64 3) := by rw [← hk]; exact HC26.out.cell 0 _ rfl
          have x3 := HC26.out.cell 3 _ rfl
          have y3 := (HX6.out).cell 3 _ rfl
          have HIE := Lib.hid hie
          have hni : (0 : Int) ≤ (i : Int) := by omega
          have hii : (i : Int) < (m.en.length : Int) := by omega
          have hg1b : g1 ≠ bq := by omega
          have hg3b : g3 ≠ bq := by omega
          have hwb : w.heap.size ≤ bq := by omega
          clear hk hfn hie hqe
          go_wp2_with fail
          go_meet
          refine ⟨⟨p1, pc1, pf1, fc1, pl1, lc1, some ⟨bq, 0, none⟩, c4⟩, ?_, ?_, HC36.out.other (i := i * 5 + 2) hg3b _, HW6.out.setCell (p := ⟨bq, i * 5 + 2, none⟩) hwb _⟩
          · rw [HV.out]
            have h := HX6.out.other (i := i * 5 + 2) hg1b (.int .i64 r.2.2.2.1)
            simpa using h
          · rw [HV.out]
            exact HOM6.out.setEn i 2 e _ _ (by omega) HIE.out rfl
      · rcases HFC.out with ⟨hfn, hfi⟩ | ⟨i, e, hfn, hfi, hie⟩
        · obtain rfl : fi = -1 := hfi
          have HV : Hid (applyV m r = m) := Lib.hid (by simp [applyV, putE, hk, hfn])
          have x0 : w6.cell? ⟨g2, 0, none⟩ = some (.int .i64 7) := by rw [← hk]; exact HC26.out.cell 0 _ rfl
          clear hk hfn
          go_wp2_with fail
          go_meet
          exact ⟨⟨p1, pc1, pf1, fc1, pl1, lc1, q4, c4⟩, by rw [HV.out]; exact HX6.out, by rw [HV.out]; exact HOM6.out, HC36.out, HW6.out⟩
        · obtain rfl : fi = (i : Int) := hfi
          have hil : i < m.en.length := (List.getElem?_eq_some_iff.1 hie).1
          obtain ⟨bq, cq, hqe, hbl, hbu⟩ := World.ownsRow.form HOM6.out.2.2.2.1 (by omega)
          obtain ⟨rfl, rfl⟩ : q4 = some ⟨bq, 0, none⟩ ∧ c4 = cq := by simpa using hqe
          have HV : Hid (applyV m r = { m with en := m.en.set i (e.1, e.2.1, e.2.2.1, r.2.2.2.2, r.2.2.2.1 == 1) }) := Lib.hid (by simp [applyV, putE, hk, hfn, hie])
          have huo : w6.cell? ⟨bq, i * 5 + 3, none⟩ = some (.int .i64 e.2.2.2.1) := by
            rw [HOM6.out.2.2.2.1.cellAt _ (by omega), entCells_at _ _ _ hie 3 (by omega)]; rfl
          have huo4 : w6.cell? ⟨bq, i * 5 + 4, none⟩ = some (.bool e.2.2.2.2) := by
            rw [HOM6.out.2.2.2.1.cellAt _ (by omega), entCells_at _ _ _ hie 4 (by omega)]; rfl
          have hfo := row_fr HOM6.out.2.2.2.1 (i * 5 + 3)
          have hfo4 := row_fr HOM6.out.2.2.2.1 (i * 5 + 4)
          have x0 : w6.cell? ⟨g2, 0, none⟩ = some (.int .i64 7) := by rw [← hk]; exact HC26.out.cell 0 _ rfl
          have x3 := HC26.out.cell 3 _ rfl
          have x4 := HC26.out.cell 4 _ rfl
          have y3 := (HX6.out).cell 3 _ rfl
          have HIE := Lib.hid hie
          have hni : (0 : Int) ≤ (i : Int) := by omega
          have hii : (i : Int) < (m.en.length : Int) := by omega
          have hg1b : g1 ≠ bq := by omega
          have hg2b : g2 ≠ bq := by have := hz2'; omega
          have hg3b : g3 ≠ bq := by omega
          have hwb : w.heap.size ≤ bq := by omega
          clear hk hfn hie hqe
          go_wp2_with fail
          go_region
          all_goals go_wp2_with fail
          all_goals go_meet
          all_goals
            refine ⟨⟨p1, pc1, pf1, fc1, pl1, lc1, some ⟨bq, 0, none⟩, c4⟩, ?_, ?_, ((HC36.out.other (i := i * 5 + 3) hg3b _).other (i := i * 5 + 4) hg3b _).next (drewB2 _), ((HW6.out.setCell (p := ⟨bq, i * 5 + 3, none⟩) hwb _).setCell (p := ⟨bq, i * 5 + 4, none⟩) hwb _).drew⟩
            · rw [HV.out]
              have h := ((HX6.out.other (i := i * 5 + 3) hg1b (.int .i64 r.2.2.2.2)).other (i := i * 5 + 4) hg1b (.bool (r.2.2.2.1 == 1))).next (drewB2 _)
              simpa using h
            · rw [HV.out]
              have h1 := HOM6.out.setEn i 3 e (e.1, e.2.1, e.2.2.1, r.2.2.2.2, e.2.2.2.2) (.int .i64 r.2.2.2.2) (by omega) HIE.out rfl
              have h2 := h1.setEn i 4 (e.1, e.2.1, e.2.2.1, r.2.2.2.2, e.2.2.2.2) (e.1, e.2.1, e.2.2.1, r.2.2.2.2, r.2.2.2.1 == 1) (.bool (r.2.2.2.1 == 1)) (by omega) (List.getElem?_set_self hil) rfl
              have h3 := h2.later (drewB2 _)
              simpa using h3
    case rest =>
      obtain ⟨a', hx, ho, hc, hw⟩ := hcut
      have HX := Lib.hid hx; have HO := Lib.hid ho; have HC := Lib.hid hc; have HW := Lib.hid hw
      generalize applyV m r = m' at *
      generalize hwc : wc = w8 at *
      clear hx ho hc hw hwc
      have y0 := (HX.out).cell 0 _ rfl
      have y1 := (HX.out).cell 1 _ rfl
      have y2 := (HX.out).cell 2 _ rfl
      have y3 := (HX.out).cell 3 _ rfl
      have z0 := (HC.out).cell 0 _ rfl
      have z1 := (HC.out).cell 1 _ rfl
      have z2 := (HC.out).cell 2 _ rfl
      have z3 := (HC.out).cell 3 _ rfl
      have f0 := HC.out.fr 0; have f1 := HC.out.fr 1; have f2 := HC.out.fr 2; have f3 := HC.out.fr 3
      have hg1' : g1 < w8.heap.size := HX.out.lt
      go_wp2_with fail
      have R3 := (((HC.out.set 0 (.slice a'.p m'.ph.length a'.pc)).set 1 (.slice a'.f m'.fg.length a'.fc)).set 2 (.slice a'.l m'.lv.length a'.lc)).set 3 (.slice a'.e m'.en.length a'.ec)
      have r0 := (R3).cell 0 _ rfl
      have r1 := (R3).cell 1 _ rfl
      have r2 := (R3).cell 2 _ rfl
      have r3 := (R3).cell 3 _ rfl
      have hg3l : g3 < w2.heap.size := hz3'
      have hgw3 : w.heap.size ≤ g3 := by omega
      refine bodyPost_ret (v := .tuple #[cvM m' a', .int .i64 0]) (by simp [results, Try.results16, go_sem, r0, r1, r2, r3]) rfl ⟨a', by rw [HF.out.1, HF.out.2], by rw [HF.out.1]; exact (OwnM.set (OwnM.set (OwnM.set (OwnM.set HO.out hg3l) hg3l) hg3l) hg3l).base (by omega), (((HW.out.setCell (p := ⟨g3, 0, none⟩) hgw3 _).setCell (p := ⟨g3, 1, none⟩) hgw3 _).setCell (p := ⟨g3, 2, none⟩) hgw3 _).setCell (p := ⟨g3, 3, none⟩) hgw3 _⟩
end Go.Proofs.Ytgoojlfpngmdlaa
