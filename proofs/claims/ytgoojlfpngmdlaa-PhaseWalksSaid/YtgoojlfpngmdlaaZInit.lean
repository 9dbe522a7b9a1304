/- The walk over overlayref10.Initial. Conditions: cars that can be read; a valid building of at most 1000 cars. -/
import Derived.Test.YtgoojlfpngmdlaaZImg
import Derived.Test.YtgoojlfpngmdlaaZBld18
import Derived.Laws.OwnMore
namespace Go.Proofs.Ytgoojlfpngmdlaa
open Go.RowKit
def zerosI (n : Nat) : Array Value := madeCells #[.int .i64 0] n
def zerosB (n : Nat) : Array Value := madeCells #[.bool false] n
theorem run_mkI (n : Nat) (hn : n ≤ 5000) (W : World) :
    (Instr.makeSlice 31 (.int .i64 (n : Int)) (.int .i64 (n : Int))).run Try.prog W = .ok (.slice (some ⟨W.heap.size, 0, none⟩) n n) (W.alloc (.cells (zerosI n) 3)) := by
  obtain ⟨i, hi, hz0, hz1, hz2⟩ := info_parts (P := Try.prog) (e := 3) (z := .int .i64 0) (size := 1) (bytes := 8) (by kernel_rfl)
  have h := run_make (P := Try.prog) W 31 3 i (.int .i64 0) Try.underlying31 hi hz0 .i64 .i64 n n (by omega) (Int.le_refl _) (by rw [hz2]; omega) (by omega)
  rw [h]
  simp [zerosI, hz1, Value.cells]
theorem run_mkB (n : Nat) (hn : n ≤ 5000) (W : World) :
    (Instr.makeSlice 32 (.int .i64 (n : Int)) (.int .i64 (n : Int))).run Try.prog W = .ok (.slice (some ⟨W.heap.size, 0, none⟩) n n) (W.alloc (.cells (zerosB n) 4)) := by
  obtain ⟨i, hi, hz0, hz1, hz2⟩ := info_parts (P := Try.prog) (e := 4) (z := .bool false) (size := 1) (bytes := 1) (by kernel_rfl)
  have h := run_make (P := Try.prog) W 32 4 i (.bool false) Try.underlying32 hi hz0 .i64 .i64 n n (by omega) (Int.le_refl _) (by rw [hz2]; omega) (by omega)
  rw [h]
  simp [zerosB, hz1, Value.cells]
theorem zerosI_list (n : Nat) : (zerosI n).toList = intCells (List.replicate n 0) := by
  rw [zerosI, toList_madeCells_one, intCells, List.map_replicate]
theorem zerosB_list (n : Nat) : (zerosB n).toList = boolCells (List.replicate n false) := by
  rw [zerosB, toList_madeCells_one, boolCells, List.map_replicate]
theorem zerosI_size (n : Nat) : (zerosI n).size = n * 1 := by
  have := congrArg List.length (zerosI_list n)
  simpa [intCells] using this
theorem zerosB_size (n : Nat) : (zerosB n).size = n * 1 := by
  have := congrArg List.length (zerosB_list n)
  simpa [boolCells] using this
theorem ownsI_made (W : World) (n base : Nat) (hb : base ≤ W.heap.size) (hn : n ≤ 5000) : (W.alloc (.cells (zerosI n) 3)).ownsRow base 3 1 (.slice (some ⟨W.heap.size, 0, none⟩) n n) n (intCells (List.replicate n 0)) := by
  rw [← zerosI_list]
  exact World.ownsRow_lit W (zerosI n) n hb (by unfold maxLen; omega) (zerosI_size n)
theorem ownsB_made (W : World) (n base : Nat) (hb : base ≤ W.heap.size) (hn : n ≤ 5000) : (W.alloc (.cells (zerosB n) 4)).ownsRow base 4 1 (.slice (some ⟨W.heap.size, 0, none⟩) n n) n (boolCells (List.replicate n false)) := by
  rw [← zerosB_list]
  exact World.ownsRow_lit W (zerosB n) n hb (by unfold maxLen; omega) (zerosB_size n)
theorem ownI_0 (W : World) (n : Nat) (y z : Obj) (hn : n ≤ 5000) : (((W.alloc (.cells (zerosI n) 3)).alloc y).alloc z).ownsRow W.heap.size 3 1 (.slice (some ⟨W.heap.size, 0, none⟩) n n) n (intCells (List.replicate n 0)) := ((ownsI_made W n _ (Nat.le_refl _) hn).alloc _).alloc _
theorem ownI_1 (W : World) (n : Nat) (x z : Obj) (hn : n ≤ 5000) : (((W.alloc x).alloc (.cells (zerosI n) 3)).alloc z).ownsRow W.heap.size 3 1 (.slice (some ⟨W.heap.size + 1, 0, none⟩) n n) n (intCells (List.replicate n 0)) := by
  have h := (ownsI_made (W.alloc x) n W.heap.size (by simp) hn).alloc z
  rw [World.size_alloc] at h
  exact h
theorem ownI_2 (W : World) (n : Nat) (x y : Obj) (hn : n ≤ 5000) : (((W.alloc x).alloc y).alloc (.cells (zerosI n) 3)).ownsRow W.heap.size 3 1 (.slice (some ⟨W.heap.size + 1 + 1, 0, none⟩) n n) n (intCells (List.replicate n 0)) := by
  have h := ownsI_made ((W.alloc x).alloc y) n W.heap.size (by simp; omega) hn
  rw [World.size_alloc, World.size_alloc] at h
  exact h
theorem ownB_0 (W : World) (n : Nat) (y z : Obj) (hn : n ≤ 5000) : (((W.alloc (.cells (zerosB n) 4)).alloc y).alloc z).ownsRow W.heap.size 4 1 (.slice (some ⟨W.heap.size, 0, none⟩) n n) n (boolCells (List.replicate n false)) := ((ownsB_made W n _ (Nat.le_refl _) hn).alloc _).alloc _
theorem ownB_1 (W : World) (n : Nat) (x z : Obj) (hn : n ≤ 5000) : (((W.alloc x).alloc (.cells (zerosB n) 4)).alloc z).ownsRow W.heap.size 4 1 (.slice (some ⟨W.heap.size + 1, 0, none⟩) n n) n (boolCells (List.replicate n false)) := by
  have h := (ownsB_made (W.alloc x) n W.heap.size (by simp) hn).alloc z
  rw [World.size_alloc] at h
  exact h
theorem ownB_2 (W : World) (n : Nat) (x y : Obj) (hn : n ≤ 5000) : (((W.alloc x).alloc y).alloc (.cells (zerosB n) 4)).ownsRow W.heap.size 4 1 (.slice (some ⟨W.heap.size + 1 + 1, 0, none⟩) n n) n (boolCells (List.replicate n false)) := by
  have h := ownsB_made ((W.alloc x).alloc y) n W.heap.size (by simp; omega) hn
  rw [World.size_alloc, World.size_alloc] at h
  exact h
theorem belowT (W : World) (x y z : Obj) : Below W.heap.size W (((W.alloc x).alloc y).alloc z) :=
  (((Below.refl _ W).alloc (Nat.le_refl _) _).alloc (by simp) _).alloc (by simp; omega) _
/-- The image is of rows of its own. -/
def OwnM (w : World) (base : Nat) (m : ImgV) (a : ImgA) : Prop :=
  w.ownsRow base 3 1 (.slice a.p m.ph.length a.pc) m.ph.length (intCells m.ph) ∧ w.ownsRow base 4 1 (.slice a.f m.fg.length a.fc) m.fg.length (boolCells m.fg) ∧ w.ownsRow base 4 1 (.slice a.l m.lv.length a.lc) m.lv.length (boolCells m.lv) ∧ w.ownsRow base 52 5 (.slice a.e m.en.length a.ec) m.en.length (entCells m.en) ∧ ∀ A B, a.f = some A → a.l = some B → A.block ≠ B.block
theorem OwnM.nil (w : World) (base : Nat) : OwnM w base img0 imgA0 := ⟨World.ownsRow_nil _ _ _ _, World.ownsRow_nil _ _ _ _, World.ownsRow_nil _ _ _ _, World.ownsRow_nil _ _ _ _, fun A B h => by cases h⟩
theorem OwnM.rd {w : World} {base : Nat} {m : ImgV} {a : ImgA} (h : OwnM w base m a) : RdM w m a := ⟨rdX_of_owns h.1, rdX_of_owns h.2.1, rdX_of_owns h.2.2.1, rdX_of_owns h.2.2.2.1⟩
theorem OwnM.later {w w' : World} {base : Nat} {m : ImgV} {a : ImgA} (h : OwnM w base m a) (hb : Below w.heap.size w w') : OwnM w' base m a := ⟨rowLater h.1 hb, rowLater h.2.1 hb, rowLater h.2.2.1 hb, rowLater h.2.2.2.1 hb, h.2.2.2.2⟩
theorem OwnM.base {w : World} {base B : Nat} {m : ImgV} {a : ImgA} (h : OwnM w base m a) (hB : B ≤ base) : OwnM w B m a := ⟨row_base h.1 hB, row_base h.2.1 hB, row_base h.2.2.1 hB, row_base h.2.2.2.1 hB, h.2.2.2.2⟩
theorem OwnM.set {w : World} {base b i : Nat} {m : ImgV} {a : ImgA} {u : Value} (h : OwnM w base m a) (hB : b < base) : OwnM (w.setCell ⟨b, i, none⟩ u) base m a := ⟨row_set h.1 (row_ne h.1 hB), row_set h.2.1 (row_ne h.2.1 hB), row_set h.2.2.1 (row_ne h.2.2.1 hB), row_set h.2.2.2.1 (row_ne h.2.2.2.1 hB), h.2.2.2.2⟩
def imgZ (n : Nat) : ImgV := ⟨List.replicate n 0, List.replicate n false, List.replicate n false, []⟩
def imgI (b : BldV) : ImgV := if validN b = 0 then imgZ b.cars.length else img0
/-- What the makes and the store leave. -/
def InitD (W1 : World) (g1 n : Nat) (wx : World) : Prop := ∃ p f l : Nat, Blk wx g1 [.slice (some ⟨p, 0, none⟩) n n, .slice (some ⟨f, 0, none⟩) n n, .slice (some ⟨l, 0, none⟩) n n, .slice none 0 0] ∧ OwnM wx W1.heap.size (imgZ n) ⟨some ⟨p, 0, none⟩, n, some ⟨f, 0, none⟩, n, some ⟨l, 0, none⟩, n, none, 0⟩ ∧ Below g1 W1 wx
theorem init_fin {W1 W : World} {g1 n p f l : Nat} {xs : List Value} (HB : Blk W1 g1 xs) (hl : xs.length = 4) (hb : Below W1.heap.size W1 W)
    (hp : W.ownsRow W1.heap.size 3 1 (.slice (some ⟨p, 0, none⟩) n n) n (intCells (List.replicate n 0))) (hf : W.ownsRow W1.heap.size 4 1 (.slice (some ⟨f, 0, none⟩) n n) n (boolCells (List.replicate n false))) (hv : W.ownsRow W1.heap.size 4 1 (.slice (some ⟨l, 0, none⟩) n n) n (boolCells (List.replicate n false))) (hne : f ≠ l) :
    InitD W1 g1 n ((((W.setCell ⟨g1, 0, none⟩ (.slice (some ⟨p, 0, none⟩) n n)).setCell ⟨g1, 1, none⟩ (.slice (some ⟨f, 0, none⟩) n n)).setCell ⟨g1, 2, none⟩ (.slice (some ⟨l, 0, none⟩) n n)).setCell ⟨g1, 3, none⟩ (.slice none 0 0)) := by
  have hg := HB.lt
  match xs, hl with
  | [x0, x1, x2, x3], _ =>
    refine ⟨p, f, l, ((((HB.next hb).set 0 _).set 1 _).set 2 _).set 3 _, OwnM.set (OwnM.set (OwnM.set (OwnM.set ?_ hg) hg) hg) hg, ((((hb.mono (Nat.le_of_lt hg)).setCell (p := ⟨g1, 0, none⟩) (Nat.le_refl _) _).setCell (p := ⟨g1, 1, none⟩) (Nat.le_refl _) _).setCell (p := ⟨g1, 2, none⟩) (Nat.le_refl _) _).setCell (p := ⟨g1, 3, none⟩) (Nat.le_refl _) _⟩
    refine ⟨?_, ?_, ?_, World.ownsRow_nil _ _ _ _, fun A B hA hB => ?_⟩
    · simpa [imgZ] using hp
    · simpa [imgZ] using hf
    · simpa [imgZ] using hv
    · cases hA; cases hB; exact hne
theorem InitD.drew {W1 W : World} {g1 n : Nat} (h : InitD W1 g1 n W) : InitD W1 g1 n W.drew := by
  obtain ⟨p, f, l, hB, hO, hw⟩ := h
  exact ⟨p, f, l, hB.next ((Below.refl _ _).drew), hO.later ((Below.refl _ _).drew), hw.drew⟩
set_option maxHeartbeats 4000000 in
set_option maxRecDepth 100000 in
theorem initial_any (b : BldV) (q : Option Addr) (cap : Nat) (w : World) (hlen : b.cars.length ≤ 1000) (hsl : ∀ c ∈ b.cars, -9223372036854775808 ≤ c.sl ∧ c.sl < 9223372036854775807) (hr : RdC w q b.cars) :
    Calls Try.prog 27 #[cvB b q cap] w fun r w' => ∃ a, r = .returned (cvM (imgI b) a) ∧ OwnM w' w.heap.size (imgI b) a ∧ Below w.heap.size w w' := by
  have X0 : Blk (w.alloc (.cells #[.int .i64 b.fl, .int .i64 b.deb, .int .i64 b.room, .int .i64 b.park, .float .f64 b.em, .float .f64 b.fu, .float .f64 b.ov, .slice q b.cars.length cap] 29)) w.heap.size [.int .i64 b.fl, .int .i64 b.deb, .int .i64 b.room, .int .i64 b.park, .float .f64 b.em, .float .f64 b.fu, .float .f64 b.ov, .slice q b.cars.length cap] := by
    have hx := Blk.new w [.int .i64 b.fl, .int .i64 b.deb, .int .i64 b.room, .int .i64 b.park, .float .f64 b.em, .float .f64 b.fu, .float .f64 b.ov, .slice q b.cars.length cap] 29
    exact hx
  replace X0 : Blk ((w.alloc (.cells #[.int .i64 b.fl, .int .i64 b.deb, .int .i64 b.room, .int .i64 b.park, .float .f64 b.em, .float .f64 b.fu, .float .f64 b.ov, .slice q b.cars.length cap] 29)).alloc (.cells #[.slice none 0 0, .slice none 0 0, .slice none 0 0, .slice none 0 0] 35)) w.heap.size [.int .i64 b.fl, .int .i64 b.deb, .int .i64 b.room, .int .i64 b.park, .float .f64 b.em, .float .f64 b.fu, .float .f64 b.ov, .slice q b.cars.length cap] := X0.next (below1' _ _)
  have X1 : Blk ((w.alloc (.cells #[.int .i64 b.fl, .int .i64 b.deb, .int .i64 b.room, .int .i64 b.park, .float .f64 b.em, .float .f64 b.fu, .float .f64 b.ov, .slice q b.cars.length cap] 29)).alloc (.cells #[.slice none 0 0, .slice none 0 0, .slice none 0 0, .slice none 0 0] 35)) (w.heap.size + 1) [.slice none 0 0, .slice none 0 0, .slice none 0 0, .slice none 0 0] := by
    have hx := Blk.new (w.alloc (.cells #[.int .i64 b.fl, .int .i64 b.deb, .int .i64 b.room, .int .i64 b.park, .float .f64 b.em, .float .f64 b.fu, .float .f64 b.ov, .slice q b.cars.length cap] 29)) [.slice none 0 0, .slice none 0 0, .slice none 0 0, .slice none 0 0] 35
    rw [World.size_alloc] at hx
    exact hx
  have XW : Below w.heap.size w (w.alloc (.cells #[.int .i64 b.fl, .int .i64 b.deb, .int .i64 b.room, .int .i64 b.park, .float .f64 b.em, .float .f64 b.fu, .float .f64 b.ov, .slice q b.cars.length cap] 29)) := below1' w _
  replace XW : Below w.heap.size w ((w.alloc (.cells #[.int .i64 b.fl, .int .i64 b.deb, .int .i64 b.room, .int .i64 b.park, .float .f64 b.em, .float .f64 b.fu, .float .f64 b.ov, .slice q b.cars.length cap] 29)).alloc (.cells #[.slice none 0 0, .slice none 0 0, .slice none 0 0, .slice none 0 0] 35)) := XW.trans ((below1' _ _).mono XW.size)
  have HWW := Lib.hid XW; have HX0 := Lib.hid X0; have HX1 := Lib.hid X1
  clear XW X0 X1
  have HR := Lib.hid (hr.next HWW.out)
  have HL := Lib.hid hlen; have HSL := Lib.hid hsl
  obtain ⟨n, hn⟩ : ∃ n, n = b.cars.length := ⟨_, rfl⟩
  have HN := Lib.hid hn
  rw [← hn] at hlen
  clear hr hsl hn
  go_enter Try.func27, Try.ntmps27
  go_upto_region 1 with fail
  generalize ((w.alloc (.cells #[.int .i64 b.fl, .int .i64 b.deb, .int .i64 b.room, .int .i64 b.park, .float .f64 b.em, .float .f64 b.fu, .float .f64 b.ov, .slice q b.cars.length cap] 29)).alloc (.cells #[.slice none 0 0, .slice none 0 0, .slice none 0 0, .slice none 0 0] 35)) = w0 at *
  generalize hg1 : w.heap.size + 1 = g1 at *
  have HG1 := Lib.hid hg1; have hq1 : w.heap.size + 1 ≤ g1 := by omega
  clear hg1
  have HW := Lib.hid (Below.refl w0.heap.size w0)
  have hz0 := HX0.out.lt; have hz1 := HX1.out.lt
  have k0 := (HX0.out).cell 0 _ rfl
  have k1 := (HX0.out).cell 1 _ rfl
  have k2 := (HX0.out).cell 2 _ rfl
  have k3 := (HX0.out).cell 3 _ rfl
  have k4 := (HX0.out).cell 4 _ rfl
  have k5 := (HX0.out).cell 5 _ rfl
  have k6 := (HX0.out).cell 6 _ rfl
  have k7 := (HX0.out).cell 7 _ rfl
  go_wp2_with fail
  refine (refValid_any b q cap _ (by have := HL.out; unfold maxLen; omega) HSL.out HR.out).mono ?_
  rintro r w1 ⟨rfl, hb1⟩
  have HY0 := Lib.hid (HX0.out.next hb1); have HY1 := Lib.hid (HX1.out.next hb1)
  have HW1 := Lib.hid (HWW.out.trans (hb1.mono HWW.out.size))
  have hz0' := HY0.out.lt; have hz1' := HY1.out.lt
  clear HX0 HX1 HWW HR hb1 k0 k1 k2 k3 k4 k5 k6 k7 HW hz0 hz1
  have k7 := HY0.out.cell 7 _ rfl
  rw [← HN.out] at k7
  have z0 := HY1.out.fr 0; have z1 := HY1.out.fr 1; have z2 := HY1.out.fr 2; have z3 := HY1.out.fr 3
  have y0 := (HY1.out).cell 0 _ rfl
  have y1 := (HY1.out).cell 1 _ rfl
  have y2 := (HY1.out).cell 2 _ rfl
  have y3 := (HY1.out).cell 3 _ rfl
  by_cases hv : validN b = 0
  · have c0 : (validN b != 0) = false := by simpa using hv
    have HV : Hid (imgI b = imgZ n) := Lib.hid (by rw [imgI, if_pos hv, HN.out])
    clear hv
    go_upto_region 4 with fail
    clear c0 k7
    have hmI := run_mkI n (by omega)
    have hmB := run_mkB n (by omega)
    clear y0 y1 y2 y3 z0 z1 z2 z3
    have hX : ∀ x y z : Obj, Blk (((w1.alloc x).alloc y).alloc z) g1 [.slice none 0 0, .slice none 0 0, .slice none 0 0, .slice none 0 0] := fun x y z => ((HY1.out.next (below1' _ _)).next (below1' _ _)).next (below1' _ _)
    have y0 : ∀ x y z : Obj, (((w1.alloc x).alloc y).alloc z).cell? ⟨g1, 0, none⟩ = some (.slice none 0 0) := fun x y z => (hX x y z).cell 0 _ rfl
    have y1 : ∀ x y z : Obj, (((w1.alloc x).alloc y).alloc z).cell? ⟨g1, 1, none⟩ = some (.slice none 0 0) := fun x y z => (hX x y z).cell 1 _ rfl
    have y2 : ∀ x y z : Obj, (((w1.alloc x).alloc y).alloc z).cell? ⟨g1, 2, none⟩ = some (.slice none 0 0) := fun x y z => (hX x y z).cell 2 _ rfl
    have y3 : ∀ x y z : Obj, (((w1.alloc x).alloc y).alloc z).cell? ⟨g1, 3, none⟩ = some (.slice none 0 0) := fun x y z => (hX x y z).cell 3 _ rfl
    have f0 : ∀ x y z : Obj, (((w1.alloc x).alloc y).alloc z).frozen? ⟨g1, 0, none⟩ = false := fun x y z => (hX x y z).fr 0
    have f1 : ∀ x y z : Obj, (((w1.alloc x).alloc y).alloc z).frozen? ⟨g1, 1, none⟩ = false := fun x y z => (hX x y z).fr 1
    have f2 : ∀ x y z : Obj, (((w1.alloc x).alloc y).alloc z).frozen? ⟨g1, 2, none⟩ = false := fun x y z => (hX x y z).fr 2
    have f3 : ∀ x y z : Obj, (((w1.alloc x).alloc y).alloc z).frozen? ⟨g1, 3, none⟩ = false := fun x y z => (hX x y z).fr 3
    clear hX
    go_cut [] from 11 to 18 (fun wx => InitD w1 g1 n wx)
    case first =>
      go_region
      all_goals go_wp2_with fail
      all_goals go_meet
      all_goals (refine InitD.drew (init_fin HY1.out rfl (belowT _ _ _ _) ?_ ?_ ?_ (by omega)))
      all_goals (first | with_reducible exact ownI_0 _ _ _ _ (by omega) | with_reducible exact ownI_1 _ _ _ _ (by omega) | with_reducible exact ownI_2 _ _ _ _ (by omega) | with_reducible exact ownB_0 _ _ _ _ (by omega) | with_reducible exact ownB_1 _ _ _ _ (by omega) | with_reducible exact ownB_2 _ _ _ _ (by omega))
    case rest =>
      clear hmI hmB y0 y1 y2 y3 f0 f1 f2 f3
      obtain ⟨p, f, l, hB, hO, hw⟩ := hcut
      have HB := Lib.hid hB; have HO := Lib.hid hO; have HW := Lib.hid hw
      have hle : w.heap.size ≤ w1.heap.size := by omega
      clear hB hO hw
      go_wp2_with fail
      have r0 := (HB.out).cell 0 _ rfl
      have r1 := (HB.out).cell 1 _ rfl
      have r2 := (HB.out).cell 2 _ rfl
      have r3 := (HB.out).cell 3 _ rfl
      refine bodyPost_ret (v := .agg #[.slice (some ⟨p, 0, none⟩) n n, .slice (some ⟨f, 0, none⟩) n n, .slice (some ⟨l, 0, none⟩) n n, .slice none 0 0]) (by simp [results, Try.results27, go_sem, r0, r1, r2, r3]) rfl ⟨⟨some ⟨p, 0, none⟩, n, some ⟨f, 0, none⟩, n, some ⟨l, 0, none⟩, n, none, 0⟩, ?_, by rw [HV.out]; exact HO.out.base hle, HW1.out.trans (HW.out.mono (by omega))⟩
      rw [HV.out]
      simp [imgZ]
  · have c0 : (validN b != 0) = true := by simpa using hv
    have HV : Hid (imgI b = img0) := Lib.hid (by rw [imgI, if_neg hv])
    clear hv
    go_wp2_with fail
    have R3 := (((HY1.out.set 0 (.slice none 0 0)).set 1 (.slice none 0 0)).set 2 (.slice none 0 0)).set 3 (.slice none 0 0)
    have r0 := (R3).cell 0 _ rfl
    have r1 := (R3).cell 1 _ rfl
    have r2 := (R3).cell 2 _ rfl
    have r3 := (R3).cell 3 _ rfl
    refine bodyPost_ret (v := cvM img0 imgA0) (by simp [results, Try.results27, go_sem, r0, r1, r2, r3, img0, imgA0]) rfl ⟨imgA0, by rw [HV.out], by rw [HV.out]; exact OwnM.nil _ _, (((HW1.out.setCell (p := ⟨g1, 0, none⟩) (by show w.heap.size ≤ g1; omega) _).setCell (p := ⟨g1, 1, none⟩) (by show w.heap.size ≤ g1; omega) _).setCell (p := ⟨g1, 2, none⟩) (by show w.heap.size ≤ g1; omega) _).setCell (p := ⟨g1, 3, none⟩) (by show w.heap.size ≤ g1; omega) _⟩
end Go.Proofs.Ytgoojlfpngmdlaa
