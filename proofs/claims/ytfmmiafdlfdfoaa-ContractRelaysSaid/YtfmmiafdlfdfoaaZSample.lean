/- Regions that draw their order and make one block on the way: where it lies depends on the order; that it is new and what it holds does not. Conditions: none. · The walks over the sample buildings of the statements. Conditions: the ranges that each contract names. -/
import Derived.Test.YtfmmiafdlfdfoaaZBld
import Derived.Deep.Cut
import Derived.Deep.CutRange
import Derived.Deep.AppendLies
import Derived.Laws.AppendOwn
import Derived.Laws.OwnMore
namespace Go.Proofs.Ytfmmiafdlfdfoaa
open Go.RowKit

def mkR (mk : Nat → Value) (lo : Nat) (xs : List Value) : Array Value → Value → World → Prop := fun _ v w => ∃ b, v = mk b ∧ lo ≤ b ∧ Blk w b xs
def mkPlan (k : Nat) (mk : Nat → Value) (lo : Nat) (xs : List Value) : Grow.Plan := fun i => if i = k then some (mkR mk lo xs) else none
theorem mkPlan_stable (k : Nat) (mk : Nat → Value) (lo : Nat) (xs : List Value) : (mkPlan k mk lo xs).stable := by
  intro i r h _ v w w' hr hb
  unfold mkPlan at h
  split at h
  · cases h
    obtain ⟨b, hv, hlo, hT⟩ := hr
    exact ⟨b, hv, hlo, hT.next hb⟩
  · cases h
section
variable {P : Program} {ops : Array Oper} {md : Region.Mode} {w0 : World} {Q : Act → Grow.Facts → Prop} {rest : List Oper} {a : Act} {T : Grow.Facts} {o : Oper}
theorem lex_mk (j : Nat) (mk : Nat → Value) (lo : Nat) (xs : List Value) (ty : TypeId) (hw : Region.wanted o (yielded ops a.tmps) = true) (hz : ∀ w, (execOp a.eval o).run P w = .ok (.value (mk w.heap.size)) (w.alloc (.cells xs.toArray ty))) (hlo : lo ≤ w0.heap.size)
    (h : ∀ b, lo ≤ b → Grow.lexR P ops md w0 (mkPlan j mk lo xs) Q (j + 1) rest (a.put o.dst (mk b)) (Grow.upd T j (mkR mk lo xs (Grow.vals o a) (mk b)))) :
    Grow.lexR P ops md w0 (mkPlan j mk lo xs) Q j (o :: rest) a T := by
  unfold Grow.lexR
  rw [if_pos hw]
  have e : mkPlan j mk lo xs j = some (mkR mk lo xs) := if_pos rfl
  unfold Grow.opR
  simp only [e]
  refine ⟨fun w hC _ => ?_, fun v hW => ?_⟩
  · unfold Grow.yields
    rw [hz w]
    exact ⟨below1' _ _, w.heap.size, rfl, Nat.le_trans hlo hC.size, Blk.new _ _ _⟩
  · obtain ⟨w, _, hT⟩ := hW
    obtain ⟨_, ⟨b, rfl, hb, _⟩⟩ := Grow.Holds.of_upd hT
    exact h b hb
theorem mk_blk {j lo b : Nat} {mk : Nat → Value} {ys : List Value} {xs : Array Value} {w : World} (hinj : ∀ x y, mk x = mk y → x = y) (h : Grow.Holds (Grow.upd T j (mkR mk lo ys xs (mk b))) w) : Blk w b ys := by
  obtain ⟨_, b', hb, _, hT⟩ := Grow.Holds.of_upd h
  rw [hinj _ _ hb]
  exact hT
end
end Go.Proofs.Ytfmmiafdlfdfoaa
namespace Go.Proofs.Ytfmmiafdlfdfoaa
open Go.RowKit

theorem run_store_float (P : Program) (w : World) (a : Addr) (m : Mode) (k : FloatKind) (x : Nat) : (store a (.float k x) m).run P w = stored P w a (.float k x) m := run_store P w a _ m rfl
attribute [local go_sem] run_store_float

def carS (i : Nat) (fl : Int) : CarV := ⟨100, 2, 6, 5, 4, 2, 3, 10, (i : Int) % fl⟩
def carCells (l : List CarV) : List Value := l.flatMap CarV.cells
theorem carCells_snoc (l : List CarV) (c : CarV) : carCells (l ++ [c]) = carCells l ++ c.cells := by simp [carCells]
def carsS (n : Nat) (fl : Int) : List CarV := (List.range n).map (carS · fl)
theorem carsS_succ (n : Nat) (fl : Int) : carsS (n + 1) fl = carsS n fl ++ [carS n fl] := by simp [carsS, List.range_succ]
theorem Blk.set {W : World} {b : Nat} {xs : List Value} (h : Blk W b xs) (i : Nat) (u : Value) : Blk (W.setCell ⟨b, i, none⟩ u) b (xs.set i u) := by
  obtain ⟨t, h⟩ := h
  obtain ⟨hlt, hk⟩ := Array.getElem?_eq_some_iff.1 h
  refine ⟨t, ?_⟩
  show (W.heap.modify b _)[b]? = _
  rw [Array.getElem?_eq_getElem (by rw [Array.size_modify]; exact hlt), Array.getElem_modify_self, hk]
  simp
theorem infoC : (Try.prog.info? 40).map (fun i => (i.zero, i.size, i.bytes)) = some (some (.agg #[.int .i64 0, .int .i64 0, .int .i64 0, .int .i64 0, .int .i64 0, .int .i64 0, .int .i64 0, .int .i64 0, .int .i64 0]), 9, 72) := by kernel_rfl
theorem Blk.fr {W : World} {b : Nat} {xs : List Value} (h : Blk W b xs) (i : Nat) : W.frozen? ⟨b, i, none⟩ = false := by obtain ⟨t, h⟩ := h; simp [World.frozen?, h]
theorem Blk.grown {W W' : World} {b : Nat} {xs : List Value} {row : Option Nat} (h : Blk W b xs) (hg : W.grownBy W' row) (hne : some b ≠ row) : Blk W' b xs := by
  have := h.lt
  obtain ⟨t, h⟩ := h
  exact ⟨t, (hg.block b this hne).trans h⟩
theorem rowLater {w w' : World} {base : Nat} {e : TypeId} {size : Nat} {v : Value} {n : Nat} {xs : List Value} (h : w.ownsRow base e size v n xs) (hb : Below w.heap.size w w') : w'.ownsRow base e size v n xs := by
  obtain ⟨h1, h2⟩ := h
  refine ⟨h1, ?_⟩
  rcases h2 with h2 | ⟨g, cap, cur, hv, hg, hh, r⟩
  · exact .inl h2
  · exact .inr ⟨g, cap, cur, hv, hg, by rw [hb.block g (Array.getElem?_eq_some_iff.1 hh).1]; exact hh, r⟩
theorem row_ge {w : World} {base B : Nat} {e : TypeId} {size : Nat} {v : Value} {n : Nat} {xs : List Value} (h : w.ownsRow base e size v n xs) (hB : B ≤ base) {k : Nat} (hk : v.ownBlock = some k) : B ≤ k := by
  rcases h.2 with ⟨rfl, _⟩ | ⟨g, cap, cur, rfl, hg, _⟩
  · simp [Value.ownBlock] at hk
  · simp [Value.ownBlock] at hk; omega
theorem row_ne {w : World} {base b : Nat} {e : TypeId} {size : Nat} {v : Value} {n : Nat} {xs : List Value} (h : w.ownsRow base e size v n xs) (hB : b < base) : some b ≠ v.ownBlock := fun e => by
  have := row_ge h (Nat.le_refl _) e.symm
  omega
theorem blk_news {W : World} {g : Nat} {xs : List Value} (h : Blk W g xs) : ∀ j u, xs[j]? = some u → W.cell? ((⟨g, 0, none⟩ : Addr).add j) = some u := fun j u hu => by
  rw [Addr.add_lit, Nat.zero_add]; exact h.cell j u hu
theorem car_one (c : CarV) : ∀ u ∈ c.cells, u.oneCell' = true := by
  intro u hu
  simp only [CarV.cells, List.mem_cons, List.not_mem_nil, or_false] at hu
  rcases hu with rfl | rfl | rfl | rfl | rfl | rfl | rfl | rfl | rfl <;> rfl
theorem row_set {w : World} {base b i : Nat} {e : TypeId} {size : Nat} {v u : Value} {n : Nat} {xs : List Value} (h : w.ownsRow base e size v n xs) (hne : some b ≠ v.ownBlock) : (w.setCell ⟨b, i, none⟩ u).ownsRow base e size v n xs := by
  obtain ⟨h1, h2⟩ := h
  refine ⟨h1, ?_⟩
  rcases h2 with h2 | ⟨g, cap, cur, rfl, hg, hh, r⟩
  · exact .inl h2
  · refine .inr ⟨g, cap, cur, rfl, hg, ?_, r⟩
    rw [Below.heap_setCell _ _ _ _ (by intro e; apply hne; simp [Value.ownBlock, e])]
    exact hh
def newS (g : Nat) : Value := .slice (some ⟨g, 0, none⟩) 1 1
theorem newS_inj (x y : Nat) (h : newS x = newS y) : x = y := by unfold newS at h; simpa using h
abbrev bldC (fl : Int) (v : Value) : List Value := [.int .i64 fl, .int .i64 1, .int .i64 4000, .int .i64 30, .float .f64 4591870180066957722, .float .f64 4605380978949069210, .float .f64 4607632778762754458, v]
set_option maxHeartbeats 2000000 in
theorem sample_any (fl : Int) (n : Nat) (w : World) (h2 : 1 ≤ fl) (h32 : fl ≤ 32) (hn : n ≤ 100) :
    Calls Try.prog 37 #[.int .i64 fl, .int .i64 n] w fun e w' => ∃ v, e = .returned (.agg (bldC fl v).toArray) ∧ w'.ownsRow (w.heap.size + 2) 40 9 v n (carCells (carsS n fl)) ∧ Below w.heap.size w w' := by
  obtain ⟨i0, hi, hz0, hz1, hz2⟩ := info_parts infoC
  have Hi := Lib.hid hi; have Hz0 := Lib.hid hz0; have Hz1 := Lib.hid hz1; have Hz2 := Lib.hid hz2
  clear hi hz0 hz1 hz2
  have R0 : Blk ((w.alloc (.cells #[.int .i64 0, .int .i64 0, .int .i64 0, .int .i64 0, .float .f64 0, .float .f64 0, .float .f64 0, .slice none 0 0] 29)).alloc (.cells #[.int .i64 fl, .int .i64 1, .int .i64 4000, .int .i64 30, .float .f64 4591870180066957722, .float .f64 4605380978949069210, .float .f64 4607632778762754458, .slice none 0 0] 29)) w.heap.size [.int .i64 0, .int .i64 0, .int .i64 0, .int .i64 0, .float .f64 0, .float .f64 0, .float .f64 0, .slice none 0 0] := (Blk.new w [.int .i64 0, .int .i64 0, .int .i64 0, .int .i64 0, .float .f64 0, .float .f64 0, .float .f64 0, .slice none 0 0] 29).next (below1' _ _)
  have B0 : Blk ((w.alloc (.cells #[.int .i64 0, .int .i64 0, .int .i64 0, .int .i64 0, .float .f64 0, .float .f64 0, .float .f64 0, .slice none 0 0] 29)).alloc (.cells #[.int .i64 fl, .int .i64 1, .int .i64 4000, .int .i64 30, .float .f64 4591870180066957722, .float .f64 4605380978949069210, .float .f64 4607632778762754458, .slice none 0 0] 29)) (w.heap.size + 1) (bldC fl (.slice none 0 0)) := by
    have := Blk.new (w.alloc (.cells #[.int .i64 0, .int .i64 0, .int .i64 0, .int .i64 0, .float .f64 0, .float .f64 0, .float .f64 0, .slice none 0 0] 29)) (bldC fl (.slice none 0 0)) 29
    rw [World.size_alloc] at this; exact this
  have hb0 : Below w.heap.size w ((w.alloc (.cells #[.int .i64 0, .int .i64 0, .int .i64 0, .int .i64 0, .float .f64 0, .float .f64 0, .float .f64 0, .slice none 0 0] 29)).alloc (.cells #[.int .i64 fl, .int .i64 1, .int .i64 4000, .int .i64 30, .float .f64 4591870180066957722, .float .f64 4605380978949069210, .float .f64 4607632778762754458, .slice none 0 0] 29)) := (below1' w (.cells #[.int .i64 0, .int .i64 0, .int .i64 0, .int .i64 0, .float .f64 0, .float .f64 0, .float .f64 0, .slice none 0 0] 29)).trans ((below1' _ (.cells #[.int .i64 fl, .int .i64 1, .int .i64 4000, .int .i64 30, .float .f64 4591870180066957722, .float .f64 4605380978949069210, .float .f64 4607632778762754458, .slice none 0 0] 29)).mono (by simp))
  have hz : ((w.alloc (.cells #[.int .i64 0, .int .i64 0, .int .i64 0, .int .i64 0, .float .f64 0, .float .f64 0, .float .f64 0, .slice none 0 0] 29)).alloc (.cells #[.int .i64 fl, .int .i64 1, .int .i64 4000, .int .i64 30, .float .f64 4591870180066957722, .float .f64 4605380978949069210, .float .f64 4607632778762754458, .slice none 0 0] 29)).heap.size = w.heap.size + 2 := by simp
  have HR := Lib.hid R0; have HB := Lib.hid B0; have HW := Lib.hid hb0; have HZ := Lib.hid hz
  clear R0 B0 hb0 hz
  go_enter Try.func37, Try.ntmps37
  go_wp2_with fail
  generalize (w.alloc (.cells #[.int .i64 0, .int .i64 0, .int .i64 0, .int .i64 0, .float .f64 0, .float .f64 0, .float .f64 0, .slice none 0 0] 29)).alloc (.cells #[.int .i64 fl, .int .i64 1, .int .i64 4000, .int .i64 30, .float .f64 4591870180066957722, .float .f64 4605380978949069210, .float .f64 4607632778762754458, .slice none 0 0] 29) = w0 at *
  go_loopw [6] (fun v wr => ∃ (i : Nat) (u : Value), i ≤ n ∧ v = .int .i64 i ∧ Blk wr (w.heap.size + 1) (bldC fl u) ∧ wr.ownsRow (w.heap.size + 2) 40 9 u i (carCells (carsS i fl)) ∧ Below (w.heap.size + 1) w0 wr) (fun v _ => n - (intOf v).toNat)
  case atStart => exact ⟨0, _, by omega, rfl, HB.out, World.ownsRow_nil _ _ _ _, Below.refl _ _⟩
  case round =>
    obtain ⟨i, u, hi', rfl, B, hown, hb⟩ := hrel
    have hsz := hb.size
    have hz := HZ.out
    by_cases hlt : i < n
    · have hd : decide ((i : Int) < (n : Int)) = true := by simp; omega
      have k7 := B.cell 7 _ rfl
      have hfl : ¬ fl = 0 := by omega
      have h0i : (0 : Int) ≤ (i : Int) := by omega
      have H1 := Lib.hid B; have H2 := Lib.hid hown; have H3 := Lib.hid hb
      clear B hown hb hz
      go_upto_region 5 with fail
      have m7 : ∀ W, Grow.Cl wr.drew W → W.cell? ⟨w.heap.size + 1, 7, none⟩ = some u := fun W h => cell_later (Grow.Cl.base h) k7
      have hlo : w0.heap.size ≤ wr.drew.heap.size := hsz
      clear k7
      refine Grow.wp_region_tail 7 (mkPlan 6 newS w0.heap.size (carS i fl).cells) (mkPlan_stable _ _ _ _) (by kernel_rfl) (by kernel_rfl) ?_
      intro opsq Hopsq
      simp only [List.take_succ_cons, List.take_zero, List.drop_succ_cons, List.drop_zero]
      repeat (first | (refine Grow.lex_move rfl ?_ rfl ?_; (· first | exact Grow.wanted_none | (rw [Hopsq.out]; rfl)); intro K hK; simp only [Grow.put_lit, Grow.setAt, Grow.eval_lit, Grow.ev]; refine hK _ _ ?_; clear hK K) | (refine Grow.lex_assign rfl ?_ rfl ?_; (· first | exact Grow.wanted_none | (rw [Hopsq.out]; rfl)); intro K hK; simp only [Grow.put_lit, Grow.setAt, Grow.eval_lit, Grow.ev]; refine hK _ _ ?_; clear hK K) | (refine Grow.lex_plain rfl rfl ?_ rfl ?_; (· first | exact Grow.wanted_none | (rw [Hopsq.out]; rfl)); apply Exists.intro; refine ⟨fun wq hCq _ => ?_, ?_⟩; (· (go_wp2_with fail; refine ⟨rfl, Below.refl _ _, ?_⟩; simp only [Grow.getD_lit, Grow.nth]; rfl)); intro K hK; simp only [Grow.put_lit, Grow.setAt]; refine hK _ _ ?_; clear hK K) | (refine Grow.lex_nilCheck rfl rfl ?_ rfl ?_; (· first | exact Grow.wanted_none | (rw [Hopsq.out]; rfl)); intro K hK; simp only [Grow.put_lit, Grow.setAt]; refine hK _ _ ?_; clear hK K) | (refine Grow.lex_skip ?_ ?_; (· (rw [Hopsq.out]; rfl)); intro K hK; simp only [Grow.put_lit, Grow.setAt]; refine hK _ _ ?_; clear hK K))
      refine lex_mk 6 newS w0.heap.size (carS i fl).cells 40 ?_ (fun wq => ?_) hlo ?_
      · first | exact Grow.wanted_none | (rw [Hopsq.out]; rfl)
      · go_simp
        exact ⟨rfl, rfl⟩
      intro g hg
      simp only [Grow.put_lit, Grow.setAt]
      refine Grow.lex_nil ?_
      intro w1 hb1 hTq
      have BG := mk_blk newS_inj hTq
      clear hTq
      replace hb1 := Grow.Cl.base hb1
      have hown1 := rowLater H2.out hb1
      have B1 := H1.out.next hb1
      have hb2 := H3.out.trans (hb1.mono (by have := HZ.out; omega))
      have hnews := blk_news BG
      have hsz1 := hb1.size
      have HN1 := Lib.hid hnews; have HO1 := Lib.hid hown1; have HB1 := Lib.hid B1; have HB2 := Lib.hid hb2
      have hwz : w.heap.size + 2 ≤ w1.heap.size := by have := HZ.out; omega
      clear hown1 B1 hb2 hnews hb1 m7 BG hlo Hopsq
      simp only [newS]
      go_wp2_with ((at_builtin; refine wpList_append_own _ rfl _ _ 27 rfl (w.heap.size + 2) 40 i0 (.agg #[.int .i64 0, .int .i64 0, .int .i64 0, .int .i64 0, .int .i64 0, .int .i64 0, .int .i64 0, .int .i64 0, .int .i64 0]) 9 72 Try.underlying27 Hi.out Hz0.out Hz1.out Hz2.out rfl (by decide) _ _ _ rfl HO1.out ⟨g, 0, none⟩ 1 1 (carS i fl).cells rfl rfl HN1.out (car_one _) (by unfold maxLen; omega) (by omega) hwz ?_))
      intro u' w2 hown2 hgr _
      have B2 := HB1.out.grown hgr (row_ne HO1.out (by omega))
      have hb3 := HB2.out.grown hgr (by have := HZ.out; omega) (fun k hk => row_ge HO1.out (by omega) hk)
      have k7 := B2.cell 7 _ rfl; have f7 := B2.fr 7
      have HO2 := Lib.hid hown2; have HB3 := Lib.hid B2; have HB4 := Lib.hid hb3
      have hne := row_ne hown2 (b := w.heap.size + 1) (by omega)
      have HNE := Lib.hid hne
      obtain ⟨g', cap', rfl⟩ : ∃ g' cap', u' = .slice (some ⟨g', 0, none⟩) (i + 1) cap' := by
        rcases hown2.2 with ⟨_, h⟩ | ⟨g', cap', cur, hv, _⟩
        · omega
        · exact ⟨g', cap', hv⟩
      clear hown2 hgr B2 hb3 hne
      go_wp2_with fail
      refine ⟨⟨i + 1, .slice (some ⟨g', 0, none⟩) (i + 1) cap', by omega, by go_num, HB3.out.set 7 _, ?_, HB4.out.setCell (p := ⟨w.heap.size + 1, 7, none⟩) (Nat.le_refl _) _⟩, by simp [intOf]; omega⟩
      rw [carsS_succ, carCells_snoc]
      exact row_set HO2.out HNE.out
    · have hd : decide ((i : Int) < (n : Int)) = false := by simp; omega
      obtain rfl : i = n := by omega
      have R := HR.out.later hb (by omega)
      obtain ⟨q, cap, rfl⟩ : ∃ q cap, u = .slice q i cap := by
        rcases hown.2 with ⟨hv, h⟩ | ⟨g', cap', cur, hv, _⟩
        · exact ⟨none, 0, by rw [hv, h]⟩
        · exact ⟨some ⟨g', 0, none⟩, cap', hv⟩
      have k0 := B.cell 0 _ rfl; have z0 := R.cell 0 _ rfl; have f0 := R.fr 0
      have k1 := B.cell 1 _ rfl; have z1 := R.cell 1 _ rfl; have f1 := R.fr 1
      have k2 := B.cell 2 _ rfl; have z2 := R.cell 2 _ rfl; have f2 := R.fr 2
      have k3 := B.cell 3 _ rfl; have z3 := R.cell 3 _ rfl; have f3 := R.fr 3
      have k4 := B.cell 4 _ rfl; have z4 := R.cell 4 _ rfl; have f4 := R.fr 4
      have k5 := B.cell 5 _ rfl; have z5 := R.cell 5 _ rfl; have f5 := R.fr 5
      have k6 := B.cell 6 _ rfl; have z6 := R.cell 6 _ rfl; have f6 := R.fr 6
      have k7 := B.cell 7 _ rfl; have z7 := R.cell 7 _ rfl; have f7 := R.fr 7
      have H1 := Lib.hid R; have H2 := Lib.hid hown; have H3 := Lib.hid (HW.out.trans (hb.mono (by omega)))
      clear R B hown hb hz
      go_wp2_with fail
      have R8 := ((((((((H1.out.set 0 (.int .i64 fl)).set 1 (.int .i64 1)).set 2 (.int .i64 4000)).set 3 (.int .i64 30)).set 4 (.float .f64 4591870180066957722)).set 5 (.float .f64 4605380978949069210)).set 6 (.float .f64 4607632778762754458)).set 7 (.slice q i cap))
      have hne := row_ne H2.out (b := w.heap.size) (by omega)
      have r0 := R8.cell 0 _ rfl
      have r1 := R8.cell 1 _ rfl
      have r2 := R8.cell 2 _ rfl
      have r3 := R8.cell 3 _ rfl
      have r4 := R8.cell 4 _ rfl
      have r5 := R8.cell 5 _ rfl
      have r6 := R8.cell 6 _ rfl
      have r7 := R8.cell 7 _ rfl
      exact bodyPost_ret (v := .agg (bldC fl (.slice q i cap)).toArray) (by simp [results, Try.results37, go_sem, r0, r1, r2, r3, r4, r5, r6, r7]) rfl ⟨_, rfl, (row_set (row_set (row_set (row_set (row_set (row_set (row_set (row_set H2.out hne) hne) hne) hne) hne) hne) hne) hne), ((((((((H3.out.setCell (p := ⟨w.heap.size, 0, none⟩) (Nat.le_refl _) (.int .i64 fl)).setCell (p := ⟨w.heap.size, 1, none⟩) (Nat.le_refl _) (.int .i64 1)).setCell (p := ⟨w.heap.size, 2, none⟩) (Nat.le_refl _) (.int .i64 4000)).setCell (p := ⟨w.heap.size, 3, none⟩) (Nat.le_refl _) (.int .i64 30)).setCell (p := ⟨w.heap.size, 4, none⟩) (Nat.le_refl _) (.float .f64 4591870180066957722)).setCell (p := ⟨w.heap.size, 5, none⟩) (Nat.le_refl _) (.float .f64 4605380978949069210)).setCell (p := ⟨w.heap.size, 6, none⟩) (Nat.le_refl _) (.float .f64 4607632778762754458)).setCell (p := ⟨w.heap.size, 7, none⟩) (Nat.le_refl _) (.slice q i cap))⟩
end Go.Proofs.Ytfmmiafdlfdfoaa
