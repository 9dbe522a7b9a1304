/- The walk over belief.aged. Conditions: duties that can be read; ages and the limit in range. -/
import Derived.Test.YtnnkldidlgiipaaAged
namespace Go.Proofs.Ytnnkldidlgiipaa
open Go.RowKit
theorem agedLate_bad (dl : Int) (l : List Duty) (i : Nat) (d : Duty) (h : l[i]? = some d) (hd : dl < d.2.2 + 1) : agedLate dl l = true := by
  unfold agedLate
  rw [List.any_eq_true]
  exact ⟨d, List.mem_of_getElem? h, by simpa using hd⟩
theorem row_nelt {w : World} {base b : Nat} {e : TypeId} {size : Nat} {v : Value} {n : Nat} {xs : List Value} (h : w.ownsRow base e size v n xs) (hb : w.heap.size ≤ b) : some b ≠ v.ownBlock := fun e => Nat.lt_irrefl _ (Nat.lt_of_lt_of_le (h.lt _ e.symm).2 hb)
/-- What belief.aged hands back. -/
def agedT (lo : Nat) (L : List Duty) (late : Bool) (v : Value) (w : World) : Prop := ∃ q cap, v = .tuple #[.slice q L.length cap, .bool late] ∧ RdD w q L ∧ ∀ A, q = some A → lo ≤ A.block
def agedOut (dl : Int) (c : CS) (l : List Duty) : List Duty := if agedLate dl l then [] else agedL c l
set_option maxHeartbeats 4000000 in
set_option maxRecDepth 100000 in
theorem aged_any (l : List Duty) (q' : Option Addr) (cap' : Nat) (dl : Int) (c : CS) (w : World) (hlen' : l.length ≤ 1000) (hdl : dl ≤ 10000) (ha : ∀ (i : Nat) (d : Duty), l[i]? = some d → 0 ≤ d.2.2 ∧ d.2.2 ≤ dl) (hd : RdD w q' l) :
    Calls Try.prog 25 #[.slice q' l.length cap', .int .i64 dl, cv c] w fun e w' => ∃ v, e = .returned v ∧ Below w.heap.size w w' ∧ agedT w.heap.size (agedOut dl c l) (agedLate dl l) v w' := by
  obtain ⟨i0, hi, hy0, hy1, hy2⟩ := info_parts infoD
  have Hi := Lib.hid hi; have Hz0 := Lib.hid hy0; have Hz1 := Lib.hid hy1; have Hz2 := Lib.hid hy2
  clear hi hy0 hy1 hy2
  have X0 : Blk (w.alloc (.cells #[.int .u32 (c.1.toNat : Int), .int .u32 (c.2.toNat : Int)] 39)) w.heap.size [.int .u32 (c.1.toNat : Int), .int .u32 (c.2.toNat : Int)] := by
    have hx := Blk.new w [.int .u32 (c.1.toNat : Int), .int .u32 (c.2.toNat : Int)] 39
    exact hx
  have XW : Below w.heap.size w (w.alloc (.cells #[.int .u32 (c.1.toNat : Int), .int .u32 (c.2.toNat : Int)] 39)) := below1' w _
  have HWW := Lib.hid XW; have HX0 := Lib.hid X0
  clear XW X0
  have HD := Lib.hid (hd.next HWW.out); have HA := Lib.hid ha
  clear hd ha
  obtain ⟨n, hn⟩ : ∃ n, n = l.length := ⟨_, rfl⟩
  have HN := Lib.hid hn
  rw [← hn] at hlen' ⊢
  clear hn
  go_enter Try.func25, Try.ntmps25
  go_upto_region 2 with fail
  generalize (w.alloc (.cells #[.int .u32 (c.1.toNat : Int), .int .u32 (c.2.toNat : Int)] 39)) = w0 at *
  have HW := Lib.hid (Below.refl w0.heap.size w0)
  have hz0 := HX0.out.lt
  have m0 := (HX0.out).cell 0 _ rfl
  have m1 := (HX0.out).cell 1 _ rfl
  go_wp2_with fail
  go_loopw [8, 13] (fun v8 v13 wr => ∃ i : Nat, i ≤ n ∧ v13 = .int .i64 i ∧ agedLate dl (l.take i) = false ∧ wr.ownsRow w0.heap.size 71 3 v8 (agedL c (l.take i)).length (dutyCells (agedL c (l.take i))) ∧ Below w0.heap.size w0 wr) (fun _ v _ => n - (intOf v).toNat)
  case atStart => exact ⟨0, by omega, rfl, rfl, World.ownsRow_nil _ _ _ _, HW.out⟩
  case round =>
    clear HW
    obtain ⟨i, hi', rfl, hlate, hown, hb⟩ := hrel
    have HW := Lib.hid hb
    have HO := Lib.hid hown
    have HLT := Lib.hid hlate
    have c0 := base_cell HW.out
    clear hb hown hlate
    by_cases hlt : i < n
    · have hd : decide ((i : Int) < (n : Int)) = true := by simp; omega
      obtain ⟨d, hdu⟩ : ∃ d, l[i]? = some d := ⟨_, List.getElem?_eq_getElem (by rw [← HN.out]; exact hlt)⟩
      obtain ⟨ha0, ha1⟩ := HA.out i d hdu
      obtain ⟨A, hq, hA, d0, d1, d2⟩ := (HD.out.next HW.out).at hdu
      have hal : (agedL c (l.take i)).length ≤ 1000 := by
        have h1 := agedL_len c (l.take i)
        have h2 : (l.take i).length ≤ i := List.length_take_le _ _
        omega
      have HT1 := Lib.hid (agedL_take c l i d hdu); have HT2 := Lib.hid (agedLate_take dl l i d hdu)
      have HBD := Lib.hid (agedLate_bad dl l i d hdu)
      subst hq
      clear hdu
      generalize hl1 : agedL c (l.take i) = la at *
      clear hl1
      have BD := Blk.new wr d.cells 71
      change Blk (wr.alloc (.cells #[.int .i64 d.1, .int .i64 d.2.1, .int .i64 d.2.2] 71)) _ _ at BD
      have hbe := below1' wr (.cells #[.int .i64 d.1, .int .i64 d.2.1, .int .i64 d.2.2] 71)
      have HW2 := Lib.hid (HW.out.trans (hbe.mono HW.out.size))
      have HO2 := Lib.hid (rowLater HO.out hbe)
      have HB := Lib.hid BD
      have hgd : w0.heap.size ≤ wr.heap.size := HW.out.size
      clear BD hbe
      go_upto_region 5 with fail
      clear c0 d0 d1 d2 hA hd HW
      generalize hwd : wr.alloc (.cells #[.int .i64 d.1, .int .i64 d.2.1, .int .i64 d.2.2] 71) = wd at *
      clear hwd
      have hne := row_nelt HO.out (Nat.le_refl wr.heap.size)
      generalize hgd' : wr.heap.size = gd at *
      have r0 := (HB.out).cell 0 _ rfl
      have r1 := (HB.out).cell 1 _ rfl
      have r2 := (HB.out).cell 2 _ rfl
      have fr2 := HB.out.fr 2
      have c0 := base_cell HW2.out
      go_upto_region 6 with fail
      have HB3 := Lib.hid (HB.out.set 2 (.int .i64 (d.2.2 + 1)))
      have HO3 := Lib.hid (row_set (i := 2) (u := .int .i64 (d.2.2 + 1)) HO2.out hne)
      have HW3 := Lib.hid (HW2.out.setCell (p := ⟨gd, 2, none⟩) hgd (.int .i64 (d.2.2 + 1)))
      clear HB HO2 HW2 HO r0 r1 r2 fr2 c0 hne
      change Hid (Blk (wd.setCell ⟨gd, 2, none⟩ (.int .i64 (d.2.2 + 1))) gd [.int .i64 d.1, .int .i64 d.2.1, .int .i64 (d.2.2 + 1)]) at HB3
      generalize wd.setCell ⟨gd, 2, none⟩ (.int .i64 (d.2.2 + 1)) = w4 at *
      have r0 := (HB3.out).cell 0 _ rfl
      have r1 := (HB3.out).cell 1 _ rfl
      have r2 := (HB3.out).cell 2 _ rfl
      have c0 := base_cell HW3.out
      by_cases hgt : dl < d.2.2 + 1
      · have hl := HBD.out hgt
        have HL := Lib.hid hl
        clear hl
        go_wp2_with fail
        refine bodyPost_ret (v := .tuple #[.slice none 0 0, .bool true]) (by simp [results, Try.results25, go_sem]) rfl ?_
        exact ⟨_, rfl, HWW.out.trans (HW3.out.mono HWW.out.size), none, 0, by unfold agedOut; rw [HL.out]; rfl, fun i d h => by unfold agedOut at h; rw [HL.out] at h; simp at h, fun A h => by cases h⟩
      · have hlt2 : agedLate dl (l.take (i + 1)) = false := by rw [HT2.out, HLT.out]; simpa using hgt
        have HLT2 := Lib.hid hlt2
        clear hlt2 HT2 HLT HBD
        go_wp2_with fail
        refine (has_any c d.1 d.2.1 _).mono ?_
        rintro e w8 ⟨rfl, hb8⟩
        have HWn := Lib.hid (HW3.out.trans (hb8.mono HW3.out.size))
        have HOn := Lib.hid (rowLater HO3.out hb8)
        have HBn := Lib.hid (HB3.out.next hb8)
        clear HW3 HO3 HB3 hb8 c0 r0 r1 r2
        cases hh : has c d.1 d.2.1
        · have HHH := Lib.hid hh
          clear hh
          have r0 := (HBn.out).cell 0 _ rfl
          have r1 := (HBn.out).cell 1 _ rfl
          have r2 := (HBn.out).cell 2 _ rfl
          have hsz : w0.heap.size ≤ w8.heap.size := HWn.out.size
          go_wp2_with ((at_builtin; refine wpList_append_own _ rfl _ _ 33 rfl w0.heap.size 71 i0 (.agg #[.int .i64 0, .int .i64 0, .int .i64 0]) 3 24 Try.underlying33 Hi.out Hz0.out Hz1.out Hz2.out rfl (by decide) _ _ _ rfl (HOn.out.alloc _) ⟨w8.heap.size, 0, none⟩ 1 1 (agedD d).cells rfl rfl (duty_new _ (agedD d) _) (duty_one _) (by unfold maxLen; omega) (by omega) (by simp; omega) ?_))
          intro v' w9 hown2 hg _
          have hb3 : Below w0.heap.size w0 w9 := (HWn.out.alloc hsz _).grown hg (by simp; omega) (fun q hq => (HOn.out.lt q hq).1)
          have hown3 : w9.ownsRow w0.heap.size 71 3 v' (la ++ [agedD d]).length (dutyCells (la ++ [agedD d])) := by
            rw [dutyCells_snoc, List.length_append]; exact hown2
          clear hown2 hg r0 r1 r2
          go_wp2_with fail
          exact ⟨⟨i + 1, by omega, by go_num, HLT2.out, by rw [HT1.out, HHH.out]; exact hown3, hb3⟩, by simp [intOf]; omega⟩
        · have HHH := Lib.hid hh
          clear hh
          go_wp2_with fail
          exact ⟨⟨i + 1, by omega, by go_num, HLT2.out, by rw [HT1.out, HHH.out]; exact HOn.out, HWn.out⟩, by simp [intOf]; omega⟩
    · have hd : decide ((i : Int) < (n : Int)) = false := by simp; omega
      obtain rfl : i = n := by omega
      have ht : l.take i = l := by rw [HN.out, List.take_length]
      rw [ht] at HO HLT
      obtain ⟨q9, cap9, rfl⟩ := row_form HO.out
      have HE : Hid (agedOut dl c l = agedL c l) := Lib.hid (by unfold agedOut; rw [HLT.out]; rfl)
      clear ht
      go_wp2_with fail
      refine bodyPost_ret (v := .tuple #[.slice q9 (agedL c l).length cap9, .bool false]) (by simp [results, Try.results25, go_sem]) rfl ?_
      exact ⟨_, rfl, HWW.out.trans (HW.out.mono HWW.out.size), q9, cap9, by rw [HE.out, HLT.out], by rw [HE.out]; exact rdD_of_owns HO.out rfl, fun A hA => Nat.le_trans HWW.out.size (row_lo HO.out A hA)⟩
end Go.Proofs.Ytnnkldidlgiipaa
