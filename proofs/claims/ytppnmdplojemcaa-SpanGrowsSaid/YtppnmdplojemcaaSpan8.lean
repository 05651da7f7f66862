/- The join of spans: the program's and the document's. -/
import Derived.Test.YtppnmdplojemcaaSpan7
namespace Go.Proofs.Ytppnmdplojemcaa
set_option linter.unusedSimpArgs false
set_option linter.unusedVariables false
open Go.RowKit

def joinStep (out s : Sp) : Sp := if s.none then out else if out.none then s else (⟨if s.lo < out.lo then s.lo else out.lo, if out.hi < s.hi then s.hi else out.hi⟩ : Sp)
def joinL (l : List Sp) : Sp := l.foldl joinStep ⟨0, -1⟩

theorem joinStep_ok {o s : Sp} (h1 : o.ok) (h2 : s.ok) : (joinStep o s).ok := by
  obtain ⟨⟨a1, a2⟩, a3, a4⟩ := h1
  obtain ⟨⟨b1, b2⟩, b3, b4⟩ := h2
  unfold joinStep
  (repeat' split) <;> (refine ⟨⟨?_, ?_⟩, ?_, ?_⟩ <;> (try simp only) <;> omega)
theorem none_ok : Sp.ok ⟨0, -1⟩ := ⟨⟨by decide, by decide⟩, by decide, by decide⟩
theorem fold_ok (l : List Sp) (o : Sp) (ho : o.ok) (hl : ∀ p ∈ l, p.ok) : (l.foldl joinStep o).ok := by
  induction l generalizing o with
  | nil => exact ho
  | cons x l ih => exact ih _ (joinStep_ok ho (hl x (by simp))) fun p hp => hl p (by simp [hp])
theorem joinL_ok (l : List Sp) (hl : ∀ p ∈ l, p.ok) : (joinL l).ok := fold_ok l _ none_ok hl
theorem joinL_snoc (l : List Sp) (s : Sp) : joinL (l ++ [s]) = joinStep (joinL l) s := by simp [joinL]

theorem spans_one {w : World} {e : TypeId} {s : Sp} (hs : s.ok) : Spans (w.alloc (.cells #[.int .i64 s.lo, .int .i64 s.hi] e)) (.slice (some ⟨w.heap.size, 0, none⟩) 1 1) [s] := by
  refine ⟨(Blk.new _ rfl).row (by rfl) (Nat.le_refl _) (by unfold maxLen; omega) (by simp), ?_⟩
  intro p hp
  rcases List.mem_cons.1 hp with rfl | hp
  · exact hs
  · cases hp

set_option maxHeartbeats 6400000 in
theorem spanJoin {w : World} {v : Value} {ps : List Sp} (hv : Spans w v ps) : Calls Try.prog 14 #[v] w fun e w' => e = .returned (joinL ps).val ∧ Below w.heap.size w w' := by
  obtain ⟨a, c, b, o, rfl, hc, hm, hn, ha, hx⟩ := hv.parts
  have HV := Lib.hid hv
  have HA := Lib.hid ha
  have HX := Lib.hid hx
  clear hv ha hx
  generalize H1 : ps.length = n at *
  have G1 := Lib.hid H1
  clear H1
  unfold Sp.val
  go_enter Try.func14, Try.ntmps14
  go_upto_region 1 with (fail)
  have B2 : Hid (Box (w.alloc (.cells #[.int .i64 0, .int .i64 0] 23)) (w.heap.size) #[.int .i64 0, .int .i64 0]) := Lib.hid (by simpa using (Box.new w #[.int .i64 0, .int .i64 0] 23))
  have HW : Hid (Below w.heap.size w (w.alloc (.cells #[.int .i64 0, .int .i64 0] 23))) := Lib.hid ((Below.refl _ _).alloc (Nat.le_refl _) _)
  generalize (w.alloc (.cells #[.int .i64 0, .int .i64 0] 23)) = wv at *
  obtain ⟨lB2, cB2, fB2⟩ := B2.out
  go_wp2_with fail
  refine none_any.mono ?_
  rintro e w1 ⟨rfl, hb1⟩
  clear lB2 cB2 fB2
  replace B2 := Lib.hid (B2.out.later hb1)
  replace HW := Lib.hid (HW.out.trans (hb1.mono HW.out.size))
  clear hb1
  obtain ⟨lB2, cB2, fB2⟩ := B2.out
  unfold Sp.val
  go_upto_region 2 with (fail)
  have Z1 := lB2
  have nB3B2 : w1.heap.size ≠ w.heap.size := fun e => by have := lB2; omega
  have nB2B3 : w.heap.size ≠ w1.heap.size := fun e => nB3B2 e.symm
  have B2_ : Box (w1.alloc (.cells #[.int .i64 0, .int .i64 (-1)] 23)) (w.heap.size) #[.int .i64 0, .int .i64 0] := by simpa using (B2.out.alloc _)
  have B3_ : Box (w1.alloc (.cells #[.int .i64 0, .int .i64 (-1)] 23)) (w1.heap.size) #[.int .i64 0, .int .i64 (-1)] := by simpa using (Box.new w1 #[.int .i64 0, .int .i64 (-1)] 23)
  have HW_ : Below w.heap.size w (w1.alloc (.cells #[.int .i64 0, .int .i64 (-1)] 23)) := (HW.out.alloc (by first | exact Nat.le_refl _ | exact HW.out.size | (simp only [World.size_alloc, World.size_setCell]; have := HW.out.size; omega)) _)
  clear lB2 cB2 fB2
  clear B2 HW
  generalize (w1.alloc (.cells #[.int .i64 0, .int .i64 (-1)] 23)) = wl at *
  have B2 := Lib.hid B2_
  clear B2_
  have B3 := Lib.hid B3_
  clear B3_
  have HW := Lib.hid HW_
  clear HW_
  obtain ⟨lB2, cB2, fB2⟩ := B2.out
  obtain ⟨lB3, cB3, fB3⟩ := B3.out
  go_wp2
  go_loopw [9] (fun i wr => ∃ (k : Nat) (out : Sp), k ≤ n ∧ i = .int .i64 k ∧ out = joinL (ps.take k) ∧ Box wr w.heap.size #[.int .i64 0, .int .i64 0] ∧ Box wr w1.heap.size #[.int .i64 out.lo, .int .i64 out.hi] ∧ Below w.heap.size w wr) (fun i _ => n - (intOf i).toNat)
  case atStart => exact ⟨0, ⟨0, -1⟩, by omega, rfl, rfl, B2.out, B3.out, HW.out⟩
  case round =>
    obtain ⟨k, out, hk, rfl, ho, h2, h3, hb⟩ := hrel
    clear lB2 cB2 fB2 lB3 cB3 fB3
    clear B2 B3 HW
    have HO := Lib.hid ho
    have B2 := Lib.hid h2
    have B3 := Lib.hid h3
    have HW := Lib.hid hb
    clear ho h2 h3 hb


    obtain ⟨lB2, cB2, fB2⟩ := B2.out
    obtain ⟨lB3, cB3, fB3⟩ := B3.out
    by_cases hlt : k < n
    · obtain ⟨rfl, hbw⟩ := HA.out (by omega)
      obtain ⟨s, hs⟩ : ∃ s, ps[k]? = some s := ⟨_, List.getElem?_eq_getElem (by rw [G1.out]; exact hlt)⟩
      obtain ⟨h1, h2⟩ := HX.out k s hs
      have c1 := (HW.out.cell hbw).trans h1
      have c2 := (HW.out.cell hbw).trans h2
      have HT := Lib.hid (show joinL (ps.take (k + 1)) = joinStep out s by rw [List.take_add_one, hs, HO.out]; exact joinL_snoc _ _)
      have HS := Lib.hid (show s.ok from HV.out.2 s (List.mem_of_getElem? hs))
      have HOO := Lib.hid (show out.ok by rw [HO.out]; exact joinL_ok _ fun p hp => HV.out.2 p (List.mem_of_mem_take hp))
      clear hs h1 h2
      go_upto_region 6 with (fail)
      have nB5B2 : wr.heap.size ≠ w.heap.size := fun e => by have := lB2; omega
      have nB2B5 : w.heap.size ≠ wr.heap.size := fun e => nB5B2 e.symm
      have nB5B3 : wr.heap.size ≠ w1.heap.size := fun e => by have := lB3; omega
      have nB3B5 : w1.heap.size ≠ wr.heap.size := fun e => nB5B3 e.symm
      have B2_ : Box (wr.alloc (.cells #[.int .i64 s.lo, .int .i64 s.hi] 23)) (w.heap.size) #[.int .i64 0, .int .i64 0] := by simpa using (B2.out.alloc _)
      have B3_ : Box (wr.alloc (.cells #[.int .i64 s.lo, .int .i64 s.hi] 23)) (w1.heap.size) #[.int .i64 out.lo, .int .i64 out.hi] := by simpa using (B3.out.alloc _)
      have B5_ : Box (wr.alloc (.cells #[.int .i64 s.lo, .int .i64 s.hi] 23)) (wr.heap.size) #[.int .i64 s.lo, .int .i64 s.hi] := by simpa using (Box.new wr #[.int .i64 s.lo, .int .i64 s.hi] 23)
      have HW_ : Below w.heap.size w (wr.alloc (.cells #[.int .i64 s.lo, .int .i64 s.hi] 23)) := (HW.out.alloc (by first | exact Nat.le_refl _ | exact HW.out.size | (simp only [World.size_alloc, World.size_setCell]; have := HW.out.size; omega)) _)
      clear lB2 cB2 fB2 lB3 cB3 fB3
      clear B2 B3 HW
      generalize (wr.alloc (.cells #[.int .i64 s.lo, .int .i64 s.hi] 23)) = wk at *
      have B2 := Lib.hid B2_
      clear B2_
      have B3 := Lib.hid B3_
      clear B3_
      have B5 := Lib.hid B5_
      clear B5_
      have HW := Lib.hid HW_
      clear HW_
      obtain ⟨lB2, cB2, fB2⟩ := B2.out
      obtain ⟨lB3, cB3, fB3⟩ := B3.out
      obtain ⟨lB5, cB5, fB5⟩ := B5.out
      clear c1 c2
      go_wp2_with fail
      refine (empty (spans_one HS.out)).mono ?_
      rintro e w2 ⟨rfl, hb2⟩
      replace hb2 := below_alloc hb2
      clear lB2 cB2 fB2 lB3 cB3 fB3 lB5 cB5 fB5
      replace B2 := Lib.hid (B2.out.later hb2)
      replace B3 := Lib.hid (B3.out.later hb2)
      replace B5 := Lib.hid (B5.out.later hb2)
      replace HW := Lib.hid (HW.out.trans (hb2.mono HW.out.size))
      clear hb2
      obtain ⟨lB2, cB2, fB2⟩ := B2.out
      obtain ⟨lB3, cB3, fB3⟩ := B3.out
      obtain ⟨lB5, cB5, fB5⟩ := B5.out
      rw [show [s].any Sp.none = s.none by simp]
      cases hsn : s.none
      case true =>
        have HJ : Hid (joinL (ps.take (k + 1)) = out) := Lib.hid (HT.out.trans (by simp [joinStep, hsn]))
        clear hsn
        go_wp2
        go_roundw
        case rel => exact ⟨k + 1, out, by omega, by go_num, HJ.out.symm, B2.out, B3.out, HW.out⟩
        case measure => simp [intOf]; omega
      case false =>
        go_wp2_with fail
        refine (empty (spans_one HOO.out)).mono ?_
        rintro e w3 ⟨rfl, hb3⟩
        replace hb3 := below_alloc hb3
        clear lB2 cB2 fB2 lB3 cB3 fB3 lB5 cB5 fB5
        replace B2 := Lib.hid (B2.out.later hb3)
        replace B3 := Lib.hid (B3.out.later hb3)
        replace B5 := Lib.hid (B5.out.later hb3)
        replace HW := Lib.hid (HW.out.trans (hb3.mono HW.out.size))
        clear hb3
        obtain ⟨lB2, cB2, fB2⟩ := B2.out
        obtain ⟨lB3, cB3, fB3⟩ := B3.out
        obtain ⟨lB5, cB5, fB5⟩ := B5.out
        rw [show [out].any Sp.none = out.none by simp]
        cases hon : out.none
        case true =>
          have HJ : Hid (joinL (ps.take (k + 1)) = s) := Lib.hid (HT.out.trans (by simp [joinStep, hsn, hon]))
          clear hsn hon
          go_upto_region 9 with (fail)
          have B2_ : Box ((w3.setCell ⟨w1.heap.size, 0, none⟩ (.int .i64 s.lo)).setCell ⟨w1.heap.size, 1, none⟩ (.int .i64 s.hi)) (w.heap.size) #[.int .i64 0, .int .i64 0] := by simpa using ((B2.out.other (p := ⟨w1.heap.size, 0, none⟩) (.int .i64 s.lo) (by first | assumption | (simp; done) | omega)).other (p := ⟨w1.heap.size, 1, none⟩) (.int .i64 s.hi) (by first | assumption | (simp; done) | omega))
          have B3_ : Box ((w3.setCell ⟨w1.heap.size, 0, none⟩ (.int .i64 s.lo)).setCell ⟨w1.heap.size, 1, none⟩ (.int .i64 s.hi)) (w1.heap.size) #[(.int .i64 s.lo), (.int .i64 s.hi)] := by simpa using ((B3.out.set 0 (.int .i64 s.lo)).set 1 (.int .i64 s.hi))
          have B5_ : Box ((w3.setCell ⟨w1.heap.size, 0, none⟩ (.int .i64 s.lo)).setCell ⟨w1.heap.size, 1, none⟩ (.int .i64 s.hi)) (wr.heap.size) #[.int .i64 s.lo, .int .i64 s.hi] := by simpa using ((B5.out.other (p := ⟨w1.heap.size, 0, none⟩) (.int .i64 s.lo) (by first | assumption | (simp; done) | omega)).other (p := ⟨w1.heap.size, 1, none⟩) (.int .i64 s.hi) (by first | assumption | (simp; done) | omega))
          have HW_ : Below w.heap.size w ((w3.setCell ⟨w1.heap.size, 0, none⟩ (.int .i64 s.lo)).setCell ⟨w1.heap.size, 1, none⟩ (.int .i64 s.hi)) := ((HW.out.setCell (p := ⟨w1.heap.size, 0, none⟩) (by first | assumption | omega | (have := HW.out.size; omega) | (simp; omega)) (.int .i64 s.lo)).setCell (p := ⟨w1.heap.size, 1, none⟩) (by first | assumption | omega | (have := HW.out.size; omega) | (simp; omega)) (.int .i64 s.hi))
          clear lB2 cB2 fB2 lB3 cB3 fB3 lB5 cB5 fB5
          clear B2 B3 B5 HW
          generalize ((w3.setCell ⟨w1.heap.size, 0, none⟩ (.int .i64 s.lo)).setCell ⟨w1.heap.size, 1, none⟩ (.int .i64 s.hi)) = wz at *
          have B2 := Lib.hid B2_
          clear B2_
          have B3 := Lib.hid B3_
          clear B3_
          have B5 := Lib.hid B5_
          clear B5_
          have HW := Lib.hid HW_
          clear HW_
          obtain ⟨lB2, cB2, fB2⟩ := B2.out
          obtain ⟨lB3, cB3, fB3⟩ := B3.out
          obtain ⟨lB5, cB5, fB5⟩ := B5.out
          go_wp2
          go_roundw
          case rel => exact ⟨k + 1, s, by omega, by go_num, HJ.out.symm, B2.out, B3.out, HW.out⟩
          case measure => simp [intOf]; omega
        case false =>
          have HJ : Hid (joinL (ps.take (k + 1)) = (⟨if s.lo < out.lo then s.lo else out.lo, if out.hi < s.hi then s.hi else out.hi⟩ : Sp)) := Lib.hid (HT.out.trans (by simp [joinStep, hsn, hon]))
          clear hsn hon
          go_upto_region 9 with (fail)
          generalize (if s.lo < out.lo then s.lo else out.lo) = m1 at *
          generalize (if out.hi < s.hi then s.hi else out.hi) = m2 at *
          have B2_ : Box ((w3.setCell ⟨w1.heap.size, 0, none⟩ (.int .i64 m1)).setCell ⟨w1.heap.size, 1, none⟩ (.int .i64 m2)) (w.heap.size) #[.int .i64 0, .int .i64 0] := by simpa using ((B2.out.other (p := ⟨w1.heap.size, 0, none⟩) (.int .i64 m1) (by first | assumption | (simp; done) | omega)).other (p := ⟨w1.heap.size, 1, none⟩) (.int .i64 m2) (by first | assumption | (simp; done) | omega))
          have B3_ : Box ((w3.setCell ⟨w1.heap.size, 0, none⟩ (.int .i64 m1)).setCell ⟨w1.heap.size, 1, none⟩ (.int .i64 m2)) (w1.heap.size) #[(.int .i64 m1), (.int .i64 m2)] := by simpa using ((B3.out.set 0 (.int .i64 m1)).set 1 (.int .i64 m2))
          have B5_ : Box ((w3.setCell ⟨w1.heap.size, 0, none⟩ (.int .i64 m1)).setCell ⟨w1.heap.size, 1, none⟩ (.int .i64 m2)) (wr.heap.size) #[.int .i64 s.lo, .int .i64 s.hi] := by simpa using ((B5.out.other (p := ⟨w1.heap.size, 0, none⟩) (.int .i64 m1) (by first | assumption | (simp; done) | omega)).other (p := ⟨w1.heap.size, 1, none⟩) (.int .i64 m2) (by first | assumption | (simp; done) | omega))
          have HW_ : Below w.heap.size w ((w3.setCell ⟨w1.heap.size, 0, none⟩ (.int .i64 m1)).setCell ⟨w1.heap.size, 1, none⟩ (.int .i64 m2)) := ((HW.out.setCell (p := ⟨w1.heap.size, 0, none⟩) (by first | assumption | omega | (have := HW.out.size; omega) | (simp; omega)) (.int .i64 m1)).setCell (p := ⟨w1.heap.size, 1, none⟩) (by first | assumption | omega | (have := HW.out.size; omega) | (simp; omega)) (.int .i64 m2))
          clear lB2 cB2 fB2 lB3 cB3 fB3 lB5 cB5 fB5
          clear B2 B3 B5 HW
          generalize ((w3.setCell ⟨w1.heap.size, 0, none⟩ (.int .i64 m1)).setCell ⟨w1.heap.size, 1, none⟩ (.int .i64 m2)) = wz at *
          have B2 := Lib.hid B2_
          clear B2_
          have B3 := Lib.hid B3_
          clear B3_
          have B5 := Lib.hid B5_
          clear B5_
          have HW := Lib.hid HW_
          clear HW_
          obtain ⟨lB2, cB2, fB2⟩ := B2.out
          obtain ⟨lB3, cB3, fB3⟩ := B3.out
          obtain ⟨lB5, cB5, fB5⟩ := B5.out
          go_wp2
          go_roundw
          case rel => exact ⟨k + 1, ⟨m1, m2⟩, by omega, by go_num, HJ.out.symm, B2.out, B3.out, HW.out⟩
          case measure => simp [intOf]; omega
    · obtain rfl : k = n := by omega
      have HJ := Lib.hid (show out = joinL ps by rw [HO.out, List.take_of_length_le (by rw [G1.out]; omega)])
      clear hlt
      go_wp2
      exact bodyPost_ret (v := .agg #[.int .i64 out.lo, .int .i64 out.hi]) (by simp [results, Try.results14, go_sem, *]) rfl ⟨by rw [HJ.out], (HW.out.setCell (by simp) _).setCell (by simp) _⟩

set_option maxHeartbeats 6400000 in
theorem refJoin {w : World} {v : Value} {ps : List Sp} (hv : Spans w v ps) : Calls Try.prog 15 #[v] w fun e w' => e = .returned (joinL ps).val ∧ Below w.heap.size w w' := by
  obtain ⟨a, c, b, o, rfl, hc, hm, hn, ha, hx⟩ := hv.parts
  have HV := Lib.hid hv
  have HA := Lib.hid ha
  have HX := Lib.hid hx
  clear hv ha hx
  generalize H1 : ps.length = n at *
  have G1 := Lib.hid H1
  clear H1
  unfold Sp.val
  go_enter Try.func15, Try.ntmps15
  go_upto_region 1 with (fail)
  have B2 : Hid (Box (w.alloc (.cells #[.int .i64 0, .int .i64 0] 23)) (w.heap.size) #[.int .i64 0, .int .i64 0]) := Lib.hid (by simpa using (Box.new w #[.int .i64 0, .int .i64 0] 23))
  have HW : Hid (Below w.heap.size w (w.alloc (.cells #[.int .i64 0, .int .i64 0] 23))) := Lib.hid ((Below.refl _ _).alloc (Nat.le_refl _) _)
  generalize (w.alloc (.cells #[.int .i64 0, .int .i64 0] 23)) = wv at *
  obtain ⟨lB2, cB2, fB2⟩ := B2.out
  go_wp2_with fail
  refine refNone.mono ?_
  rintro e w1 ⟨rfl, hb1⟩
  clear lB2 cB2 fB2
  replace B2 := Lib.hid (B2.out.later hb1)
  replace HW := Lib.hid (HW.out.trans (hb1.mono HW.out.size))
  clear hb1
  obtain ⟨lB2, cB2, fB2⟩ := B2.out
  unfold Sp.val
  go_upto_region 2 with (fail)
  have Z1 := lB2
  have nB3B2 : w1.heap.size ≠ w.heap.size := fun e => by have := lB2; omega
  have nB2B3 : w.heap.size ≠ w1.heap.size := fun e => nB3B2 e.symm
  have B2_ : Box (w1.alloc (.cells #[.int .i64 0, .int .i64 (-1)] 23)) (w.heap.size) #[.int .i64 0, .int .i64 0] := by simpa using (B2.out.alloc _)
  have B3_ : Box (w1.alloc (.cells #[.int .i64 0, .int .i64 (-1)] 23)) (w1.heap.size) #[.int .i64 0, .int .i64 (-1)] := by simpa using (Box.new w1 #[.int .i64 0, .int .i64 (-1)] 23)
  have HW_ : Below w.heap.size w (w1.alloc (.cells #[.int .i64 0, .int .i64 (-1)] 23)) := (HW.out.alloc (by first | exact Nat.le_refl _ | exact HW.out.size | (simp only [World.size_alloc, World.size_setCell]; have := HW.out.size; omega)) _)
  clear lB2 cB2 fB2
  clear B2 HW
  generalize (w1.alloc (.cells #[.int .i64 0, .int .i64 (-1)] 23)) = wl at *
  have B2 := Lib.hid B2_
  clear B2_
  have B3 := Lib.hid B3_
  clear B3_
  have HW := Lib.hid HW_
  clear HW_
  obtain ⟨lB2, cB2, fB2⟩ := B2.out
  obtain ⟨lB3, cB3, fB3⟩ := B3.out
  go_wp2
  go_loopw [4] (fun i wr => ∃ (k : Nat) (out : Sp), k ≤ n ∧ i = .int .i64 k ∧ out = joinL (ps.take k) ∧ Box wr w.heap.size #[.int .i64 0, .int .i64 0] ∧ Box wr w1.heap.size #[.int .i64 out.lo, .int .i64 out.hi] ∧ Below w.heap.size w wr) (fun i _ => n - (intOf i).toNat)
  case atStart => exact ⟨0, ⟨0, -1⟩, by omega, rfl, rfl, B2.out, B3.out, HW.out⟩
  case round =>
    obtain ⟨k, out, hk, rfl, ho, h2, h3, hb⟩ := hrel
    clear lB2 cB2 fB2 lB3 cB3 fB3
    clear B2 B3 HW
    have HO := Lib.hid ho
    have B2 := Lib.hid h2
    have B3 := Lib.hid h3
    have HW := Lib.hid hb
    clear ho h2 h3 hb


    obtain ⟨lB2, cB2, fB2⟩ := B2.out
    obtain ⟨lB3, cB3, fB3⟩ := B3.out
    by_cases hlt : k < n
    · obtain ⟨rfl, hbw⟩ := HA.out (by omega)
      obtain ⟨s, hs⟩ : ∃ s, ps[k]? = some s := ⟨_, List.getElem?_eq_getElem (by rw [G1.out]; exact hlt)⟩
      obtain ⟨h1, h2⟩ := HX.out k s hs
      have c1 := (HW.out.cell hbw).trans h1
      have c2 := (HW.out.cell hbw).trans h2
      have HT := Lib.hid (show joinL (ps.take (k + 1)) = joinStep out s by rw [List.take_add_one, hs, HO.out]; exact joinL_snoc _ _)
      clear hs h1 h2
      go_upto_region 6 with (fail)
      have nB5B2 : wr.heap.size ≠ w.heap.size := fun e => by have := lB2; omega
      have nB2B5 : w.heap.size ≠ wr.heap.size := fun e => nB5B2 e.symm
      have nB5B3 : wr.heap.size ≠ w1.heap.size := fun e => by have := lB3; omega
      have nB3B5 : w1.heap.size ≠ wr.heap.size := fun e => nB5B3 e.symm
      have B2_ : Box (wr.alloc (.cells #[.int .i64 s.lo, .int .i64 s.hi] 23)) (w.heap.size) #[.int .i64 0, .int .i64 0] := by simpa using (B2.out.alloc _)
      have B3_ : Box (wr.alloc (.cells #[.int .i64 s.lo, .int .i64 s.hi] 23)) (w1.heap.size) #[.int .i64 out.lo, .int .i64 out.hi] := by simpa using (B3.out.alloc _)
      have B5_ : Box (wr.alloc (.cells #[.int .i64 s.lo, .int .i64 s.hi] 23)) (wr.heap.size) #[.int .i64 s.lo, .int .i64 s.hi] := by simpa using (Box.new wr #[.int .i64 s.lo, .int .i64 s.hi] 23)
      have HW_ : Below w.heap.size w (wr.alloc (.cells #[.int .i64 s.lo, .int .i64 s.hi] 23)) := (HW.out.alloc (by first | exact Nat.le_refl _ | exact HW.out.size | (simp only [World.size_alloc, World.size_setCell]; have := HW.out.size; omega)) _)
      clear lB2 cB2 fB2 lB3 cB3 fB3
      clear B2 B3 HW
      generalize (wr.alloc (.cells #[.int .i64 s.lo, .int .i64 s.hi] 23)) = wk at *
      have B2 := Lib.hid B2_
      clear B2_
      have B3 := Lib.hid B3_
      clear B3_
      have B5 := Lib.hid B5_
      clear B5_
      have HW := Lib.hid HW_
      clear HW_
      obtain ⟨lB2, cB2, fB2⟩ := B2.out
      obtain ⟨lB3, cB3, fB3⟩ := B3.out
      obtain ⟨lB5, cB5, fB5⟩ := B5.out
      clear c1 c2
      go_wp2_with fail
      refine (refEmpty s).mono ?_
      rintro e w2 ⟨rfl, hb2⟩
      clear lB2 cB2 fB2 lB3 cB3 fB3 lB5 cB5 fB5
      replace B2 := Lib.hid (B2.out.later hb2)
      replace B3 := Lib.hid (B3.out.later hb2)
      replace B5 := Lib.hid (B5.out.later hb2)
      replace HW := Lib.hid (HW.out.trans (hb2.mono HW.out.size))
      clear hb2
      obtain ⟨lB2, cB2, fB2⟩ := B2.out
      obtain ⟨lB3, cB3, fB3⟩ := B3.out
      obtain ⟨lB5, cB5, fB5⟩ := B5.out
      cases hsn : s.none
      case true =>
        have HJ : Hid (joinL (ps.take (k + 1)) = out) := Lib.hid (HT.out.trans (by simp [joinStep, hsn]))
        clear hsn
        go_wp2
        go_roundw
        case rel => exact ⟨k + 1, out, by omega, by go_num, HJ.out.symm, B2.out, B3.out, HW.out⟩
        case measure => simp [intOf]; omega
      case false =>
        go_wp2_with fail
        refine (refEmpty out).mono ?_
        rintro e w3 ⟨rfl, hb3⟩
        clear lB2 cB2 fB2 lB3 cB3 fB3 lB5 cB5 fB5
        replace B2 := Lib.hid (B2.out.later hb3)
        replace B3 := Lib.hid (B3.out.later hb3)
        replace B5 := Lib.hid (B5.out.later hb3)
        replace HW := Lib.hid (HW.out.trans (hb3.mono HW.out.size))
        clear hb3
        obtain ⟨lB2, cB2, fB2⟩ := B2.out
        obtain ⟨lB3, cB3, fB3⟩ := B3.out
        obtain ⟨lB5, cB5, fB5⟩ := B5.out
        cases hon : out.none
        case true =>
          have HJ : Hid (joinL (ps.take (k + 1)) = s) := Lib.hid (HT.out.trans (by simp [joinStep, hsn, hon]))
          clear hsn hon
          go_upto_region 9 with (fail)
          have B2_ : Box ((w3.setCell ⟨w1.heap.size, 0, none⟩ (.int .i64 s.lo)).setCell ⟨w1.heap.size, 1, none⟩ (.int .i64 s.hi)) (w.heap.size) #[.int .i64 0, .int .i64 0] := by simpa using ((B2.out.other (p := ⟨w1.heap.size, 0, none⟩) (.int .i64 s.lo) (by first | assumption | (simp; done) | omega)).other (p := ⟨w1.heap.size, 1, none⟩) (.int .i64 s.hi) (by first | assumption | (simp; done) | omega))
          have B3_ : Box ((w3.setCell ⟨w1.heap.size, 0, none⟩ (.int .i64 s.lo)).setCell ⟨w1.heap.size, 1, none⟩ (.int .i64 s.hi)) (w1.heap.size) #[(.int .i64 s.lo), (.int .i64 s.hi)] := by simpa using ((B3.out.set 0 (.int .i64 s.lo)).set 1 (.int .i64 s.hi))
          have B5_ : Box ((w3.setCell ⟨w1.heap.size, 0, none⟩ (.int .i64 s.lo)).setCell ⟨w1.heap.size, 1, none⟩ (.int .i64 s.hi)) (wr.heap.size) #[.int .i64 s.lo, .int .i64 s.hi] := by simpa using ((B5.out.other (p := ⟨w1.heap.size, 0, none⟩) (.int .i64 s.lo) (by first | assumption | (simp; done) | omega)).other (p := ⟨w1.heap.size, 1, none⟩) (.int .i64 s.hi) (by first | assumption | (simp; done) | omega))
          have HW_ : Below w.heap.size w ((w3.setCell ⟨w1.heap.size, 0, none⟩ (.int .i64 s.lo)).setCell ⟨w1.heap.size, 1, none⟩ (.int .i64 s.hi)) := ((HW.out.setCell (p := ⟨w1.heap.size, 0, none⟩) (by first | assumption | omega | (have := HW.out.size; omega) | (simp; omega)) (.int .i64 s.lo)).setCell (p := ⟨w1.heap.size, 1, none⟩) (by first | assumption | omega | (have := HW.out.size; omega) | (simp; omega)) (.int .i64 s.hi))
          clear lB2 cB2 fB2 lB3 cB3 fB3 lB5 cB5 fB5
          clear B2 B3 B5 HW
          generalize ((w3.setCell ⟨w1.heap.size, 0, none⟩ (.int .i64 s.lo)).setCell ⟨w1.heap.size, 1, none⟩ (.int .i64 s.hi)) = wz at *
          have B2 := Lib.hid B2_
          clear B2_
          have B3 := Lib.hid B3_
          clear B3_
          have B5 := Lib.hid B5_
          clear B5_
          have HW := Lib.hid HW_
          clear HW_
          obtain ⟨lB2, cB2, fB2⟩ := B2.out
          obtain ⟨lB3, cB3, fB3⟩ := B3.out
          obtain ⟨lB5, cB5, fB5⟩ := B5.out
          have d1 : decide (s.lo < s.lo) = false := by simp
          have d2 : decide (s.hi < s.hi) = false := by simp
          go_wp2
          go_roundw
          case rel => exact ⟨k + 1, s, by omega, by go_num, HJ.out.symm, B2.out, B3.out, HW.out⟩
          case measure => simp [intOf]; omega
        case false =>
          have HJ : Hid (joinL (ps.take (k + 1)) = (⟨if s.lo < out.lo then s.lo else out.lo, if out.hi < s.hi then s.hi else out.hi⟩ : Sp)) := Lib.hid (HT.out.trans (by simp [joinStep, hsn, hon]))
          clear hsn hon
          by_cases q1 : s.lo < out.lo
          · rw [if_pos q1] at HJ
            have d1 : decide (s.lo < out.lo) = true := by simpa using q1
            clear q1
            go_upto_region 11 with (fail)
            have B2_ : Box (w3.setCell ⟨w1.heap.size, 0, none⟩ (.int .i64 s.lo)) (w.heap.size) #[.int .i64 0, .int .i64 0] := by simpa using (B2.out.other (p := ⟨w1.heap.size, 0, none⟩) (.int .i64 s.lo) (by first | assumption | (simp; done) | omega))
            have B3_ : Box (w3.setCell ⟨w1.heap.size, 0, none⟩ (.int .i64 s.lo)) (w1.heap.size) #[(.int .i64 s.lo), .int .i64 out.hi] := by simpa using (B3.out.set 0 (.int .i64 s.lo))
            have B5_ : Box (w3.setCell ⟨w1.heap.size, 0, none⟩ (.int .i64 s.lo)) (wr.heap.size) #[.int .i64 s.lo, .int .i64 s.hi] := by simpa using (B5.out.other (p := ⟨w1.heap.size, 0, none⟩) (.int .i64 s.lo) (by first | assumption | (simp; done) | omega))
            have HW_ : Below w.heap.size w (w3.setCell ⟨w1.heap.size, 0, none⟩ (.int .i64 s.lo)) := (HW.out.setCell (p := ⟨w1.heap.size, 0, none⟩) (by first | assumption | omega | (have := HW.out.size; omega) | (simp; omega)) (.int .i64 s.lo))
            clear lB2 cB2 fB2 lB3 cB3 fB3 lB5 cB5 fB5
            clear B2 B3 B5 HW
            generalize (w3.setCell ⟨w1.heap.size, 0, none⟩ (.int .i64 s.lo)) = wz at *
            have B2 := Lib.hid B2_
            clear B2_
            have B3 := Lib.hid B3_
            clear B3_
            have B5 := Lib.hid B5_
            clear B5_
            have HW := Lib.hid HW_
            clear HW_
            obtain ⟨lB2, cB2, fB2⟩ := B2.out
            obtain ⟨lB3, cB3, fB3⟩ := B3.out
            obtain ⟨lB5, cB5, fB5⟩ := B5.out
            clear d1
            by_cases q2 : out.hi < s.hi
            · rw [if_pos q2] at HJ
              have d2 : decide (out.hi < s.hi) = true := by simpa using q2
              clear q2
              go_upto_region 4 with (fail)
              have B2_ : Box (wz.setCell ⟨w1.heap.size, 1, none⟩ (.int .i64 s.hi)) (w.heap.size) #[.int .i64 0, .int .i64 0] := by simpa using (B2.out.other (p := ⟨w1.heap.size, 1, none⟩) (.int .i64 s.hi) (by first | assumption | (simp; done) | omega))
              have B3_ : Box (wz.setCell ⟨w1.heap.size, 1, none⟩ (.int .i64 s.hi)) (w1.heap.size) #[(.int .i64 s.lo), (.int .i64 s.hi)] := by simpa using (B3.out.set 1 (.int .i64 s.hi))
              have B5_ : Box (wz.setCell ⟨w1.heap.size, 1, none⟩ (.int .i64 s.hi)) (wr.heap.size) #[.int .i64 s.lo, .int .i64 s.hi] := by simpa using (B5.out.other (p := ⟨w1.heap.size, 1, none⟩) (.int .i64 s.hi) (by first | assumption | (simp; done) | omega))
              have HW_ : Below w.heap.size w (wz.setCell ⟨w1.heap.size, 1, none⟩ (.int .i64 s.hi)) := (HW.out.setCell (p := ⟨w1.heap.size, 1, none⟩) (by first | assumption | omega | (have := HW.out.size; omega) | (simp; omega)) (.int .i64 s.hi))
              clear lB2 cB2 fB2 lB3 cB3 fB3 lB5 cB5 fB5
              clear B2 B3 B5 HW
              generalize (wz.setCell ⟨w1.heap.size, 1, none⟩ (.int .i64 s.hi)) = wy at *
              have B2 := Lib.hid B2_
              clear B2_
              have B3 := Lib.hid B3_
              clear B3_
              have B5 := Lib.hid B5_
              clear B5_
              have HW := Lib.hid HW_
              clear HW_
              obtain ⟨lB2, cB2, fB2⟩ := B2.out
              obtain ⟨lB3, cB3, fB3⟩ := B3.out
              obtain ⟨lB5, cB5, fB5⟩ := B5.out
              clear d2
              go_wp2
              go_roundw
              case rel => exact ⟨k + 1, ⟨s.lo, s.hi⟩, by omega, by go_num, HJ.out.symm, B2.out, B3.out, HW.out⟩
              case measure => simp [intOf]; omega
            · rw [if_neg q2] at HJ
              have d2 : decide (out.hi < s.hi) = false := by simpa using q2
              clear q2
              go_wp2
              go_roundw
              case rel => exact ⟨k + 1, ⟨s.lo, out.hi⟩, by omega, by go_num, HJ.out.symm, B2.out, B3.out, HW.out⟩
              case measure => simp [intOf]; omega
          · rw [if_neg q1] at HJ
            have d1 : decide (s.lo < out.lo) = false := by simpa using q1
            clear q1
            go_upto_region 11 with (fail)
            clear d1
            by_cases q2 : out.hi < s.hi
            · rw [if_pos q2] at HJ
              have d2 : decide (out.hi < s.hi) = true := by simpa using q2
              clear q2
              go_upto_region 4 with (fail)


              have B2_ : Box (w3.setCell ⟨w1.heap.size, 1, none⟩ (.int .i64 s.hi)) (w.heap.size) #[.int .i64 0, .int .i64 0] := by simpa using (B2.out.other (p := ⟨w1.heap.size, 1, none⟩) (.int .i64 s.hi) (by first | assumption | (simp; done) | omega))
              have B3_ : Box (w3.setCell ⟨w1.heap.size, 1, none⟩ (.int .i64 s.hi)) (w1.heap.size) #[.int .i64 out.lo, (.int .i64 s.hi)] := by simpa using (B3.out.set 1 (.int .i64 s.hi))
              have B5_ : Box (w3.setCell ⟨w1.heap.size, 1, none⟩ (.int .i64 s.hi)) (wr.heap.size) #[.int .i64 s.lo, .int .i64 s.hi] := by simpa using (B5.out.other (p := ⟨w1.heap.size, 1, none⟩) (.int .i64 s.hi) (by first | assumption | (simp; done) | omega))
              have HW_ : Below w.heap.size w (w3.setCell ⟨w1.heap.size, 1, none⟩ (.int .i64 s.hi)) := (HW.out.setCell (p := ⟨w1.heap.size, 1, none⟩) (by first | assumption | omega | (have := HW.out.size; omega) | (simp; omega)) (.int .i64 s.hi))
              clear lB2 cB2 fB2 lB3 cB3 fB3 lB5 cB5 fB5
              clear B2 B3 B5 HW
              generalize (w3.setCell ⟨w1.heap.size, 1, none⟩ (.int .i64 s.hi)) = wy at *
              have B2 := Lib.hid B2_
              clear B2_
              have B3 := Lib.hid B3_
              clear B3_
              have B5 := Lib.hid B5_
              clear B5_
              have HW := Lib.hid HW_
              clear HW_
              obtain ⟨lB2, cB2, fB2⟩ := B2.out
              obtain ⟨lB3, cB3, fB3⟩ := B3.out
              obtain ⟨lB5, cB5, fB5⟩ := B5.out
              clear d2
              go_wp2
              go_roundw
              case rel => exact ⟨k + 1, ⟨out.lo, s.hi⟩, by omega, by go_num, HJ.out.symm, B2.out, B3.out, HW.out⟩
              case measure => simp [intOf]; omega
            · rw [if_neg q2] at HJ
              have d2 : decide (out.hi < s.hi) = false := by simpa using q2
              clear q2
              go_wp2
              go_roundw
              case rel => exact ⟨k + 1, ⟨out.lo, out.hi⟩, by omega, by go_num, HJ.out.symm, B2.out, B3.out, HW.out⟩
              case measure => simp [intOf]; omega
    · obtain rfl : k = n := by omega
      have HJ := Lib.hid (show out = joinL ps by rw [HO.out, List.take_of_length_le (by rw [G1.out]; omega)])
      clear hlt
      go_wp2
      exact bodyPost_ret (v := .agg #[.int .i64 out.lo, .int .i64 out.hi]) (by simp [results, Try.results15, go_sem, *]) rfl ⟨by rw [HJ.out], (HW.out.setCell (by simp) _).setCell (by simp) _⟩
end Go.Proofs.Ytppnmdplojemcaa
