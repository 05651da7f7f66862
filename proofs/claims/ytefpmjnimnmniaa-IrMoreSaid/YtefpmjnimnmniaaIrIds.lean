/- ir.Ids. -/
import Derived.Test.YtefpmjnimnmniaaRange
namespace Go.Proofs.Ytefpmjnimnmniaa
set_option linter.unusedSimpArgs false
set_option linter.unusedVariables false
open Go.RowKit Go.Shelf

theorem check_ok {f : FuncD} (h : checkF f = 0) : formB f = true ∧ idsF f = true := by
  unfold checkF at h
  split at h
  · rename_i h2; simpa using h2
  · cases h
theorem vals_in64 {f : FuncD} (h : checkF f = 0) : ∀ p ∈ valsF f, In64 p.1 := by
  obtain ⟨h1, h2⟩ := check_ok h
  have hn : f.params.length ≤ 16 := by
    unfold formB headOk at h1
    simp only [Bool.and_eq_true, decide_eq_true_eq] at h1
    exact h1.1.1.1.1.1.1.1.1.1
  intro p hp
  unfold idsF idsB at h2
  rw [Bool.and_eq_true, List.all_eq_true] at h2
  unfold valsF at hp
  rcases List.mem_append.1 hp with hp | hp
  · have h3 : p.1 ∈ (parT f.params).map (·.1) := List.mem_map.2 ⟨p, hp, rfl⟩
    rw [parT_keys] at h3
    obtain ⟨i, hi, he⟩ := List.mem_map.1 h3
    rw [List.mem_range] at hi
    rw [← he]
    exact ⟨by omega, by omega⟩
  · have := h2.2 p hp
    simp at this
    exact ⟨by omega, by omega⟩
theorem vals_nodup {f : FuncD} (h : checkF f = 0) : ((valsF f).map (·.1)).Nodup := by
  have h2 := (check_ok h).2
  unfold idsF idsB at h2
  rw [Bool.and_eq_true, decide_eq_true_eq] at h2
  exact h2.1
theorem nodup_len : ∀ {xs ys : List Int}, xs.Nodup → ys.Nodup → (∀ x, x ∈ xs ↔ x ∈ ys) → xs.length = ys.length := by
  intro xs ys hx hy h
  have h1 := rise_ext (sortI_rise hx) (sortI_rise hy) (fun x => by rw [(sortI_perm xs).mem_iff, (sortI_perm ys).mem_iff]; exact h x)
  have h2 := congrArg List.length h1
  rw [(sortI_perm xs).length_eq, (sortI_perm ys).length_eq] at h2
  exact h2
theorem sub_len : ∀ (S K : List Int), S.Nodup → (∀ x ∈ S, x ∈ K) → S.length ≤ K.length
  | [], _, _, _ => Nat.zero_le _
  | x :: S, K, hnd, h => by
    rw [List.nodup_cons] at hnd
    have hx := h x (by simp)
    have h1 := sub_len S (K.erase x) hnd.2 (fun y hy => by
      have hne : y ≠ x := fun e => hnd.1 (e ▸ hy)
      exact (List.mem_erase_of_ne hne).2 (h y (by simp [hy])))
    rw [List.length_erase_of_mem hx] at h1
    have : 0 < K.length := List.length_pos_of_mem hx
    rw [List.length_cons]; omega
theorem Came.keep {w w' : World} {b r n : Nat} {D : DataW Unit} {T : List (Int × Int)} {S : List Int} {cnt : Nat} (h : Came w b r n D T S cnt) (hb : w'.heap[b]? = w.heap[b]?) (hr : w'.heap[r]? = w.heap[r]?) : Came w' b r n D T S cnt := by
  obtain ⟨hnd, left, ⟨es, clock, since, seen, c0, h1, F, h2, h3, h4, h5⟩, hl⟩ := h
  exact ⟨hnd, left, ⟨es, clock, since, seen, c0, hb.trans h1, F, h2, h3, hr.trans h4, h5⟩, hl⟩
theorem Came.le {w : World} {b r n : Nat} {D : DataW Unit} {T : List (Int × Int)} {S : List Int} {cnt : Nat} (h : Came w b r n D T S cnt) : S.length ≤ T.length := by
  obtain ⟨hnd, left, _, hl⟩ := h
  have := sub_len S (T.map (·.1)) hnd (fun x hx => (hl x).1.2 (.inl hx))
  rwa [List.length_map] at this
theorem Came.left_eq {w : World} {b r n : Nat} {D : DataW Unit} {T : List (Int × Int)} {S : List Int} {cnt : Nat} (h : Came w b r n D T S cnt) : w.rangeLeft b r = cnt := by
  obtain ⟨_, left, hr, _⟩ := h
  exact hr.left_eq

/-- What Ids hands back. -/
def IdsL (f : FuncD) (L : List Int) : Prop := (checkF f = 0 → Rise L ∧ (∀ y, y ∈ L ↔ y ∈ (valsF f).map (·.1)) ∧ L.length = (valsF f).length) ∧ (checkF f ≠ 0 → L = [])
def IrIdsR (f : FuncD) (w : World) (e : Ending) (w' : World) : Prop := ∃ u L, e = .returned (.tuple #[u, .int .i64 (checkF f)]) ∧ New 3 w w' u L ∧ Below w.heap.size w w' ∧ IdsL f L

set_option maxHeartbeats 6400000 in
theorem irIds {w : World} {v : Value} {f : FuncD} (hv : FuncV w v f) : Calls Try.prog 51 #[v] w (IrIdsR f w) := by
  have HV := Lib.hid hv
  obtain ⟨ap, cp, ab, cb, rfl, hp, ha, hc, hB⟩ := hv.form
  clear hp ha hc hB hv
  go_enter Try.func51, Try.ntmps51
  go_upto_region 1 with (fail)
  have B1 : Hid (Box (w.alloc (.cells #[.slice ap f.params.length cp, .int .i64 f.arrays, .int .i64 f.cells, .slice ab f.blocks.length cb] 30)) (w.heap.size) #[.slice ap f.params.length cp, .int .i64 f.arrays, .int .i64 f.cells, .slice ab f.blocks.length cb]) := Lib.hid (by simpa using (Box.new w #[.slice ap f.params.length cp, .int .i64 f.arrays, .int .i64 f.cells, .slice ab f.blocks.length cb] 30))
  have HW : Hid (Below w.heap.size w (w.alloc (.cells #[.slice ap f.params.length cp, .int .i64 f.arrays, .int .i64 f.cells, .slice ab f.blocks.length cb] 30))) := Lib.hid ((Below.refl _ _).alloc (Nat.le_refl _) _)
  generalize (w.alloc (.cells #[.slice ap f.params.length cp, .int .i64 f.arrays, .int .i64 f.cells, .slice ab f.blocks.length cb] 30)) = wv at *
  obtain ⟨lB1, cB1, fB1⟩ := B1.out
  go_wp2_with fail
  refine (irOpen (HV.out.below HW.out)).mono ?_
  rintro e w2 ⟨hb2, m, rfl, hgood, hbad⟩
  have hsz0 := HW.out.size
  clear lB1 cB1 fB1
  replace B1 := Lib.hid (B1.out.later hb2)
  replace HW := Lib.hid (HW.out.trans (hb2.mono HW.out.size))
  clear hb2
  obtain ⟨lB1, cB1, fB1⟩ := B1.out
  clear lB1 cB1 fB1
  by_cases hc0 : checkF f = 0
  · obtain ⟨bm, rfl, hm, hbm⟩ := hgood hc0
    have HC0 := Lib.hid hc0
    have hvl := valsF_le (check_ok hc0).1
    obtain ⟨D, hown, hhas⟩ := hm.owns (vals_in64 hc0) (by omega)
    have HOWN := Lib.hid hown
    have HHAS := Lib.hid hhas
    have HLT := Lib.hid (⟨hm.lt, by omega⟩ : bm < w2.heap.size ∧ w.heap.size ≤ bm)
    have HVL := Lib.hid hvl
    clear hm hgood hbad hc0 hown hhas hbm hvl
    go_wp2_with (at_range; refine Go.wpList_range_own w2 rfl _ 124 rfl 3 3 intKeys Try.underlying124 anyElem bm (valsF f).length D rfl HOWN.out ?_; intro w3 hrg0 hg0 hs0)
    have HC : Hid (Came w3 bm w2.heap.size (valsF f).length D (valsF f) [] (Go.Maps.size D)) := Lib.hid ⟨by simp, _, hrg0, fun x => ⟨by rw [HHAS.out x]; simp, fun h => by simp at h⟩⟩
    have HW3 := Lib.hid (HW.out.trans ((Below.refl w2.heap.size w2).grown hg0 (Nat.le_refl _) (by simp) |>.mono HW.out.size))
    have HO : Hid (Own w3 w.heap.size [bm, w2.heap.size] 3 1 (.slice none 0 0) 0 []) := Lib.hid Own.nil
    have HRB := Lib.hid (⟨by have := HLT.out.1; omega, by omega⟩ : bm < w3.heap.size ∧ w2.heap.size < w3.heap.size)
    obtain ⟨r, hr⟩ : ∃ r, r = w2.heap.size := ⟨_, rfl⟩
    have HRW := Lib.hid (show w.heap.size ≤ r by rw [hr]; exact HW.out.size)
    rw [← hr] at HC HO HRB
    simp only [← hr]
    clear hrg0 hg0 hs0 hr
    go_frame
    go_loopw [6] (fun u wr => ∃ (S : List Int) (cnt : Nat), Came wr bm r (valsF f).length D (valsF f) S cnt ∧ Own wr w.heap.size [bm, r] 3 1 u S.length (S.map (.int .i64)) ∧ (∀ x ∈ S, In64 x) ∧ Below w.heap.size w wr ∧ bm < wr.heap.size ∧ r < wr.heap.size) (fun _ wr => wr.rangeLeft bm r)
    case atStart => exact ⟨[], _, HC.out, HO.out, by simp, HW3.out, HRB.out⟩
    case round =>
      obtain ⟨S, cnt, hC, hO, hall, hW, hb1, hr1⟩ := hrel
      have hSl : S.length ≤ 4112 := Nat.le_trans hC.le HVL.out
      obtain ⟨oa, oc, rfl⟩ := hO.form
      replace HC := Lib.hid hC
      replace HO := Lib.hid hO
      have HALL := Lib.hid hall
      replace HW := Lib.hid hW
      have HBR := Lib.hid (⟨hb1, hr1⟩ : bm < wr.heap.size ∧ r < wr.heap.size)
      clear hC hO hall hW hb1 hr1
      go_wp2_with (at_next; refine wpList_next_came rfl _ rfl rfl HC.out ?_ ?_)
      · intro hdone
        have HD : Hid (∀ x, x ∈ (valsF f).map (·.1) ↔ x ∈ S) := Lib.hid (fun x => by rw [← hdone x]; simp)
        clear hdone
        have HND := Lib.hid HC.out.1
        go_wp2_with (go_at_call 85; refine (sortOwn HO.out.row (by omega) HW.out.size).mono ?_; rintro e w5 ⟨rfl, hO5, hb5⟩; have HO5 := Lib.hid hO5; have HB5 := Lib.hid hb5; clear hO5 hb5)
        go_ret2
        have hlen : (sortI S).length = S.length := (sortI_perm S).length_eq
        refine ⟨_, sortI S, rfl, ⟨by rw [hlen]; exact HO5.out, by rw [hlen]; omega, fun y hy => HALL.out y ((sortI_perm S).mem_iff.1 hy)⟩, HW.out.trans HB5.out, fun _ => ⟨sortI_rise HND.out, fun y => by rw [(sortI_perm S).mem_iff, HD.out y], ?_⟩, fun h => absurd HC0.out h⟩
        rw [hlen]
        have h3 := nodup_len HND.out (vals_nodup HC0.out) (fun y => (HD.out y).symm)
        rw [h3, List.length_map]
      · intro x c w4 cnt4 hx64 hC4 hlt4 hg4 hs4 hen
        have HO4 : Hid (Own w4 w.heap.size [bm, r] 3 1 (.slice oa S.length oc) S.length (S.map (.int .i64))) := Lib.hid (HO.out.keep fun g hg => hg4.block g (HO.out.lt hg).1 (fun e => HO.out.free g hg (by cases e; simp)))
        have HC4 := Lib.hid hC4
        have HL4 := Lib.hid hlt4
        have HLE := Lib.hid HC.out.left_eq
        have HW4 : Hid (Below w.heap.size w w4) := Lib.hid (HW.out.trans ((Below.refl _ _).grown hg4 HW.out.size fun k hk => by cases hk; exact HRW.out))
        have HB4 : Hid (bm < w4.heap.size ∧ r < w4.heap.size) := Lib.hid (by rw [hs4]; exact HBR.out)
        have HX64 := Lib.hid hx64
        clear hC4 hlt4 hg4 hs4 hx64
        go_wp2_with (at_builtin; refine wpList_own_all rfl _ _ 22 3 rfl elInt rfl rfl (HO4.out.alloc _) (Row.of_box (n := 1) (size := 1) (Box.new _ _ _) rfl (by omega)) (by simp [Value.oneCell']) (by unfold maxLen; omega) (by omega) (by simp; have := HW4.out.size; omega) (by intro b hb; have := HB4.out; simp at hb ⊢; omega) ?_; intro v6 w6 hO6 hH6 hB6; have HO6 := Lib.hid hO6; have HH6 := Lib.hid hH6; have HB6 := Lib.hid hB6; clear hO6 hH6 hB6)
        have hk : ∀ b, b = bm ∨ b = r → w6.heap[b]? = w4.heap[b]? := fun b hb => by
          rw [HH6.out b (by simp; exact hb)]
          have := HB4.out
          exact ((Below.refl w4.heap.size w4).alloc (Nat.le_refl _) _).block b (by omega)
        have HC6 := Lib.hid (HC4.out.keep (hk bm (.inl rfl)) (hk r (.inr rfl)))
        have HS6 : Hid (bm < w6.heap.size ∧ r < w6.heap.size) := Lib.hid (by
          have h1 := HB6.out.size
          have h2 := HC6.out
          have h3 : ∀ b, b = bm ∨ b = r → b < w6.heap.size := fun b hb => by
            have h4 := hk b hb
            have h5 : b < w4.heap.size := by have := HB4.out; omega
            rw [Array.getElem?_eq_getElem h5] at h4
            exact (Array.getElem?_eq_some_iff.1 h4).1
          exact ⟨h3 bm (.inl rfl), h3 r (.inr rfl)⟩)
        clear hk
        go_roundw
        case rel => exact ⟨S ++ [x], cnt4, HC6.out, by rw [List.length_append, List.map_append]; exact HO6.out, fun y hy => by rcases List.mem_append.1 hy with h | h; exact HALL.out y h; simp at h; subst h; exact HX64.out, (HW4.out.alloc (by have := HW4.out.size; omega) _).trans HB6.out, HS6.out⟩
        case measure => rw [HC6.out.left_eq, HLE.out]; exact HL4.out
  · have hm := hbad hc0
    subst hm
    have HC0 := Lib.hid hc0
    clear hgood hbad hc0
    go_wp2_with (at_range; refine wpList_range_nil rfl _ 124 rfl Try.underlying124 rfl ?_)
    have HRN : Hid ((w2.alloc (.mapIter none 0 #[] 0)).heap[w2.heap.size]? = some (.mapIter none 0 #[] 0)) := Lib.hid (by show (w2.heap.push _)[w2.heap.size]? = _; simp)
    replace HW := Lib.hid (HW.out.alloc HW.out.size (.mapIter none 0 #[] 0))
    obtain ⟨r, hr⟩ : ∃ r, r = w2.heap.size := ⟨_, rfl⟩
    rw [← hr] at HRN ⊢
    clear hr B1
    generalize w2.alloc _ = w3 at *
    go_frame
    go_loopw [6] (fun u wr => u = .slice none 0 0 ∧ wr = w3) (fun _ _ => 0)
    case atStart => exact ⟨rfl, rfl⟩
    case round =>
      obtain ⟨rfl, rfl⟩ := hrel
      have hno : wr.ownsRow w.heap.size 3 1 (.slice none 0 0) ([] : List Int).length (([] : List Int).map (.int .i64)) := ⟨by simp, .inl ⟨rfl, rfl⟩⟩
      have HNO := Lib.hid hno
      clear hno
      go_wp2_with (first
        | (at_next; refine wpList_next_nil rfl _ rfl rfl HRN.out ?_)
        | (go_at_call 85; refine (sortOwn HNO.out (by simp) HW.out.size).mono ?_; rintro e w5 ⟨rfl, _, hb5⟩; have HB5 := Lib.hid hb5; clear hb5))
      go_ret2
      exact ⟨_, [], rfl, New.nil, HW.out.trans HB5.out, fun h => absurd h HC0.out, fun _ => rfl⟩
end Go.Proofs.Ytefpmjnimnmniaa
