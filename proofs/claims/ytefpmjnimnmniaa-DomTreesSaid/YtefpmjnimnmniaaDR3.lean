/- The reference's Idoms and Meet. -/
import Derived.Test.YtefpmjnimnmniaaDR2
namespace Go.Proofs.Ytefpmjnimnmniaa
set_option linter.unusedSimpArgs false
set_option linter.unusedVariables false
open Go.RowKit

theorem ints_of_box1 {W : World} {b : Nat} {x : Int} (h : Box W b #[.int .i64 x]) (hx : In64 x) : Ints W (.slice (some ⟨b, 0, none⟩) 1 1) [x] :=
  ⟨Row.of_box (n := 1) (size := 1) h rfl (by omega), by intro z hz; simp at hz; subst hz; exact hx⟩
/-- What the reference says of one block. -/
def RefD (f : FuncD) (b : Nat) (r : Int) : Prop := ((b = 0 ∨ ¬ OverP f b b) → r = -1) ∧ (b ≠ 0 → OverP f b b → ClosUp f [(b : Int)] b f.blocks.length r)
theorem ClosUp.in64 {f : FuncD} {xs : List Int} {gone r : Int} {k : Nat} (h : ClosUp f xs gone k r) (h512 : f.blocks.length ≤ 512) : In64 r := by
  rcases h with ⟨rfl, _⟩ | ⟨m, rfl, hm, _⟩
  · exact ⟨by omega, by omega⟩
  · have := hm.1; exact ⟨by omega, by omega⟩
def RefDs (f : FuncD) (k : Nat) (D : List Int) : Prop := D.length = k ∧ ∀ (j : Nat) (d : Int), D[j]? = some d → RefD f j d ∧ In64 d
theorem RefDs.next {f : FuncD} {k : Nat} {D : List Int} {d : Int} (h : RefDs f k D) (hd : RefD f k d) (h6 : In64 d) : RefDs f (k + 1) (D ++ [d]) := by
  refine ⟨by rw [List.length_append, h.1]; rfl, fun j e hj => ?_⟩
  rw [List.getElem?_append] at hj
  split at hj
  · exact h.2 j e hj
  · rename_i hl
    have h1 := (List.getElem?_eq_some_iff.1 hj).1
    simp at h1
    have h2 : j = k := by have := h.1; omega
    subst h2
    have h3 : j - D.length = 0 := by omega
    rw [h3] at hj
    simp at hj
    subst hj
    exact ⟨hd, h6⟩
set_option maxHeartbeats 12800000 in
set_option maxRecDepth 100000 in
theorem refIdoms {w : World} {v : Value} {f : FuncD} (hv : FuncV w v f) (hf : formB f = true) : Calls Try.prog 39 #[v] w fun e w' => ∃ dv D, e = .returned dv ∧ Ints w' dv D ∧ RefDs f f.blocks.length D ∧ Below w.heap.size w w' := by
  have HV := Lib.hid hv
  obtain ⟨hn1, hn2⟩ := formB_nb hf
  have HF := Lib.hid hf
  obtain ⟨ap, cp, ab, cb, rfl, hp, ha, hc, hB⟩ := hv.form
  obtain ⟨nb, hnb⟩ : ∃ nb, nb = f.blocks.length := ⟨_, rfl⟩
  rw [← hnb] at HV hn1 hn2 ⊢
  have HNB := Lib.hid hnb
  clear hp ha hc hB hv hnb hf
  go_enter Try.func39, Try.ntmps39
  go_upto_region 1 with (fail)
  have B1 : Hid (Box (w.alloc (.cells #[.slice ap f.params.length cp, .int .i64 f.arrays, .int .i64 f.cells, .slice ab nb cb] 30)) (w.heap.size) #[.slice ap f.params.length cp, .int .i64 f.arrays, .int .i64 f.cells, .slice ab nb cb]) := Lib.hid (by simpa using (Box.new w #[.slice ap f.params.length cp, .int .i64 f.arrays, .int .i64 f.cells, .slice ab nb cb] 30))
  have HW : Hid (Below w.heap.size w (w.alloc (.cells #[.slice ap f.params.length cp, .int .i64 f.arrays, .int .i64 f.cells, .slice ab nb cb] 30))) := Lib.hid ((Below.refl _ _).alloc (Nat.le_refl _) _)
  generalize (w.alloc (.cells #[.slice ap f.params.length cp, .int .i64 f.arrays, .int .i64 f.cells, .slice ab nb cb] 30)) = wv at *
  obtain ⟨lB1, cB1, fB1⟩ := B1.out
  go_wp2_with fail
  refine (refOver (HV.out.below HW.out) HF.out).mono ?_
  rintro e w2 ⟨ov, rfl, hov, hb⟩
  obtain ⟨W2, hW2⟩ : ∃ W2, W2 = w2 := ⟨_, rfl⟩
  have HOV : Hid (OverM f W2 ov) := Lib.hid (by rw [hW2]; exact hov)
  obtain ⟨oc, ob, oo, rfl, hoc, hom, hob, hrows⟩ := hov.parts (by rw [← HNB.out]; omega)
  rw [← HNB.out] at HOV hoc hrows
  rw [← hW2] at hrows hob
  have HROWS := Lib.hid hrows
  clear lB1 cB1 fB1
  replace B1 := Lib.hid (B1.out.later hb)
  replace HW := Lib.hid (HW.out.trans (hb.mono HW.out.size))
  clear hb
  obtain ⟨lB1, cB1, fB1⟩ := B1.out
  have HW2 : Hid (Below w.heap.size w W2) := Lib.hid (by rw [hW2]; exact HW.out)
  have HB1 : Hid (Box W2 w.heap.size #[.slice ap f.params.length cp, .int .i64 f.arrays, .int .i64 f.cells, .slice ab nb cb]) := Lib.hid (by rw [hW2]; exact B1.out)
  have HSI : Hid (Since W2 w2) := Lib.hid (by rw [hW2]; exact Below.refl _ _)
  clear lB1 cB1 fB1
  clear hW2 HW B1 hov hrows
  rw [← HNB.out]
  go_wp2_with fail
  have HO : Hid (Own (w2.alloc (.cells #[] 3)) W2.heap.size [] 3 1 (.slice (some ⟨w2.heap.size, 0, none⟩) 0 0) 0 []) := Lib.hid (own_none (Below.size HSI.out) (by simp) 1)
  have HS3 : Hid (Since W2 (w2.alloc (.cells #[] 3))) := Lib.hid (Since.later HSI.out ((Below.refl _ _).alloc (Nat.le_refl _) _))
  generalize w2.alloc _ = w3 at *
  go_loopw [4, 5] (fun u iv wr => ∃ (b : Nat) (D : List Int), b ≤ nb ∧ iv = .int .i64 b ∧ RefDs f b D ∧ Own wr W2.heap.size [] 3 1 u b (D.map (.int .i64)) ∧ Since W2 wr) (fun _ iv _ => nb - (intOf iv).toNat)
  case atStart => exact ⟨0, [], Nat.zero_le _, rfl, ⟨rfl, by simp⟩, HO.out, HS3.out⟩
  case round =>
    obtain ⟨b, D, hb, rfl, hD, hO, hS⟩ := hrel
    obtain ⟨oa, oc2, rfl⟩ := hO.form
    replace HO := Lib.hid hO
    have HD := Lib.hid hD
    replace HSI := Lib.hid hS
    clear hD hO hS HS3
    generalize wr = w5 at *
    obtain ⟨l1, c1, f1⟩ := HB1.out.later HSI.out
    by_cases hlt : b < nb
    · obtain ⟨ra, hra1, hra2, hrax⟩ := HROWS.out b hlt
      obtain ⟨y, hy1, hy2⟩ := hrax b hlt
      have d1 := (HSI.out.cell (p := ⟨ob, oo + b, none⟩) hob).trans hra1
      have d2 := (HSI.out.cell (p := ⟨ra, b, none⟩) hra2).trans hy1
      by_cases hb0 : b = 0
      · have hq : ((b : Int) == 0) = true := by simp [hb0]
        have HDN : Hid (RefDs f (b + 1) (D ++ [-1])) := Lib.hid (HD.out.next ⟨fun _ => rfl, fun h => absurd hb0 h⟩ ⟨by omega, by omega⟩)
        clear hra1 hrax hy1 hy2 hb0
        have hs5 := Below.size HSI.out
        have hbl5 : b ≤ 512 := by omega
        go_wp2_with (at_builtin; refine wpList_own rfl _ _ 22 3 rfl elInt rfl rfl (HO.out.alloc _) (Row.of_box (n := 1) (size := 1) (Box.new _ _ _) rfl (by omega)) (by simp [Value.oneCell']) (by unfold maxLen; omega) (by omega) (by simp; omega) (by intro y hy; simp at hy) ?_; intro v9 w9 hO9 hBs9 hB9; have HO9 := Lib.hid hO9; have HB9 := Lib.hid hB9; clear hO9 hBs9 hB9)
        have HSE : Hid (Since W2 w9) := Lib.hid (Below.trans (Since.later HSI.out ((Below.refl _ _).alloc (Nat.le_refl _) _)) HB9.out)
        clear hs5 hbl5
        go_roundw
        case rel => exact ⟨b + 1, _, hlt, by go_num, HDN.out, by rw [List.map_append]; exact HO9.out, HSE.out⟩
        case measure => simp [intOf]; omega
      · have hq : ((b : Int) == 0) = false := by simp; exact hb0
        cases y
        · have HDN : Hid (RefDs f (b + 1) (D ++ [-1])) := Lib.hid (HD.out.next ⟨fun _ => rfl, fun _ h => by have := hy2.2 h; cases this⟩ ⟨by omega, by omega⟩)
          clear hra1 hrax hy1 hy2 hb0
          have hs5 := Below.size HSI.out
          have hbl5 : b ≤ 512 := by omega
          go_wp2_with (at_builtin; refine wpList_own rfl _ _ 22 3 rfl elInt rfl rfl (HO.out.alloc _) (Row.of_box (n := 1) (size := 1) (Box.new _ _ _) rfl (by omega)) (by simp [Value.oneCell']) (by unfold maxLen; omega) (by omega) (by simp; omega) (by intro y hy; simp at hy) ?_; intro v9 w9 hO9 hBs9 hB9; have HO9 := Lib.hid hO9; have HB9 := Lib.hid hB9; clear hO9 hBs9 hB9)
          have HSE : Hid (Since W2 w9) := Lib.hid (Below.trans (Since.later HSI.out ((Below.refl _ _).alloc (Nat.le_refl _) _)) HB9.out)
          clear hs5 hbl5
          go_roundw
          case rel => exact ⟨b + 1, _, hlt, by go_num, HDN.out, by rw [List.map_append]; exact HO9.out, HSE.out⟩
          case measure => simp [intOf]; omega
        · have HOB := Lib.hid (hy2.1 rfl)
          have HB0 := Lib.hid hb0
          clear hra1 hrax hy1 hy2 hb0
          go_wp2_with fail
          clear l1 c1 f1 d1 d2
          have hA := (Below.refl w5.heap.size w5).alloc (Nat.le_refl _) (.cells #[.int .i64 b] 3)
          refine (refClosest (f := f) (xs := [(b : Int)]) (gone := (b : Int)) (HOV.out.below (Since.later HSI.out hA)) (ints_of_box1 (Box.new _ _ _) ⟨by omega, by omega⟩) (by
            intro x hx
            simp at hx
            subst hx
            exact ⟨by omega, by rw [← HNB.out]; omega, by rw [Int.toNat_natCast]; exact HOB.out.1⟩) (by simp) (by rw [← HNB.out]; omega) (by rw [← HNB.out]; omega)).mono ?_
          rintro e w6 ⟨r, rfl, hr, hb6⟩
          have HDN : Hid (RefDs f (b + 1) (D ++ [r])) := Lib.hid (HD.out.next ⟨fun h => by rcases h with h | h; exact absurd h HB0.out; exact absurd HOB.out h, fun _ _ => hr⟩ (hr.in64 (by rw [← HNB.out]; omega)))
          replace HSI := Lib.hid (Since.later (Since.later HSI.out hA) hb6)
          replace HO := Lib.hid ((HO.out.alloc _).later hb6)
          clear hr hb6 hA
          generalize w6 = w5 at *
          have hs5 := Below.size HSI.out
          have hbl5 : b ≤ 512 := by omega
          go_wp2_with (at_builtin; refine wpList_own rfl _ _ 22 3 rfl elInt rfl rfl (HO.out.alloc _) (Row.of_box (n := 1) (size := 1) (Box.new _ _ _) rfl (by omega)) (by simp [Value.oneCell']) (by unfold maxLen; omega) (by omega) (by simp; omega) (by intro y hy; simp at hy) ?_; intro v9 w9 hO9 hBs9 hB9; have HO9 := Lib.hid hO9; have HB9 := Lib.hid hB9; clear hO9 hBs9 hB9)
          have HSE : Hid (Since W2 w9) := Lib.hid (Below.trans (Since.later HSI.out ((Below.refl _ _).alloc (Nat.le_refl _) _)) HB9.out)
          clear hs5 hbl5
          go_roundw
          case rel => exact ⟨b + 1, _, hlt, by go_num, HDN.out, by rw [List.map_append]; exact HO9.out, HSE.out⟩
          case measure => simp [intOf]; omega
    · have hbn : b = nb := by omega
      have HRES : Hid (Ints w5 (.slice oa b oc2) D) := Lib.hid (by
        have h1 := HD.out.1
        have h2 := HO.out.row
        rw [← h1] at h2 ⊢
        exact Ints.of_own h2 (by omega) (fun x hx => by
          obtain ⟨j, hj⟩ := List.mem_iff_getElem?.1 hx
          exact (HD.out.2 j x hj).2))
      have HDE : Hid (RefDs f nb D) := Lib.hid (by rw [← hbn]; exact HD.out)
      have HWE := Lib.hid (HW2.out.trans (Below.mono HSI.out HW2.out.size))
      clear hbn
      go_wp2
      go_ret
      exact ⟨_, D, rfl, HRES.out, HDE.out, HWE.out⟩

def RMeetR (f : FuncD) (xs : List Int) (w : World) (e : Ending) (w' : World) : Prop :=
  ∃ m g : Int, e = .returned (.tuple #[.int .i64 m, .int .i64 g]) ∧ (checkF f ≠ 0 → m = 0 ∧ g = checkF f) ∧ (checkF f = 0 → xs = [] → m = 0 ∧ g = 1) ∧ (checkF f = 0 → xs ≠ [] → ¬ AllIn f xs → m = 0 ∧ g = 9) ∧
    (checkF f = 0 → xs ≠ [] → AllIn f xs → g = 0 ∧ ClosUp f xs (-1) f.blocks.length m) ∧ Below w.heap.size w w'
set_option maxHeartbeats 12800000 in
set_option maxRecDepth 100000 in
theorem refMeet {w : World} {v u : Value} {f : FuncD} {xs : List Int} (hv : FuncV w v f) (hu : Ints w u xs) : Calls Try.prog 48 #[v, u] w (RMeetR f xs w) := by
  have HV := Lib.hid hv
  have HU := Lib.hid hu
  obtain ⟨ap, cp, ab, cb, rfl, hp, ha, hc, hB⟩ := hv.form
  have HBG : Hid (checkF f = 0 → f.blocks.length ≤ 512) := Lib.hid (fun h => (formB_nb (check_fine h).1).2)
  have HBP : Hid (checkF f = 0 → 1 ≤ f.blocks.length) := Lib.hid (fun h => (formB_nb (check_fine h).1).1)
  obtain ⟨nb, hnb⟩ : ∃ nb, nb = f.blocks.length := ⟨_, rfl⟩
  rw [← hnb] at HV ⊢
  have HNB := Lib.hid hnb
  have hbig := hu.le
  obtain ⟨ua, uc, ub, uo, rfl, huc, hum, hua, hux⟩ := hu.parts
  obtain ⟨ul, hul⟩ : ∃ ul, ul = xs.length := ⟨_, rfl⟩
  rw [← hul] at huc hua hbig HU ⊢
  have HUL := Lib.hid hul
  have HUA := Lib.hid hua
  have HUX := Lib.hid hux
  clear hp ha hc hB hv hnb hua hux hul hu
  go_enter Try.func48, Try.ntmps48
  go_upto_region 1 with (fail)
  have B1 : Hid (Box (w.alloc (.cells #[.slice ap f.params.length cp, .int .i64 f.arrays, .int .i64 f.cells, .slice ab nb cb] 30)) (w.heap.size) #[.slice ap f.params.length cp, .int .i64 f.arrays, .int .i64 f.cells, .slice ab nb cb]) := Lib.hid (by simpa using (Box.new w #[.slice ap f.params.length cp, .int .i64 f.arrays, .int .i64 f.cells, .slice ab nb cb] 30))
  have HW : Hid (Below w.heap.size w (w.alloc (.cells #[.slice ap f.params.length cp, .int .i64 f.arrays, .int .i64 f.cells, .slice ab nb cb] 30))) := Lib.hid ((Below.refl _ _).alloc (Nat.le_refl _) _)
  generalize (w.alloc (.cells #[.slice ap f.params.length cp, .int .i64 f.arrays, .int .i64 f.cells, .slice ab nb cb] 30)) = wv at *
  obtain ⟨lB1, cB1, fB1⟩ := B1.out
  go_wp2_with fail
  refine (refCheck (HV.out.below HW.out)).mono ?_
  rintro e w1 ⟨rfl, hb⟩
  clear lB1 cB1 fB1
  replace B1 := Lib.hid (B1.out.later hb)
  replace HW := Lib.hid (HW.out.trans (hb.mono HW.out.size))
  clear hb
  obtain ⟨lB1, cB1, fB1⟩ := B1.out
  by_cases hc0 : checkF f = 0
  · have HC0 := Lib.hid hc0
    have h512 := HBG.out hc0
    have hn1 := HBP.out hc0
    rw [← HNB.out] at h512 hn1
    have hc1 : (checkF f != 0) = false := by simpa using hc0
    clear hc0
    by_cases hul0 : ul = 0
    · have hq0 : ((ul : Int) == 0) = true := by simp [hul0]
      have HXE : Hid (xs = []) := Lib.hid (List.eq_nil_of_length_eq_zero (by rw [← HUL.out]; exact hul0))
      clear hul0
      go_wp2
      go_ret2
      exact ⟨0, 1, rfl, (fun h => absurd HC0.out h), (fun _ _ => ⟨rfl, rfl⟩), (fun _ h => absurd HXE.out h), (fun _ h => absurd HXE.out h), HW.out⟩
    · have HNE : Hid (xs ≠ []) := Lib.hid (fun h => hul0 (by rw [HUL.out, h]; rfl))
      obtain ⟨rfl, hub⟩ := HUA.out (by omega)
      have hq0 : ((ul : Int) == 0) = false := by simp; exact hul0
      clear hul0
      go_wp2_with fail
      refine (refOver (HV.out.below HW.out) (check_fine HC0.out).1).mono ?_
      rintro e w2 ⟨ov, rfl, hov, hb⟩
      obtain ⟨W2, hW2⟩ : ∃ W2, W2 = w2 := ⟨_, rfl⟩
      have HOV : Hid (OverM f W2 ov) := Lib.hid (by rw [hW2]; exact hov)
      obtain ⟨oc, ob, oo, rfl, hoc, hom, hob, hrows⟩ := hov.parts (by rw [← HNB.out]; omega)
      rw [← HNB.out] at HOV hoc hrows ⊢
      rw [← hW2] at hrows hob
      have HROWS := Lib.hid hrows
      clear lB1 cB1 fB1
      replace B1 := Lib.hid (B1.out.later hb)
      replace HW := Lib.hid (HW.out.trans (hb.mono HW.out.size))
      clear hb
      obtain ⟨lB1, cB1, fB1⟩ := B1.out
      have HW2 : Hid (Below w.heap.size w W2) := Lib.hid (by rw [hW2]; exact HW.out)
      have HB1 : Hid (Box W2 w.heap.size #[.slice ap f.params.length cp, .int .i64 f.arrays, .int .i64 f.cells, .slice ab nb cb]) := Lib.hid (by rw [hW2]; exact B1.out)
      have HSI : Hid (Since W2 w2) := Lib.hid (by rw [hW2]; exact Below.refl _ _)
      clear lB1 cB1 fB1
      clear hW2 HW B1 hov hrows
      go_wp2_with fail
      go_loopw [8] (fun iv wr => ∃ i : Nat, i ≤ ul ∧ iv = .int .i64 i ∧ (∀ x ∈ xs.take i, GoodB f x) ∧ Since W2 wr) (fun iv _ => ul - (intOf iv).toNat)
      case atStart => exact ⟨0, Nat.zero_le _, rfl, by simp, HSI.out⟩
      case round =>
        obtain ⟨i, hi, rfl, hg, hS⟩ := hrel
        have HGD := Lib.hid hg
        replace HSI := Lib.hid hS
        clear hg hS
        generalize wr = w5 at *
        have HWE : Hid (∀ n, Below w.heap.size w (w5.drewN n)) := Lib.hid (fun n => below_drewN (HW2.out.trans (Below.mono HSI.out HW2.out.size)) n)
        obtain ⟨l1, c1, f1⟩ := HB1.out.later HSI.out
        by_cases hlt : i < ul
        · have hcu := ((HW2.out.trans (Below.mono HSI.out HW2.out.size)).cell (p := ⟨ub, uo + i, none⟩) hub).trans (HUX.out i (by have := HUL.out; omega))
          obtain ⟨x, hx⟩ : ∃ x, x = xs.getD i 0 := ⟨_, rfl⟩
          have hxm : xs[i]? = some x := by rw [hx]; exact list_at xs i (by have := HUL.out; omega)
          have HXM := Lib.hid (List.mem_of_getElem? hxm)
          have HTK := Lib.hid (take_snoc xs i x hxm)
          rw [← hx] at hcu
          clear hx hxm
          by_cases h1 : x < 0
          · have HNG : Hid (¬ GoodB f x) := Lib.hid (fun h => by have := h.1; omega)
            have HBAD : Hid (¬ AllIn f xs) := Lib.hid (fun h => HNG.out (h x HXM.out))
            go_upto_region 10 with (fail)
            go_quiet (fail)
            go_wp2
            go_ret2
            exact ⟨0, 9, rfl, (fun h => absurd HC0.out h), (fun _ h => absurd h HNE.out), (fun _ _ _ => ⟨rfl, rfl⟩), (fun _ _ h => absurd h HBAD.out), HWE.out _⟩
          · by_cases h2 : (nb : Int) ≤ x
            · have HNG : Hid (¬ GoodB f x) := Lib.hid (fun h => by have := h.2.1; have := HNB.out; omega)
              have HBAD : Hid (¬ AllIn f xs) := Lib.hid (fun h => HNG.out (h x HXM.out))
              go_upto_region 10 with (fail)
              go_quiet (fail)
              go_wp2
              go_ret2
              exact ⟨0, 9, rfl, (fun h => absurd HC0.out h), (fun _ h => absurd h HNE.out), (fun _ _ _ => ⟨rfl, rfl⟩), (fun _ _ h => absurd h HBAD.out), HWE.out _⟩
            · obtain ⟨xn, hxn⟩ : ∃ xn : Nat, x = (xn : Int) := ⟨x.toNat, by omega⟩
              have hxl : xn < nb := by omega
              obtain ⟨ra, hra1, hra2, hrax⟩ := HROWS.out xn hxl
              obtain ⟨y, hy1, hy2⟩ := hrax xn hxl
              have d1 := (HSI.out.cell (p := ⟨ob, oo + xn, none⟩) hob).trans hra1
              have d2 := (HSI.out.cell (p := ⟨ra, xn, none⟩) hra2).trans hy1
              cases y
              · have HNG : Hid (¬ GoodB f x) := Lib.hid (fun h => by
                  have h9 := h.2.2
                  rw [hxn, Int.toNat_natCast] at h9
                  have := hy2.2 (over_refl h9)
                  cases this)
                have HBAD : Hid (¬ AllIn f xs) := Lib.hid (fun h => HNG.out (h x HXM.out))
                subst hxn
                clear hra1 hrax hy1 hy2
                go_upto_region 10 with (fail)
                go_quiet (fail)
                go_wp2
                go_ret2
                exact ⟨0, 9, rfl, (fun h => absurd HC0.out h), (fun _ h => absurd h HNE.out), (fun _ _ _ => ⟨rfl, rfl⟩), (fun _ _ h => absurd h HBAD.out), HWE.out _⟩
              · have HGX : Hid (GoodB f x) := Lib.hid ⟨by omega, by rw [← HNB.out]; omega, by rw [hxn, Int.toNat_natCast]; exact (hy2.1 rfl).1⟩
                subst hxn
                clear hra1 hrax hy1 hy2
                go_upto_region 10 with (fail)
                go_quiet (fail)
                go_wp2
                go_roundw
                case rel => exact ⟨i + 1, hlt, by go_num, by rw [HTK.out]; exact fun y hy => by rcases List.mem_append.1 hy with h | h; exact HGD.out y h; simp at h; subst h; exact HGX.out, below_drewN HSI.out _⟩
                case measure => simp [intOf]; omega
        · have HAL : Hid (AllIn f xs) := Lib.hid (fun x hx => HGD.out x (by rw [List.take_of_length_le (by have := HUL.out; omega)]; exact hx))
          clear l1 c1 f1
          go_wp2_with fail
          refine (refClosest (f := f) (xs := xs) (gone := -1) (HOV.out.below HSI.out) (HU.out.below (HW2.out.trans (Below.mono HSI.out HW2.out.size))) HAL.out HNE.out (by rw [← HNB.out]; omega) (by rw [← HNB.out]; omega)).mono ?_
          rintro e w6 ⟨r, rfl, hr, hb6⟩
          have HR := Lib.hid hr
          have HWF : Hid (Below w.heap.size w w6) := Lib.hid (HW2.out.trans (Below.mono (Since.later HSI.out hb6) HW2.out.size))
          clear hr hb6
          go_wp2
          go_ret2
          exact ⟨r, 0, rfl, (fun h => absurd HC0.out h), (fun _ h => absurd h HNE.out), (fun _ _ h => absurd HAL.out h), (fun _ _ _ => ⟨rfl, HR.out⟩), HWF.out⟩
  · have hc1 : (checkF f != 0) = true := by simpa using hc0
    have HC0 := Lib.hid hc0
    clear hc0
    go_wp2
    go_ret2
    exact ⟨0, checkF f, rfl, (fun _ => ⟨rfl, rfl⟩), (fun h => absurd h HC0.out), (fun h => absurd h HC0.out), (fun h => absurd h HC0.out), HW.out⟩
end Go.Proofs.Ytefpmjnimnmniaa
