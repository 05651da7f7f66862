/- ir.TypeOf, ir.Uses; the reference's TypeOf. -/
import Derived.Test.YtefpmjnimnmniaaIrIds
namespace Go.Proofs.Ytefpmjnimnmniaa
set_option linter.unusedSimpArgs false
set_option linter.unusedVariables false
open Go.RowKit Go.Shelf

def typeT (f : FuncD) (id : Int) : Int := if checkF f = 0 then (tyOf (valsF f) id).getD 0 else 0
def typeE (f : FuncD) (id : Int) : Int := if checkF f = 0 then (if (tyOf (valsF f) id).isSome then 0 else 9) else checkF f
def TypeR (f : FuncD) (id : Int) (w : World) (e : Ending) (w' : World) : Prop := e = .returned (.tuple #[.int .i64 (typeT f id), .int .i64 (typeE f id)]) ∧ Below w.heap.size w w'
theorem TypeR.mk {f : FuncD} {id t g : Int} {w w' : World} (h1 : typeT f id = t) (h2 : typeE f id = g) (hb : Below w.heap.size w w') : TypeR f id w (.returned (.tuple #[.int .i64 t, .int .i64 g])) w' := by
  subst h1; subst h2; exact ⟨rfl, hb⟩

set_option maxHeartbeats 3200000 in
theorem irTypeOf {w : World} {v : Value} {f : FuncD} (hv : FuncV w v f) (id : Int) : Calls Try.prog 53 #[v, .int .i64 id] w (TypeR f id w) := by
  have HV := Lib.hid hv
  obtain ⟨ap, cp, ab, cb, rfl, hp, ha, hc, hB⟩ := hv.form
  clear hp ha hc hB hv
  go_enter Try.func53, Try.ntmps53
  go_upto_region 1 with (fail)
  have B1 : Hid (Box (w.alloc (.cells #[.slice ap f.params.length cp, .int .i64 f.arrays, .int .i64 f.cells, .slice ab f.blocks.length cb] 30)) (w.heap.size) #[.slice ap f.params.length cp, .int .i64 f.arrays, .int .i64 f.cells, .slice ab f.blocks.length cb]) := Lib.hid (by simpa using (Box.new w #[.slice ap f.params.length cp, .int .i64 f.arrays, .int .i64 f.cells, .slice ab f.blocks.length cb] 30))
  have HW : Hid (Below w.heap.size w (w.alloc (.cells #[.slice ap f.params.length cp, .int .i64 f.arrays, .int .i64 f.cells, .slice ab f.blocks.length cb] 30))) := Lib.hid ((Below.refl _ _).alloc (Nat.le_refl _) _)
  generalize (w.alloc (.cells #[.slice ap f.params.length cp, .int .i64 f.arrays, .int .i64 f.cells, .slice ab f.blocks.length cb] 30)) = wv at *
  obtain ⟨lB1, cB1, fB1⟩ := B1.out
  go_wp2_with fail
  refine (irOpen (HV.out.below HW.out)).mono ?_
  rintro e w2 ⟨hb2, m, rfl, hgood, hbad⟩
  have hsz0 := HW.out.size
  clear lB1 cB1 fB1
  replace B1 := Lib.hid (B1.out.later hb2)
  replace HW := Lib.hid (HW.out.trans (hb2.mono HW.out.size))
  clear hb2
  obtain ⟨lB1, cB1, fB1⟩ := B1.out
  clear lB1 cB1 fB1
  cases hc0 : (checkF f == 0)
  · have hc1 : (checkF f != 0) = true := by simp [bne, hc0]
    have HC0 := Lib.hid hc0
    clear hgood hbad
    go_wp2
    go_ret2
    have e1 : ¬ checkF f = 0 := by simpa using HC0.out
    exact TypeR.mk (by unfold typeT; rw [if_neg e1]) (by unfold typeE; rw [if_neg e1]) HW.out
  · have HC0 : Hid (checkF f = 0) := Lib.hid (by simpa using hc0)
    have hc1 : (checkF f != 0) = false := by simp [bne, hc0]
    obtain ⟨bm, rfl, hm, hbm⟩ := hgood HC0.out
    have HI := Lib.hid hm
    have HMG := Lib.hid (mget_enc (valsF f) id)
    clear hgood hbad hm hbm
    cases hty : tyOf (valsF f) id with
    | none =>
      rw [hty] at HMG
      have HT := Lib.hid hty
      clear hty
      go_wp2_with (at_lookup; refine wpList_look (q := .i64) (z := .int .i64 0) (b := bm) (mm := encT (valsF f)) (y := id) rfl _ _ _ rfl Try.underlying124 Try.underlying3 (zeroInt _) rfl HI.out rfl ?_; rw [HMG.out])
      go_ret2
      exact TypeR.mk (by unfold typeT; rw [if_pos HC0.out, HT.out]; rfl) (by unfold typeE; rw [if_pos HC0.out, HT.out]; rfl) HW.out
    | some t =>
      rw [hty] at HMG
      have HT := Lib.hid hty
      clear hty
      go_wp2_with (at_lookup; refine wpList_look (q := .i64) (z := .int .i64 0) (b := bm) (mm := encT (valsF f)) (y := id) rfl _ _ _ rfl Try.underlying124 Try.underlying3 (zeroInt _) rfl HI.out rfl ?_; rw [HMG.out])
      go_ret2
      exact TypeR.mk (by unfold typeT; rw [if_pos HC0.out, HT.out]; rfl) (by unfold typeE; rw [if_pos HC0.out, HT.out]; rfl) HW.out

def countU (us : List (Int × Int)) (id : Int) : Int := (us.countP fun u => u.1 == id : Nat)
theorem countU_snoc (us : List (Int × Int)) (u : Int × Int) (id : Int) : countU (us ++ [u]) id = countU us id + (if u.1 == id then 1 else 0) := by
  unfold countU
  rw [List.countP_append, List.countP_cons, List.countP_nil]
  split <;> simp
/-- What holds at each use that Uses looks at. -/
structure UseI (id : Int) (bi bn : Nat) (us : List (Int × Int)) (W : World) : Prop where
  idc : Box W bi #[.int .i64 id]
  num : Box W bn #[.int .i64 (wrap64 (countU us id))]
theorem UseI.later {id : Int} {bi bn : Nat} {us : List (Int × Int)} {W W' : World} (h : UseI id bi bn us W) (hb : Below W.heap.size W W') : UseI id bi bn us W' := ⟨h.idc.later hb, h.num.later hb⟩
theorem usesEnters : Enters Try.prog 88 := enters_of Try.func88 (by kernel_rfl) rfl
theorem wrap64_add (x y : Int) : wrap64 (wrap64 x + y) = wrap64 (x + y) := by unfold wrap64; omega
set_option maxHeartbeats 1600000 in
theorem usesAsk {W : World} {id : Int} {bi bn : Nat} {us : List (Int × Int)} (u : Int × Int) (hne : bi ≠ bn) (h : UseI id bi bn us W) :
    Calls Try.prog 88 #[.int .i64 u.1, .int .i64 u.2, .pointer (some ⟨bi, 0, none⟩), .pointer (some ⟨bn, 0, none⟩)] W fun e W' => e = .returned (.tuple #[]) ∧ UseI id bi bn (us ++ [u]) W' ∧ Turn [bn] W W' := by
  have H := Lib.hid h
  have HNE := Lib.hid hne
  have HC := Lib.hid (countU_snoc us u id)
  obtain ⟨x, y⟩ := u
  simp only at *
  have h0 := h.idc.at 0 (v := .int .i64 id) rfl
  obtain ⟨c, hc⟩ : ∃ c, c = countU us id := ⟨_, rfl⟩
  have h1 := h.num.at 0 (v := .int .i64 (wrap64 (countU us id))) rfl
  have hf := h.num.free 0
  rw [← hc] at h1
  have HCC := Lib.hid hc
  clear h hne hc
  cases hx : (x == id)
  · have HX := Lib.hid hx
    go_enter Try.func88, Try.ntmps88
    go_wp2
    exact bodyPost_end (v := .tuple #[]) (by simp [results, Try.results88, go_sem, *]) rfl ⟨rfl, ⟨H.out.idc, by rw [HC.out, HX.out]; simpa using H.out.num⟩, Turn.refl _ _⟩
  · have HX := Lib.hid hx
    generalize hwx : wrap64 c = cx at *
    have HWX := Lib.hid hwx
    clear hwx
    go_enter Try.func88, Try.ntmps88
    go_wp2
    refine bodyPost_end (v := .tuple #[]) (by simp [results, Try.results88, go_sem, *]) rfl ⟨rfl, ⟨H.out.idc.other _ HNE.out, ?_⟩, Turn.setCell _ _⟩
    have h2 := H.out.num.set 0 (.int .i64 (wrap64 (cx + 1)))
    rw [HC.out, HX.out, if_pos rfl, ← HCC.out, ← wrap64_add c 1, HWX.out]
    simpa using h2

def useN (f : FuncD) (id : Int) : Int := if typeE f id = 0 then countU (usesF f) id else 0
def UseNR (f : FuncD) (id : Int) (w : World) (e : Ending) (w' : World) : Prop := e = .returned (.tuple #[.int .i64 (useN f id), .int .i64 (typeE f id)]) ∧ Below w.heap.size w w'
theorem UseNR.mk {f : FuncD} {id t g : Int} {w w' : World} (h1 : useN f id = t) (h2 : typeE f id = g) (hb : Below w.heap.size w w') : UseNR f id w (.returned (.tuple #[.int .i64 t, .int .i64 g])) w' := by
  subst h1; subst h2; exact ⟨rfl, hb⟩
theorem typeE_ok {f : FuncD} {id : Int} (h : typeE f id = 0) : checkF f = 0 := by
  unfold typeE at h
  split at h
  · rename_i h2; exact h2
  · exact h
theorem uses_len {f : FuncD} (h : checkF f = 0) : (usesF f).length ≤ 2097152 := by
  have he := even_of (check_ok h).1
  rw [← ux_pairs he, List.length_map]; exact uxF_le he
theorem count_wrap {f : FuncD} (h : checkF f = 0) (id : Int) : wrap64 (countU (usesF f) id) = countU (usesF f) id := by
  have h1 := uses_len h
  have h2 := List.countP_le_length (p := fun u : Int × Int => u.1 == id) (l := usesF f)
  unfold countU wrap64
  omega

set_option maxHeartbeats 3200000 in
theorem irUses {w : World} {v : Value} {f : FuncD} (hv : FuncV w v f) (id : Int) : Calls Try.prog 54 #[v, .int .i64 id] w (UseNR f id w) := by
  have HV := Lib.hid hv
  obtain ⟨ap, cp, ab, cb, rfl, hp, ha, hc, hB⟩ := hv.form
  have HB := Lib.hid hB
  obtain ⟨np, hnp⟩ : ∃ np, np = f.params.length := ⟨_, rfl⟩
  obtain ⟨nb, hnb⟩ : ∃ nb, nb = f.blocks.length := ⟨_, rfl⟩
  obtain ⟨ar, har⟩ : ∃ ar, ar = f.arrays := ⟨_, rfl⟩
  obtain ⟨ce, hce⟩ : ∃ ce, ce = f.cells := ⟨_, rfl⟩
  rw [← hnp, ← hnb, ← har, ← hce] at HV ⊢
  rw [← hnb] at HB
  have HNB := Lib.hid hnb
  have HAR := Lib.hid har
  have HCE := Lib.hid hce
  clear hp ha hc hB hv hnp hnb har hce
  go_enter Try.func54, Try.ntmps54
  go_upto_region 1 with (fail)
  have B2 : Hid (Box ((w.alloc (.cells #[.slice ap np cp, .int .i64 ar, .int .i64 ce, .slice ab nb cb] 30)).alloc (.cells #[.int .i64 id] 3)) (w.heap.size) #[.slice ap np cp, .int .i64 ar, .int .i64 ce, .slice ab nb cb]) := Lib.hid (by simpa using ((Box.new w #[.slice ap np cp, .int .i64 ar, .int .i64 ce, .slice ab nb cb] 30).alloc _))
  have B3 : Hid (Box ((w.alloc (.cells #[.slice ap np cp, .int .i64 ar, .int .i64 ce, .slice ab nb cb] 30)).alloc (.cells #[.int .i64 id] 3)) (w.heap.size + 1) #[.int .i64 id]) := Lib.hid (by simpa using (Box.new (w.alloc (.cells #[.slice ap np cp, .int .i64 ar, .int .i64 ce, .slice ab nb cb] 30)) #[.int .i64 id] 3))
  have HW : Hid (Below w.heap.size w ((w.alloc (.cells #[.slice ap np cp, .int .i64 ar, .int .i64 ce, .slice ab nb cb] 30)).alloc (.cells #[.int .i64 id] 3))) := Lib.hid (((Below.refl _ _).alloc (Nat.le_refl _) _).alloc (by simp) _)
  generalize ((w.alloc (.cells #[.slice ap np cp, .int .i64 ar, .int .i64 ce, .slice ab nb cb] 30)).alloc (.cells #[.int .i64 id] 3)) = wv at *
  obtain ⟨lB2, cB2, fB2⟩ := B2.out
  obtain ⟨lB3, cB3, fB3⟩ := B3.out
  go_wp2_with fail
  refine (irTypeOf (HV.out.below HW.out) id).mono ?_
  rintro e w2 ⟨rfl, hb2⟩
  clear lB2 cB2 fB2 lB3 cB3 fB3
  replace B2 := Lib.hid (B2.out.later hb2)
  replace B3 := Lib.hid (B3.out.later hb2)
  replace HW := Lib.hid (HW.out.trans (hb2.mono HW.out.size))
  clear hb2
  obtain ⟨lB2, cB2, fB2⟩ := B2.out
  obtain ⟨lB3, cB3, fB3⟩ := B3.out
  have HW2 := Lib.hid HW.out.size
  cases hc0 : (typeE f id == 0)
  · have hc1 : (typeE f id != 0) = true := by simp [bne, hc0]
    have HC0 := Lib.hid hc0
    go_wp2
    go_ret2
    exact UseNR.mk (if_neg (by simpa using HC0.out)) rfl HW.out
  · have HC0 : Hid (typeE f id = 0) := Lib.hid (by simpa using hc0)
    have hc1 : (typeE f id != 0) = false := by simp [bne, hc0]
    go_upto_region 5 with (fail)
    clear hc0 hc1
    have nBNB2 : w2.heap.size ≠ w.heap.size := fun e => by have := lB2; omega
    have nB2BN : w.heap.size ≠ w2.heap.size := fun e => nBNB2 e.symm
    have nBNB3 : w2.heap.size ≠ w.heap.size + 1 := fun e => by have := lB3; omega
    have nB3BN : w.heap.size + 1 ≠ w2.heap.size := fun e => nBNB3 e.symm
    have B2_ : Box (w2.alloc (.cells #[.int .i64 0] 3)) (w.heap.size) #[.slice ap np cp, .int .i64 ar, .int .i64 ce, .slice ab nb cb] := by simpa using (B2.out.alloc _)
    have B3_ : Box (w2.alloc (.cells #[.int .i64 0] 3)) (w.heap.size + 1) #[.int .i64 id] := by simpa using (B3.out.alloc _)
    have BN_ : Box (w2.alloc (.cells #[.int .i64 0] 3)) (w2.heap.size) #[.int .i64 0] := by simpa using (Box.new w2 #[.int .i64 0] 3)
    have HW_ : Below w.heap.size w (w2.alloc (.cells #[.int .i64 0] 3)) := (HW.out.alloc (by first | exact Nat.le_refl _ | exact HW.out.size | (simp only [World.size_alloc, World.size_setCell]; have := HW.out.size; omega)) _)
    clear lB2 cB2 fB2 lB3 cB3 fB3
    clear B2 B3 HW
    generalize (w2.alloc (.cells #[.int .i64 0] 3)) = w4 at *
    have B2 := Lib.hid B2_
    clear B2_
    have B3 := Lib.hid B3_
    clear B3_
    have BN := Lib.hid BN_
    clear BN_
    have HW := Lib.hid HW_
    clear HW_
    obtain ⟨lB2, cB2, fB2⟩ := B2.out
    obtain ⟨lB3, cB3, fB3⟩ := B3.out
    obtain ⟨lBN, cBN, fBN⟩ := BN.out
    go_wp2_with fail
    have HEV := Lib.hid (even_of (check_ok (typeE_ok HC0.out)).1)
    have HLT := Lib.hid (⟨lB3, lBN, HW.out.size⟩ : w.heap.size + 1 < w4.heap.size ∧ w2.heap.size < w4.heap.size ∧ w.heap.size ≤ w4.heap.size)
    have HNE := Lib.hid nB3BN
    clear lB2 cB2 fB2 lB3 cB3 fB3 lBN cBN fBN
    have HEACH : Hid (Calls Try.prog 87 #[.agg #[.slice ap np cp, .int .i64 ar, .int .i64 ce, .slice ab nb cb], .func (.func 88) #[] #[.pointer (some ⟨w.heap.size + 1, 0, none⟩), .pointer (some ⟨w2.heap.size, 0, none⟩)]] w4
        (EachR (usesF f) [w2.heap.size] (UseI id (w.heap.size + 1) w2.heap.size) w4)) := Lib.hid (by
      rw [HAR.out, HCE.out]
      refine irEach (w := w) HW.out HNB.out HB.out (fun b hb x hx => Nat.le_of_eq (HEV.out.args b hb x hx)) _ _ usesEnters [w2.heap.size] (fun b hb => by simp at hb; subst hb; exact ⟨HW2.out, HLT.out.2.1⟩) _ ?_ (fun us W W' h hb => h.later hb) ?_
      · exact ⟨B3.out, by have := BN.out; simpa [countU, wrap64] using this⟩
      · intro us u W h1 h2
        exact usesAsk u HNE.out h1)
    refine HEACH.out.mono ?_
    rintro e w5 ⟨rfl, hI5, hT5⟩
    have HW5 := Lib.hid (HW.out.trans (hT5.below HW.out.size (fun x hx => by simp at hx; subst hx; exact HW2.out)))
    have e0 := hI5.num.at 0 (v := .int .i64 (wrap64 (countU (usesF f) id))) rfl
    rw [count_wrap (typeE_ok HC0.out)] at e0
    clear hT5 HEACH hI5
    go_wp2
    go_ret2
    exact UseNR.mk (if_pos HC0.out) HC0.out HW5.out

theorem refTypeOf_none {T : List (Int × Int)} {id : Int} {i : Nat} (h : ∀ p ∈ T.take i, p.1 ≠ id) {p : Int × Int} (hp : T[i]? = some p) (he : p.1 = id) : tyOf T id = some p.2 := by
  obtain ⟨hi, hpe⟩ := List.getElem?_eq_some_iff.1 hp
  have h1 : T.take i ++ p :: T.drop (i + 1) = T := by rw [← hpe, ← List.drop_eq_getElem_cons hi, List.take_append_drop]
  have h2 : T.find? (fun q => q.1 == id) = some p := by
    rw [← h1, List.find?_append, List.find?_eq_none.2 (fun q hq => by simpa using h q hq), Option.none_or, List.find?_cons, show (p.1 == id) = true by simpa using he]
  unfold tyOf
  rw [h2]; rfl
set_option maxHeartbeats 3200000 in
theorem refTypeOf {w : World} {v : Value} {f : FuncD} (hv : FuncV w v f) (hf : formB f = true) (id : Int) : Calls Try.prog 56 #[v, .int .i64 id] w fun e w' => e = .returned (.int .i64 ((tyOf (valsF f) id).getD 0)) ∧ Below w.heap.size w w' := by
  have HV := Lib.hid hv
  have HF := Lib.hid hf
  obtain ⟨ap, cp, ab, cb, rfl, hp, ha, hc, hB⟩ := hv.form
  obtain ⟨tt, htt⟩ : ∃ tt, tt = (tyOf (valsF f) id).getD 0 := ⟨_, rfl⟩
  rw [← htt]
  have HTT := Lib.hid htt
  clear hp ha hc hB hv hf htt
  go_enter Try.func56, Try.ntmps56
  go_upto_region 1 with (fail)
  have B2 : Hid (Box (w.alloc (.cells #[.slice ap f.params.length cp, .int .i64 f.arrays, .int .i64 f.cells, .slice ab f.blocks.length cb] 30)) (w.heap.size) #[.slice ap f.params.length cp, .int .i64 f.arrays, .int .i64 f.cells, .slice ab f.blocks.length cb]) := Lib.hid (by simpa using (Box.new w #[.slice ap f.params.length cp, .int .i64 f.arrays, .int .i64 f.cells, .slice ab f.blocks.length cb] 30))
  have HW : Hid (Below w.heap.size w (w.alloc (.cells #[.slice ap f.params.length cp, .int .i64 f.arrays, .int .i64 f.cells, .slice ab f.blocks.length cb] 30))) := Lib.hid ((Below.refl _ _).alloc (Nat.le_refl _) _)
  generalize (w.alloc (.cells #[.slice ap f.params.length cp, .int .i64 f.arrays, .int .i64 f.cells, .slice ab f.blocks.length cb] 30)) = wv at *
  obtain ⟨lB2, cB2, fB2⟩ := B2.out
  go_wp2_with fail
  refine (refValues (HV.out.below HW.out) (by have := valsF_le HF.out; omega)).mono ?_
  rintro e w2 ⟨u, rfl, hu, hb2⟩
  have hle := valsF_le HF.out
  obtain ⟨n, hn⟩ : ∃ n, n = (valsF f).length := ⟨_, rfl⟩
  rw [← hn] at hu hle
  have HN := Lib.hid hn
  obtain ⟨va, vc, rfl⟩ := own_nil hu
  have HVR : Hid (Row w2 (.slice va n vc) n 2 (cellsP (valsF f))) := Lib.hid (Row.of_own hu (by omega))
  clear lB2 cB2 fB2
  replace B2 := Lib.hid (B2.out.later hb2)
  replace HW := Lib.hid (HW.out.trans (hb2.mono HW.out.size))
  clear hb2
  obtain ⟨lB2, cB2, fB2⟩ := B2.out
  clear lB2 cB2 fB2
  clear hu hn
  obtain ⟨va', vc', vb, vo, hve, hvc, hvm, hva, hvx⟩ := HVR.out.parts
  have hlen := HVR.out.len
  cases hve
  have HVA := Lib.hid hva
  have HVX := Lib.hid hvx
  have HLN := Lib.hid hlen
  clear hva hvx hlen HVR
  go_wp2_with fail
  go_loopw [6] (fun ii wr => ∃ i : Nat, i ≤ n ∧ ii = .int .i64 i ∧ (∀ p ∈ (valsF f).take i, p.1 ≠ id) ∧ wr = w2) (fun ii _ => n - (intOf ii).toNat)
  case atStart => exact ⟨0, Nat.zero_le _, rfl, by simp, rfl⟩
  case round =>
    obtain ⟨i, hi, rfl, hno, rfl⟩ := hrel
    have HNO := Lib.hid hno
    clear hno
    by_cases hlt : i < n
    · obtain ⟨p, hp⟩ : ∃ p, (valsF f)[i]? = some p := ⟨_, List.getElem?_eq_getElem (by have := HN.out; omega)⟩
      obtain ⟨rfl, hvb⟩ := HVA.out (by have := HLN.out; omega)
      obtain ⟨h1, h2⟩ := cellsP_at _ _ _ hp
      have hc0 := HVX.out _ _ h1
      have hc1 := HVX.out _ _ h2
      rw [← Nat.add_assoc] at hc1
      have HP := Lib.hid hp
      have HTK := Lib.hid (take_snoc _ i p hp)
      clear h1 h2 hp
      obtain ⟨x, t⟩ := p
      simp only at hc0 hc1
      cases hx : (x == id)
      · have HX := Lib.hid hx
        go_wp2
        go_roundw
        case rel => exact ⟨i + 1, hlt, by go_num, fun q hq => by
            rw [HTK.out] at hq
            rcases List.mem_append.1 hq with h | h
            · exact HNO.out q h
            · simp at h; subst h; have := HX.out; simpa using this, by trivial⟩
        case measure => simp [intOf]; omega
      · have HX := Lib.hid hx
        go_wp2
        go_ret
        exact ⟨by rw [HTT.out, refTypeOf_none HNO.out HP.out (by have := HX.out; simpa using this)]; rfl, HW.out⟩
    · obtain rfl : i = n := by omega
      rw [List.take_of_length_le (by have := HN.out; omega)] at HNO
      have HNT : Hid (tyOf (valsF f) id = none) := Lib.hid (tyOf_none.2 fun hm => by
        obtain ⟨p, hp, he⟩ := List.mem_map.1 hm
        exact HNO.out p hp he)
      go_wp2
      go_ret
      exact ⟨by rw [HTT.out, HNT.out]; rfl, HW.out⟩
end Go.Proofs.Ytefpmjnimnmniaa
