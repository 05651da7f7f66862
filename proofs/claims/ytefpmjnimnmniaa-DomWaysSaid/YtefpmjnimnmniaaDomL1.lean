/- DomWays: the law. -/
import Derived.Test.YtefpmjnimnmniaaDom4
namespace Go.Proofs.Ytefpmjnimnmniaa
set_option linter.unusedSimpArgs false
set_option linter.unusedVariables false
open Go.RowKit Go.ChangeShapes Go.WideShapes Go.ChangeAt

/-- v reads as bytes. -/
def BytesI (W : World) (v : Value) (xs : List Int) : Prop :=
  ∃ (a : Option Addr) (cap b off : Nat), v = .slice a xs.length cap ∧ xs.length ≤ cap ∧ cap ≤ 9223372036854775807 ∧ (0 < xs.length → a = some ⟨b, off, none⟩ ∧ b < W.heap.size) ∧
    (∀ (j : Nat), j < xs.length → W.cell? ⟨b, off + j, none⟩ = some (.int .u8 (xs.getD j 0))) ∧ ∀ x ∈ xs, 0 ≤ x ∧ x ≤ 255
set_option maxRecDepth 100000 in
theorem get_bytes {H : Type} {enc : TypeId × Value → H} {W : World} {v : Value} {d : DataW H} {ps : List MemPlace} {base : Nat} (hval : Value.okWide Try.prog W .any base 51 v)
    (h : DataW.Trod enc Try.prog W 0 (fun _ => true) true 51 v d ps) (hz : ∀ n ∈ d.weights Try.prog 51, n ≤ reachBytes) : ∃ xs : List Int, BytesI W v xs := by
  obtain ⟨fuel, hf⟩ := h
  obtain ⟨a, n, c, rfl⟩ := okWide_slice Try.underlying51 hval
  rcases open_ints Try.underlying51 Try.underlying5 (by kernel_rfl) hf with ⟨hcs, hx⟩ | ⟨a', len', cap', zs, hcs, _, hl, hm, hz', hx, hcell, hwz⟩
  · simp [Value.cells] at hcs
    obtain ⟨rfl, rfl, rfl⟩ := hcs
    exact ⟨[], none, 0, 0, 0, rfl, by simp, by omega, by simp, by simp, by simp⟩
  · simp [Value.cells] at hcs
    obtain ⟨rfl, rfl, rfl⟩ := hcs
    simp only [if_true] at hz'
    have hlen : (zs.take n).length = n := by rw [List.length_take]; omega
    obtain ⟨b, o, s⟩ := a'
    by_cases h0 : n = 0
    · subst h0
      exact ⟨[], _, c, 0, 0, rfl, by simp, by unfold maxLen at hm; omega, by simp, by simp, by simp⟩
    · have hc0 := hcell 0 (by omega)
      have hs : s = none := by simpa [Addr.add] using World.cell?_spot hc0
      subst hs
      refine ⟨zs.take n, _, c, b, o, by rw [hlen], by omega, by unfold maxLen at hm; omega, fun _ => ⟨rfl, ?_⟩, fun j hj => ?_, fun x hx => ?_⟩
      · simpa [Addr.add] using World.block_lt_of_cell? W _ hc0
      · rw [hlen] at hj
        rw [← add_mk, hcell j (by omega), List.getD_eq_getElem?_getD, List.getD_eq_getElem?_getD, List.getElem?_take, if_pos hj]
      · have := hwz x (List.mem_of_mem_take hx)
        simpa [Lit.wf, IntKind.min, IntKind.max, IntKind.signed, IntKind.bits] using this
/-- A way from block 0: whatever was not come to, it is without. -/
def Went (f : FuncD) (been : List Nat) (at_ : Nat) : Prop := Way (toB f) (-1) at_ ∧ ∀ c : Nat, c ∉ been → Way (toB f) (c : Int) at_
theorem Went.start (f : FuncD) : Went f [0] 0 := ⟨.zero (by decide), fun c hc => .zero (by simp at hc; omega)⟩
theorem Went.step {f : FuncD} {been : List Nat} {a t : Nat} (h : Went f been a) (ht : t ∈ toB f a) : Went f (been ++ [t]) t :=
  ⟨.step h.1 ht (by omega), fun c hc => by
    simp only [List.mem_append, List.mem_singleton, not_or] at hc
    exact .step (h.2 c hc.1) ht (fun e => hc.2 (by omega))⟩

set_option maxHeartbeats 12800000 in
set_option maxRecDepth 100000 in
theorem walkDomWays {w : World} {v u : Value} (f : FuncD) {xs : List Int} (hv : FuncV w v f) (hu : BytesI w u xs) : Calls Try.prog 7 #[v, u] w fun e w' => e = .returned (.bool true) ∧ Below w.heap.size w w' := by
  have HV := Lib.hid hv
  obtain ⟨ap, cp, ab, cb, rfl, hp, ha, hc, hB⟩ := hv.form
  obtain ⟨a2, c2, bb, bo, hbe, hbc, hbm, hbl, hba, hbx⟩ := blocks_parts hB
  cases hbe
  obtain ⟨ua, uc, ub, uo, rfl, huc, hum, hua, hux, hu8⟩ := hu
  obtain ⟨c, hc⟩ : ∃ c, c = checkF f := ⟨_, rfl⟩
  have HC := Lib.hid hc
  obtain ⟨nb, hnb⟩ : ∃ nb, nb = f.blocks.length := ⟨_, rfl⟩
  obtain ⟨ul, hul⟩ : ∃ ul, ul = xs.length := ⟨_, rfl⟩
  rw [← hnb] at HV hbc hbl hba ⊢
  rw [← hul] at huc hua hux ⊢
  have HNB := Lib.hid hnb
  have HUL := Lib.hid hul
  have HUA := Lib.hid hua
  have HUX := Lib.hid hux
  have HU8 := Lib.hid hu8
  have HBA := Lib.hid hba
  have HBX := Lib.hid hbx
  clear hc hnb hul hp ha hB hv hbx hba hua hux hu8
  go_enter Try.func7, Try.ntmps7
  go_upto_region 1 with (fail)
  have B1 : Hid (Box (w.alloc (.cells #[.slice ap f.params.length cp, .int .i64 f.arrays, .int .i64 f.cells, .slice ab nb cb] 30)) (w.heap.size) #[.slice ap f.params.length cp, .int .i64 f.arrays, .int .i64 f.cells, .slice ab nb cb]) := Lib.hid (by simpa using (Box.new w #[.slice ap f.params.length cp, .int .i64 f.arrays, .int .i64 f.cells, .slice ab nb cb] 30))
  have HW : Hid (Below w.heap.size w (w.alloc (.cells #[.slice ap f.params.length cp, .int .i64 f.arrays, .int .i64 f.cells, .slice ab nb cb] 30))) := Lib.hid ((Below.refl _ _).alloc (Nat.le_refl _) _)
  generalize (w.alloc (.cells #[.slice ap f.params.length cp, .int .i64 f.arrays, .int .i64 f.cells, .slice ab nb cb] 30)) = wv at *
  obtain ⟨lB1, cB1, fB1⟩ := B1.out
  go_wp2_with fail
  refine (domIdoms (HV.out.below HW.out)).mono ?_
  rintro e w2 ⟨dv, D, rfl, hI, hD0, hD1, hb⟩
  rw [← HC.out] at hD0 hD1 ⊢
  obtain ⟨W2, hW2⟩ : ∃ W2, W2 = w2 := ⟨_, rfl⟩
  have HS2 : Hid (Since W2 w2) := Lib.hid (by rw [hW2]; exact Below.refl _ _)
  have HI : Hid (Ints W2 dv D) := Lib.hid (by rw [hW2]; exact hI)
  have HD0 := Lib.hid hD0
  obtain ⟨da, dc, hde⟩ := hI.form
  obtain ⟨dl, hdl⟩ : ∃ dl, dl = D.length := ⟨_, rfl⟩
  rw [← hdl] at hde
  subst hde
  have HDL := Lib.hid hdl
  clear hI hD0 hD1 hdl
  clear lB1 cB1 fB1
  replace B1 := Lib.hid (B1.out.later hb)
  replace HW := Lib.hid (HW.out.trans (hb.mono HW.out.size))
  clear hb
  obtain ⟨lB1, cB1, fB1⟩ := B1.out
  have HW02 : Hid (Below w.heap.size w W2) := Lib.hid (by rw [hW2]; exact HW.out)
  clear hW2

  go_wp2_with fail
  refine awake4.mono ?_
  rintro e w3 ⟨rfl, hb⟩
  clear lB1 cB1 fB1
  replace B1 := Lib.hid (B1.out.later hb)
  replace HS2 := Lib.hid (HS2.out.later hb)
  replace HW := Lib.hid (HW.out.trans (hb.mono HW.out.size))
  clear hb
  obtain ⟨lB1, cB1, fB1⟩ := B1.out
  cases hc0 : (c == 0)
  · have hc1 : (c != 0) = true := by simp [bne, hc0]
    go_wp2_with fail
    refine awake4.mono ?_
    rintro e w4 ⟨rfl, hb⟩
    clear lB1 cB1 fB1
    replace B1 := Lib.hid (B1.out.later hb)
    replace HS2 := Lib.hid (HS2.out.later hb)
    replace HW := Lib.hid (HW.out.trans (hb.mono HW.out.size))
    clear hb
    obtain ⟨lB1, cB1, fB1⟩ := B1.out
    go_wp2
    go_ret
    exact ⟨rfl, HW.out⟩
  · have hc1 : (c != 0) = false := by simp [bne, hc0]
    have hcz : c = 0 := by simpa using hc0
    have hck := check_fine (f := f) (by rw [← HC.out]; exact hcz)
    obtain ⟨hn1, hn2⟩ := formB_nb hck.1
    have HTO := Lib.hid (fun (b : Nat) (x : BlockD) (h : f.blocks[b]? = some x) => formB_to hck.1 h)
    obtain ⟨O, I, hO, hD, hDe⟩ := HD0.out hcz
    have HO := Lib.hid hO
    have HDI := Lib.hid hD
    have HDE := Lib.hid hDe
    have hdn : dl = nb := by rw [HDL.out, hDe, encI_len, HNB.out]
    subst hdn
    rw [← HNB.out] at hn1 hn2
    obtain ⟨a1, c1, b1, o1, he1, -, hm1, hA1, hX1⟩ := HI.out.parts
    rw [← HDL.out] at he1 hA1
    cases he1
    obtain ⟨rfl, hb1⟩ := hA1 (by omega)
    obtain ⟨rfl, hbw⟩ := HBA.out (by omega)
    have HX1 := Lib.hid hX1
    have hnn : ((dl : Int) != (dl : Int)) = false := by simp
    clear hcz hck hO hD hDe hA1 hX1 HD0
    go_wp2_with fail
    have HOW : Hid (Own (w3.alloc (.cells #[.int .i64 0] 3)) W2.heap.size [w.heap.size] 3 1 (.slice (some ⟨w3.heap.size, 0, none⟩) 1 1) [0].length ((natI [0]).map (.int .i64))) := Lib.hid ⟨⟨rfl, .inr ⟨w3.heap.size, 1, _, rfl, Below.size HS2.out, heap_alloc_new w3 _, Nat.le_refl _, by decide, rfl, rfl⟩⟩, fun g hg hm => by cases hg; simp at hm; have := lB1; omega⟩
    have hbA := (Below.refl w3.heap.size w3).alloc (Nat.le_refl _) (.cells #[.int .i64 0] 3)
    clear lB1 cB1 fB1
    replace B1 := Lib.hid (B1.out.later hbA)
    replace HS2 := Lib.hid (HS2.out.later hbA)
    replace HW := Lib.hid (HW.out.trans (hbA.mono HW.out.size))
    clear hbA
    obtain ⟨lB1, cB1, fB1⟩ := B1.out
    clear lB1 cB1 fB1
    generalize w3.alloc _ = w4 at *
    have HWT := Lib.hid (Went.start f)
    go_loopw [7, 8, 9] (fun av u iv wr => ∃ (i a : Nat) (been : List Nat), i ≤ ul ∧ i ≤ 60 ∧ iv = .int .i64 i ∧ av = .int .i64 a ∧ Own wr W2.heap.size [w.heap.size] 3 1 u been.length ((natI been).map (.int .i64)) ∧ Went f been a ∧ been.length ≤ i + 1 ∧ (∀ b ∈ been, b < dl) ∧ Since W2 wr ∧ Below w.heap.size w wr ∧ Box wr w.heap.size #[.slice ap f.params.length cp, .int .i64 f.arrays, .int .i64 f.cells, .slice (some ⟨bb, bo, none⟩) dl cb]) (fun _ _ iv _ => ul - (intOf iv).toNat)
    case atStart => exact ⟨0, 0, [0], Nat.zero_le _, Nat.zero_le _, rfl, rfl, HOW.out, HWT.out, by simp, (by intro b hb; simp at hb; omega), HS2.out, HW.out, B1.out⟩
    case round =>
      obtain ⟨i, a, been, hi, hi60, rfl, rfl, hO, hWt, hbl2, hbd, hS, hW, hB1⟩ := hrel
      have HBD := Lib.hid hbd
      obtain ⟨oa, oc, rfl⟩ := hO.form
      have HOWN := Lib.hid hO
      replace HWT := Lib.hid hWt
      replace HS2 := Lib.hid hS
      replace HW := Lib.hid hW
      replace B1 := Lib.hid hB1
      clear hO hWt hS hW hB1 hbd HOW
      generalize wr = w5 at *
      obtain ⟨h1, h2, h3, h4, h5⟩ := HO.out.facts
      have hal : a < dl := by rw [HNB.out]; exact h3 a ((h2 a).2 HWT.out.1)
      clear h1 h2 h3 h4 h5
      obtain ⟨x, hjx⟩ : ∃ x, f.blocks[a]? = some x := ⟨_, List.getElem?_eq_getElem (by have := HNB.out; omega)⟩
      obtain ⟨api, aii, ati, cpi, cii, cti, hC⟩ := HBX.out a x hjx
      have HTR := Lib.hid (HTO.out a x hjx)
      have HTB := Lib.hid (toB_at hjx)
      obtain ⟨ta, tc, tb0, to0, hte, htc, htm, hta, htx⟩ := hC.to.parts
      cases hte
      obtain ⟨k0, k1, k2, k3, k4, k5, q1, q2, q3, q4, q5, q6⟩ := hC.below HW.out hbw
      obtain ⟨tl, htl⟩ : ∃ tl, tl = x.term.to.length := ⟨_, rfl⟩
      rw [← htl] at k4 htc
      have HTA := Lib.hid hta
      have HTX := Lib.hid htx
      have HTN := Lib.hid htl
      obtain ⟨l1, c1, f1⟩ := B1.out
      clear q1 q2 q3 q4 q5 q6 hC hjx k0 k1 k2 k3 k5 hta htx htl
      by_cases hgo : i < ul ∧ i < 60 ∧ 0 < tl
      · obtain ⟨hlt, hlt60, htl0⟩ := hgo
        obtain ⟨rfl, hub⟩ := HUA.out (by omega)
        obtain ⟨rfl, htb⟩ := HTA.out (by have := HTN.out; omega)
        obtain ⟨y, hy⟩ : ∃ y, y = xs.getD i 0 := ⟨_, rfl⟩
        have hcu := (HW.out.cell (p := ⟨ub, uo + i, none⟩) hub).trans (HUX.out i (by have := HUL.out; omega))
        rw [← hy] at hcu
        have hy8 := HU8.out y (by rw [hy]; exact List.mem_of_getElem? (list_at xs i (by have := HUL.out; omega)))
        obtain ⟨yn, rfl⟩ : ∃ yn : Nat, y = (yn : Int) := ⟨y.toNat, by omega⟩
        obtain ⟨r, hr⟩ : ∃ r, r = yn % tl := ⟨_, rfl⟩
        have hrl : r < tl := by rw [hr]; exact Nat.mod_lt _ htl0
        have hrem : Int.tmod (yn : Int) (tl : Int) = (r : Int) := by rw [hr]; rfl
        have hct := (HW.out.cell (p := ⟨tb0, to0 + r, none⟩) htb).trans (HTX.out r (by have := HTN.out; omega))
        obtain ⟨t, ht⟩ : ∃ t, t = x.term.to.getD r 0 := ⟨_, rfl⟩
        have htm2 : x.term.to[r]? = some t := by rw [ht]; exact list_at _ _ (by have := HTN.out; omega)
        have htr := HTR.out t (List.mem_of_getElem? htm2)
        obtain ⟨tn, rfl⟩ : ∃ tn : Nat, t = (tn : Int) := ⟨t.toNat, by omega⟩
        rw [← ht] at hct
        have HTM : Hid (tn ∈ toB f a) := Lib.hid (by rw [HTB.out, List.mem_map]; exact ⟨_, List.mem_of_getElem? htm2, by simp⟩)
        have htnl : tn < dl := by have := HNB.out; omega
        clear hy ht htm2 htr hr
        go_upto_region 11 with (fail)
        clear hcu hct
        have hs5 := Below.size HS2.out
        have hl5 := l1
        go_wp2_with (at_builtin; refine wpList_own rfl _ _ 22 3 rfl elInt rfl rfl (HOWN.out.alloc _) (Row.of_box (n := 1) (size := 1) (Box.new _ _ _) rfl (by omega)) (by simp [Value.oneCell']) (by unfold maxLen; omega) (by omega) (by simp; omega) (by intro y hy; simp at hy ⊢; omega) ?_; intro v6 w6 hO6 hBs6 hB6; obtain ⟨oa6, oc6, rfl⟩ := hO6.form; have HO6 := Lib.hid hO6; have B16 := Lib.hid (hBs6 _ _ (by simp) (B1.out.alloc _)); have HB6 := Lib.hid hB6; clear hO6 hBs6 hB6)
        clear l1 c1 f1
        have hbA := (Below.refl w5.heap.size w5).alloc (Nat.le_refl _) (.cells #[.int .i64 tn] 3)
        have HS6 : Hid (Since W2 w6) := Lib.hid (Below.trans (Since.later HS2.out hbA) HB6.out)
        have HW6 : Hid (Below w.heap.size w w6) := Lib.hid (HW02.out.trans (Below.mono HS6.out HW02.out.size))
        have HWT6 := Lib.hid (HWT.out.step HTM.out)
        have HBD6 : Hid (∀ b ∈ been ++ [tn], b < dl) := Lib.hid (fun b hb => by
          rcases List.mem_append.1 hb with hb | hb
          · exact HBD.out b hb
          · simp at hb; omega)
        have HBE : Hid (Ints w6 (.slice oa6 (been.length + 1) oc6) (natI (been ++ [tn]))) := Lib.hid (by
          have e9 : natI (been ++ [tn]) = natI been ++ [(tn : Int)] := by simp [natI]
          have e8 : (natI (been ++ [tn])).length = been.length + 1 := by rw [natI_len, List.length_append]; rfl
          have h9 := Ints.of_own (base := W2.heap.size) (e := 3) (w := w6) (v := .slice oa6 (been.length + 1) oc6) (xs := natI (been ++ [tn])) (by rw [e8, e9, List.map_append]; exact HO6.out.row) (by rw [e8]; omega) (natI_64 fun b hb => by have := HBD6.out b hb; omega)
          exact h9)
        clear hbA
        go_wp2_with fail
        go_loopw [11, 12] (fun bv kv wr => ∃ (k b : Nat), k ≤ dl ∧ kv = .int .i64 k ∧ bv = .int .i64 b ∧ Way (toB f) (-1) b ∧ Anc I b tn ∧ wr = w6) (fun _ kv _ => dl - (intOf kv).toNat)
        case atStart => exact ⟨0, tn, Nat.zero_le _, rfl, rfl, HWT6.out.1, .refl, rfl⟩
        case round =>
          obtain ⟨k, b, hk, rfl, rfl, hbw2, hba, rfl⟩ := hrel
          have HBW := Lib.hid hbw2
          have HBA2 := Lib.hid hba
          obtain ⟨h1, h2, h3, h4, h5⟩ := HO.out.facts
          have hbl3 : b < dl := by rw [HNB.out]; exact h3 b ((h2 b).2 hbw2)
          have hlow : ∀ p, Way (toB f) (-1) p → p < dl := fun p hp => by rw [HNB.out]; exact h3 p ((h2 p).2 hp)
          have HLOW := Lib.hid hlow
          clear h1 h2 h3 h4 h5 hbw2 hba hlow
          by_cases hb0 : b = 0
          · have hq : ((b : Int) != 0) = false := by simp [hb0]
            clear hb0
            go_wp2
            go_roundw
            case rel => exact ⟨i + 1, tn, been ++ [tn], by omega, by omega, by go_num, rfl, by rw [List.length_append, show natI (been ++ [tn]) = natI been ++ [(tn : Int)] by simp [natI], List.map_append]; exact HO6.out, HWT6.out, by rw [List.length_append]; simp only [List.length_cons, List.length_nil]; omega, HBD6.out, HS6.out, HW6.out, B16.out⟩
            case measure => simp [intOf]; omega
          · have hq : ((b : Int) != 0) = true := by simp; exact hb0
            by_cases hkl : k < dl
            · obtain ⟨p, hp⟩ := Option.isSome_iff_exists.1 ((HDI.out.proc HBW.out).resolve_left hb0)
              have hpar := HDI.out.tree.par hp
              have hanc : Anc I p tn := Anc.trans (.up hp .refl) HBA2.out
              have HPW := Lib.hid hpar.2.1
              have HAN := Lib.hid hanc
              have hin : p ∈ been ++ [tn] := by
                rcases Decidable.em (p ∈ been ++ [tn]) with h | h
                · exact h
                · exact absurd (HWT6.out.2 p h) ((HDI.out.anc HWT6.out.1).1 hanc)
              have hcont : (natI (been ++ [tn])).contains (p : Int) = true := by
                rw [List.contains_iff_mem]
                exact List.mem_map.2 ⟨p, hin, rfl⟩
              have hdb := (Below.cell HS6.out (p := ⟨b1, o1 + b, none⟩) hb1).trans (HX1.out b (by rw [← HDL.out]; exact hbl3))
              rw [show D.getD b 0 = (p : Int) by rw [HDE.out, List.getD_eq_getElem?_getD, encI_some (by rw [← HNB.out]; exact hbl3) hp]; rfl] at hdb
              have HHAS := Lib.hid (refHas (x := (p : Int)) HBE.out)
              rw [hcont] at HHAS
              clear hp hpar hanc hin hcont
              go_wp2_with fail
              refine HHAS.out.mono ?_
              rintro e w7 ⟨rfl, rfl⟩
              go_wp2
              go_roundw
              case rel => exact ⟨k + 1, p, hkl, by go_num, rfl, HPW.out, HAN.out, by first | rfl | trivial⟩
              case measure => simp [intOf]; omega
            · go_wp2
              go_roundw
              case rel => exact ⟨i + 1, tn, been ++ [tn], by omega, by omega, by go_num, rfl, by rw [List.length_append, show natI (been ++ [tn]) = natI been ++ [(tn : Int)] by simp [natI], List.map_append]; exact HO6.out, HWT6.out, by rw [List.length_append]; simp only [List.length_cons, List.length_nil]; omega, HBD6.out, HS6.out, HW6.out, B16.out⟩
              case measure => simp [intOf]; omega
      · have hd0 := (Below.cell HS2.out (p := ⟨b1, o1 + 0, none⟩) hb1).trans (HX1.out 0 (by rw [← HDL.out]; omega))
        rw [show D.getD 0 0 = -1 by rw [HDE.out, List.getD_eq_getElem?_getD, encI_none (by rw [← HNB.out]; omega) HDI.out.tree.root]; rfl, Nat.add_zero] at hd0
        by_cases h1 : i < ul <;> by_cases h2 : i < 60 <;> by_cases h3 : 0 < tl
        all_goals
          try (exfalso; exact hgo ⟨h1, h2, h3⟩)
        all_goals
          clear hgo
          go_wp2
          go_ret
          exact ⟨rfl, HW.out⟩
end Go.Proofs.Ytefpmjnimnmniaa
