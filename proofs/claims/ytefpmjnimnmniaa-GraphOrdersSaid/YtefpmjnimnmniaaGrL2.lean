/- GraphOrders: the law. -/
import Derived.Test.YtefpmjnimnmniaaGrL1
namespace Go.Proofs.Ytefpmjnimnmniaa
set_option linter.unusedSimpArgs false
set_option linter.unusedVariables false
open Go.RowKit

theorem Since.alloc {w0 W : World} (h : Since w0 W) (o : Obj) : Since w0 (W.alloc o) := h.later ((Below.refl _ _).alloc (Nat.le_refl _) o)
/-- Which of the first i of the order are begun. -/
def SeenI (O : List Nat) (nb i : Nat) (s : List Bool) : Prop := s.length = nb ∧ ∀ b, s[b]? = some true ↔ b ∈ O.take i
theorem SeenI.next {O : List Nat} {nb i b : Nat} {s : List Bool} (h : SeenI O nb i s) (hb : O[i]? = some b) (hl : b < nb) : SeenI O nb (i + 1) (s.set b true) := by
  refine ⟨by rw [List.length_set]; exact h.1, fun c => ?_⟩
  rw [set_true, h.2 c, take_snoc _ _ _ hb, List.mem_append, List.mem_singleton]
  constructor
  · rintro (h1 | ⟨rfl, _⟩)
    · exact .inl h1
    · exact .inr rfl
  · rintro (h1 | rfl)
    · exact .inl h1
    · exact .inr ⟨rfl, by rw [h.1]; exact hl⟩
theorem nodup_take {O : List Nat} {i b : Nat} (h : O.Nodup) (hb : O[i]? = some b) : b ∉ O.take i := by
  intro hm
  obtain ⟨j, hj⟩ := List.mem_iff_getElem?.1 hm
  rw [List.getElem?_take] at hj
  split at hj
  · rename_i hji
    have h1 := idxOf_at h hb
    have h2 := idxOf_at h hj
    omega
  · cases hj
theorem mem_pred {f : FuncD} {t p : Nat} (hp : p < f.blocks.length) (h : t ∈ toB f p) : p ∈ predN f f.blocks.length 0 t := by
  rw [predN_zero, List.mem_filter]
  exact ⟨List.mem_range.2 hp, by simpa using h⟩

set_option maxHeartbeats 25600000 in
set_option maxRecDepth 100000 in
theorem walkOrders {w : World} {v : Value} (f : FuncD) (hv : FuncV w v f) : Calls Try.prog 5 #[v] w fun e w' => e = .returned (.bool true) ∧ Below w.heap.size w w' := by
  have HV := Lib.hid hv
  obtain ⟨ap, cp, ab, cb, rfl, hp, ha, hc, hB⟩ := hv.form
  clear hp ha hc hB hv
  obtain ⟨c, hc⟩ : ∃ c, c = checkF f := ⟨_, rfl⟩
  have HC := Lib.hid hc
  obtain ⟨nb, hnb⟩ : ∃ nb, nb = f.blocks.length := ⟨_, rfl⟩
  rw [← hnb] at HV ⊢
  have HNB := Lib.hid hnb
  clear hc hnb
  go_enter Try.func5, Try.ntmps5
  go_upto_region 1 with (fail)
  have B1 : Hid (Box (w.alloc (.cells #[.slice ap f.params.length cp, .int .i64 f.arrays, .int .i64 f.cells, .slice ab nb cb] 30)) (w.heap.size) #[.slice ap f.params.length cp, .int .i64 f.arrays, .int .i64 f.cells, .slice ab nb cb]) := Lib.hid (by simpa using (Box.new w #[.slice ap f.params.length cp, .int .i64 f.arrays, .int .i64 f.cells, .slice ab nb cb] 30))
  have HW : Hid (Below w.heap.size w (w.alloc (.cells #[.slice ap f.params.length cp, .int .i64 f.arrays, .int .i64 f.cells, .slice ab nb cb] 30))) := Lib.hid ((Below.refl _ _).alloc (Nat.le_refl _) _)
  generalize (w.alloc (.cells #[.slice ap f.params.length cp, .int .i64 f.arrays, .int .i64 f.cells, .slice ab nb cb] 30)) = wv at *
  obtain ⟨lB1, cB1, fB1⟩ := B1.out
  go_wp2_with fail
  refine (graphOrder (HV.out.below HW.out)).mono ?_
  rintro e w3 ⟨ov, L, rfl, hL, hL0, hL1, hb⟩
  rw [← HC.out] at hL0 hL1 ⊢
  obtain ⟨W3, hW3⟩ : ∃ W3, W3 = w3 := ⟨_, rfl⟩
  have HS3 : Hid (Since W3 w3) := Lib.hid (by rw [hW3]; exact Below.refl _ _)
  have HL : Hid (Ints W3 ov L) := Lib.hid (by rw [hW3]; exact hL)
  have HL0 := Lib.hid hL0
  have HL1 := Lib.hid hL1
  obtain ⟨oa, oc, hoe⟩ := hL.form
  obtain ⟨ol, hol⟩ : ∃ ol, ol = L.length := ⟨_, rfl⟩
  rw [← hol] at hoe
  subst hoe
  have HOL := Lib.hid hol
  clear hL hL0 hL1 hW3 hol
  clear lB1 cB1 fB1
  replace B1 := Lib.hid (B1.out.later hb)
  replace HW := Lib.hid (HW.out.trans (hb.mono HW.out.size))
  clear hb
  obtain ⟨lB1, cB1, fB1⟩ := B1.out

  go_wp2_with fail
  refine (graphPreds (HV.out.below HW.out)).mono ?_
  rintro e w4 ⟨pv, P, rfl, hP, hP0, hP1, hb⟩
  rw [← HC.out] at hP0 hP1 ⊢
  obtain ⟨W4, hW4⟩ : ∃ W4, W4 = w4 := ⟨_, rfl⟩
  have HS4 : Hid (Since W4 w4) := Lib.hid (by rw [hW4]; exact Below.refl _ _)
  have HP : Hid (Lists W4 pv P) := Lib.hid (by rw [hW4]; exact hP)
  have HP0 := Lib.hid hP0
  have HP1 := Lib.hid hP1
  obtain ⟨-, pa, pc, -, -, hpe, -, -, -, -, -, -⟩ := hP.parts
  obtain ⟨pl, hpl⟩ : ∃ pl, pl = P.length := ⟨_, rfl⟩
  rw [← hpl] at hpe
  subst hpe
  have HPL := Lib.hid hpl
  clear hP hP0 hP1 hW4 hpl
  clear lB1 cB1 fB1
  replace B1 := Lib.hid (B1.out.later hb)
  replace HS3 := Lib.hid (HS3.out.later hb)
  replace HW := Lib.hid (HW.out.trans (hb.mono HW.out.size))
  clear hb
  obtain ⟨lB1, cB1, fB1⟩ := B1.out

  go_wp2_with fail
  refine (graphReach (HV.out.below HW.out)).mono ?_
  rintro e w5 ⟨rv, S, rfl, hS, hS0, hS1, hb⟩
  rw [← HC.out] at hS0 hS1 ⊢
  obtain ⟨W5, hW5⟩ : ∃ W5, W5 = w5 := ⟨_, rfl⟩
  have HS5 : Hid (Since W5 w5) := Lib.hid (by rw [hW5]; exact Below.refl _ _)
  have HS : Hid (Bools W5 rv S) := Lib.hid (by rw [hW5]; exact hS)
  have HR0 := Lib.hid hS0
  have HR1 := Lib.hid hS1
  obtain ⟨ra, rc, hre⟩ := hS.form
  obtain ⟨rl, hrl⟩ : ∃ rl, rl = S.length := ⟨_, rfl⟩
  rw [← hrl] at hre
  subst hre
  have HRL := Lib.hid hrl
  have hrbig : rl ≤ 17592186044416 := by rw [hrl]; exact hS.big
  clear hS hS0 hS1 hW5 hrl
  clear lB1 cB1 fB1
  replace B1 := Lib.hid (B1.out.later hb)
  replace HS3 := Lib.hid (HS3.out.later hb)
  replace HS4 := Lib.hid (HS4.out.later hb)
  replace HW := Lib.hid (HW.out.trans (hb.mono HW.out.size))
  clear hb
  obtain ⟨lB1, cB1, fB1⟩ := B1.out

  go_wp2_with fail
  refine awake3.mono ?_
  rintro e w6 ⟨rfl, hb⟩
  clear lB1 cB1 fB1
  replace B1 := Lib.hid (B1.out.later hb)
  replace HS3 := Lib.hid (HS3.out.later hb)
  replace HS4 := Lib.hid (HS4.out.later hb)
  replace HS5 := Lib.hid (HS5.out.later hb)
  replace HW := Lib.hid (HW.out.trans (hb.mono HW.out.size))
  clear hb
  obtain ⟨lB1, cB1, fB1⟩ := B1.out
  have hcc : (c == c) = true := by simp
  cases hc0 : (c == 0)
  · have hc1 : (c != 0) = true := by simp [bne, hc0]
    go_wp2_with fail
    refine awake3.mono ?_
    rintro e w7 ⟨rfl, hb⟩
    clear lB1 cB1 fB1
    replace B1 := Lib.hid (B1.out.later hb)
    replace HS3 := Lib.hid (HS3.out.later hb)
    replace HS4 := Lib.hid (HS4.out.later hb)
    replace HS5 := Lib.hid (HS5.out.later hb)
    replace HW := Lib.hid (HW.out.trans (hb.mono HW.out.size))
    clear hb
    obtain ⟨lB1, cB1, fB1⟩ := B1.out
    go_wp2
    go_ret
    exact ⟨rfl, HW.out⟩
  · have hc1 : (c != 0) = false := by simp [bne, hc0]
    have hcz : c = 0 := by simpa using hc0
    have hck := check_fine (f := f) (by rw [← HC.out]; exact hcz)
    obtain ⟨hn1, hn2⟩ := formB_nb hck.1
    have HPE := Lib.hid (HP0.out hcz)
    have HRE := Lib.hid (HR0.out hcz)
    obtain ⟨O, hO, hLO⟩ := HL0.out hcz
    obtain ⟨h1, h2, h3, h4, h5⟩ := hO.facts
    have HOL2 : Hid (ol = O.length) := Lib.hid (by rw [HOL.out, hLO, natI_len])
    have HO1 := Lib.hid h1
    have HO2 := Lib.hid h2
    have HO3 := Lib.hid h3
    have HO4 := Lib.hid h4
    have HO5 := Lib.hid h5
    have HLE := Lib.hid hO.le
    have HLO := Lib.hid hLO
    have hnb := HNB.out
    have HRL2 : Hid (rl = nb) := Lib.hid (by rw [HRL.out, HRE.out.1, hnb])
    have hpln : nb = pl := by rw [HPL.out, HPE.out]; unfold predsF; rw [predI_len, hnb]
    obtain ⟨a1, c1, b1, o1, he1, -, hm1, hA1, hX1⟩ := HL.out.parts
    obtain ⟨vs, a2, c2, b2, o2, he2, -, hm2, -, hA2, hX2, hY2⟩ := HP.out.parts
    obtain ⟨a3, c3, b3, o3, he3, -, hm3, hA3, hX3⟩ := HS.out.parts
    rw [← HOL.out] at he1 hA1
    rw [← HPL.out] at he2 hA2
    rw [← HRL.out] at he3 hA3
    cases he1
    cases he2
    cases he3
    rw [← hnb] at hn1 hn2
    have hol : ol ≤ nb := by rw [HOL2.out, hnb]; exact HLE.out
    have HA1 := Lib.hid hA1
    have HA2 := Lib.hid hA2
    have HA3 := Lib.hid hA3
    have HX1 := Lib.hid hX1
    have HX2 := Lib.hid hX2
    have HX3 := Lib.hid hX3
    have HY2 := Lib.hid hY2
    have hn0 : (0 : Int) ≤ (nb : Int) := by omega
    clear hA1 hA2 hA3 hX1 hX2 hX3 hY2 hcz hck hO hLO h1 h2 h3 h4 h5 HL0 HL1 HP0 HP1 HR0 HR1 hcc
    subst hpln
    clear hnb
    have hrl := HRL2.out
    have hmk := run_make_row' (P := Try.prog) 36 4 (.bool false) 1 Try.underlying36 infoBool rfl .i64 .i64 nb (by omega) (by omega)
    have HG0 : Hid (w.heap.size < w6.heap.size) := Lib.hid lB1
    have HLT : Hid (W3.heap.size ≤ w6.heap.size ∧ W4.heap.size ≤ w6.heap.size ∧ W5.heap.size ≤ w6.heap.size) := Lib.hid ⟨Below.size HS3.out, Below.size HS4.out, Below.size HS5.out⟩
    go_upto_region 7 with (fail)
    have nBFB1 : w6.heap.size ≠ w.heap.size := fun e => by have := lB1; omega
    have nB1BF : w.heap.size ≠ w6.heap.size := fun e => nBFB1 e.symm
    have B1_ : Box (w6.alloc (.cells (madeCells #[.bool false] nb) 4)) (w.heap.size) #[.slice ap f.params.length cp, .int .i64 f.arrays, .int .i64 f.cells, .slice ab nb cb] := by simpa using (B1.out.alloc _)
    have BF_ : Box (w6.alloc (.cells (madeCells #[.bool false] nb) 4)) (w6.heap.size) (madeCells #[.bool false] nb) := by simpa using (Box.new w6 (madeCells #[.bool false] nb) 4)
    have HS3_ := (HS3.out.alloc (.cells (madeCells #[.bool false] nb) 4))
    have HS4_ := (HS4.out.alloc (.cells (madeCells #[.bool false] nb) 4))
    have HS5_ := (HS5.out.alloc (.cells (madeCells #[.bool false] nb) 4))
    have HW_ : Below w.heap.size w (w6.alloc (.cells (madeCells #[.bool false] nb) 4)) := (HW.out.alloc (by first | exact Nat.le_refl _ | exact HW.out.size | (simp only [World.size_alloc, World.size_setCell]; have := HW.out.size; omega)) _)
    clear lB1 cB1 fB1
    clear B1 HS3 HS4 HS5 HW
    generalize (w6.alloc (.cells (madeCells #[.bool false] nb) 4)) = w7 at *
    have B1 := Lib.hid B1_
    clear B1_
    have BF := Lib.hid BF_
    clear BF_
    have HS3 := Lib.hid HS3_
    clear HS3_
    have HS4 := Lib.hid HS4_
    clear HS4_
    have HS5 := Lib.hid HS5_
    clear HS5_
    have HW := Lib.hid HW_
    clear HW_
    obtain ⟨lB1, cB1, fB1⟩ := B1.out
    obtain ⟨lBF, cBF, fBF⟩ := BF.out
    clear hmk
    have HBF : Hid (Box w7 w6.heap.size (flagsA (List.replicate nb false))) := Lib.hid (by rw [← flags_made]; exact BF.out)
    have HS6 : Hid (w6.heap.size < w7.heap.size) := Lib.hid BF.out.lt
    obtain ⟨bf, hbf⟩ : ∃ bf, bf = w6.heap.size := ⟨_, rfl⟩
    rw [← hbf] at HBF HG0 HS6 HLT
    clear lB1 cB1 fB1 lBF cBF fBF
    clear BF nBFB1 nB1BF B1
    simp only [← hbf]
    clear hbf
    have HSN : Hid (SeenI O nb 0 (List.replicate nb false)) := Lib.hid ⟨by simp, fun b => by
      simp only [List.take_zero, List.not_mem_nil, iff_false]
      intro h
      obtain ⟨h1, h2⟩ := List.getElem?_eq_some_iff.1 h
      simp at h2⟩
    go_wp2_with fail
    go_loopw [10] (fun i wr => ∃ (i' : Nat) (s : List Bool), i' ≤ ol ∧ i = .int .i64 i' ∧ SeenI O nb i' s ∧ Box wr bf (flagsA s) ∧ Below w.heap.size w wr ∧ Since W3 wr ∧ Since W4 wr ∧ Since W5 wr) (fun i _ => ol - (intOf i).toNat)
    case atStart => exact ⟨0, _, Nat.zero_le _, rfl, HSN.out, HBF.out, HW.out, HS3.out, HS4.out, HS5.out⟩
    case round =>
      obtain ⟨i, s, hi, rfl, hs, hF, hW, h3, h4, h5⟩ := hrel
      replace HSN := Lib.hid hs
      replace HBF := Lib.hid hF
      replace HW := Lib.hid hW
      replace HS3 := Lib.hid h3
      replace HS4 := Lib.hid h4
      replace HS5 := Lib.hid h5
      clear hs hF hW h3 h4 h5
      generalize wr = w8 at *
      by_cases hlt : i < ol
      · obtain ⟨rfl, hb1⟩ := HA1.out (by omega)
        obtain ⟨rfl, hb2⟩ := HA2.out (by omega)
        obtain ⟨rfl, hb3⟩ := HA3.out (by omega)
        obtain ⟨b, hb⟩ : ∃ b, O[i]? = some b := ⟨_, List.getElem?_eq_getElem (by have := HOL2.out; omega)⟩
        have hbm := List.mem_of_getElem? hb
        have hbl : b < nb := by rw [HNB.out]; exact HO3.out b hbm
        have hci := (Below.cell HS3.out (p := ⟨b1, o1 + i, none⟩) hb1).trans (HX1.out i (by rw [← HOL.out]; exact hlt))
        rw [show L.getD i 0 = (b : Int) by rw [HLO.out]; unfold natI; rw [List.getD_eq_getElem?_getD, List.getElem?_map, hb]; rfl] at hci
        have hsb : s[b]? = some false := by
          obtain ⟨x, hx⟩ : ∃ x, s[b]? = some x := ⟨_, List.getElem?_eq_getElem (by rw [HSN.out.1]; exact hbl)⟩
          cases x
          · exact hx
          · exact absurd ((HSN.out.2 b).1 hx) (nodup_take HO1.out hb)
        have hfl := flagsA_at hsb
        obtain ⟨lF, cF, fF⟩ := HBF.out
        have hrb := (Below.cell HS5.out (p := ⟨b3, o3 + b, none⟩) hb3).trans (HX3.out b true ((HRE.out.2 b).2 ((HO2.out b).1 hbm)))
        have HB := Lib.hid hb
        have hb0 : decide ((b : Int) < 0) = false := by simp
        have hbn : decide ((nb : Int) ≤ (b : Int)) = false := by simp; omega
        -- what goes to b
        obtain ⟨ps, hps⟩ : ∃ ps, ps = predN f nb 0 b := ⟨_, rfl⟩
        have HPS := Lib.hid hps
        have hpg : P.getD b [] = natI ps := by
          rw [HPE.out, hps, HNB.out, List.getD_eq_getElem?_getD]
          unfold predsF
          rw [predI_at (by rw [← HNB.out]; exact hbl)]
          unfold predI at *
          simp [predN_zero]
        have hml : ps.length ≤ nb + 1 := by rw [hps]; exact predN_le f nb 0 b
        have hPS : ∀ p ∈ ps, p < nb := fun p hp => by
          rw [hps, predN_zero] at hp
          exact List.mem_range.1 (List.mem_filter.1 hp).1
        have hcp := (Below.cell HS4.out (p := ⟨b2, o2 + b, none⟩) hb2).trans (HX2.out b (by rw [← HPL.out]; exact hbl))
        have hIP : Ints w8 (vs.getD b undef) (natI ps) := by
          have h9 := HY2.out b (by rw [← HPL.out]; exact hbl)
          rw [hpg] at h9
          exact h9.below HS4.out
        obtain ⟨qa, qc, qb, qo, hqe, hqc, hqm, hqa, hqx⟩ := hIP.parts
        rw [hqe] at hcp
        obtain ⟨m, hm⟩ : ∃ m, m = ps.length := ⟨_, rfl⟩
        rw [natI_len, ← hm] at hcp hqc hqa
        rw [← hm] at hml
        have HM := Lib.hid hm
        have HQA := Lib.hid hqa
        have HQX := Lib.hid hqx
        have HPSL := Lib.hid hPS
        have HOK : Hid ((decide (i = 0) || ps.any fun p => s.getD p false) = true) := Lib.hid (by
          by_cases hi0 : i = 0
          · simp [hi0]
          · have hb0 : b ≠ 0 := fun e => by
              subst e
              have h1 := idxOf_at HO1.out hb
              have h2 := idxOf_at HO1.out HO4.out
              omega
            obtain ⟨j, p, hj, hp, hbp⟩ := HO5.out i b hb hb0
            have hpm := List.mem_of_getElem? hp
            have h3 : p ∈ ps := by rw [hps, HNB.out]; exact mem_pred (HO3.out p hpm) hbp
            have h4 : s[p]? = some true := (HSN.out.2 p).2 (List.mem_iff_getElem?.2 ⟨j, by rw [List.getElem?_take, if_pos hj]; exact hp⟩)
            rw [Bool.or_eq_true]
            right
            rw [List.any_eq_true]
            exact ⟨p, h3, by rw [List.getD_eq_getElem?_getD, h4]; rfl⟩)
        obtain ⟨c0, hc0'⟩ : ∃ c0, c0 = ((i : Int) == 0) := ⟨_, rfl⟩
        have HC0 : Hid (decide (i = 0) = c0) := Lib.hid (by rw [hc0', Bool.eq_iff_iff]; simp)
        have HBNE : Hid (c0 = true → ((b : Int) != 0) = false) := Lib.hid (fun h => by
          have h1 := HC0.out
          rw [h] at h1
          have h2 : i = 0 := by simpa using h1
          subst h2
          have h3 := HO4.out
          rw [hb] at h3
          cases h3; rfl)
        have hi0 : ((i : Int) == 0) = c0 := hc0'.symm
        clear hb hbm hsb hps hpg hIP hqe hm hqa hqx hc0' hPS hqc
        cases c0
        all_goals
          try have hbne := HBNE.out rfl
          have HOK0 := Lib.hid (HC0.out)
          go_upto_region 14 with (fail)
          clear hci hrb hi0 hb0 hbn
          try clear hbne
          go_wp2_with fail
          clear lF cF fF hfl
          go_loopw [12, 13] (fun okv kv wr => ∃ (kk : Nat) (okc : Bool), kk ≤ m ∧ kv = .int .i64 kk ∧ okv = .bool okc ∧ okc = (decide (i = 0) || (ps.take kk).any fun p => s.getD p false) ∧ wr = w8) (fun _ kv _ => m - (intOf kv).toNat)
          case atStart => exact ⟨0, _, Nat.zero_le _, rfl, rfl, by rw [HOK0.out]; rfl, rfl⟩
          case round =>
            obtain ⟨kk, okc, hkk, rfl, rfl, hok, rfl⟩ := hrel
            have HOC := Lib.hid hok
            clear hok
            obtain ⟨lF, cF, fF⟩ := HBF.out
            by_cases hltk : kk < m
            · obtain ⟨rfl, hqb⟩ := HQA.out (by omega)
              obtain ⟨p, hp⟩ : ∃ p, ps[kk]? = some p := ⟨_, List.getElem?_eq_getElem (by have := HM.out; omega)⟩
              have hpl2 : p < nb := HPSL.out p (List.mem_of_getElem? hp)
              have hcq := HQX.out kk (by rw [natI_len, ← HM.out]; exact hltk)
              rw [show (natI ps).getD kk 0 = (p : Int) by unfold natI; rw [List.getD_eq_getElem?_getD, List.getElem?_map, hp]; rfl] at hcq
              obtain ⟨x, hx⟩ : ∃ x, s[p]? = some x := ⟨_, List.getElem?_eq_getElem (by rw [HSN.out.1]; exact hpl2)⟩
              have hfp := flagsA_at hx
              have HTK : Hid ((ps.take (kk + 1)).any (fun p => s.getD p false) = ((ps.take kk).any (fun p => s.getD p false) || x)) := Lib.hid (by
                rw [take_snoc _ _ _ hp, List.any_append, List.any_cons, List.any_nil, Bool.or_false, List.getD_eq_getElem?_getD, hx]; rfl)
              clear hp hx
              cases okc
              · go_wp2
                go_roundw
                case rel => exact ⟨kk + 1, x, hltk, by go_num, rfl, by rw [HTK.out, ← Bool.or_assoc, ← HOC.out]; rfl, trivial⟩
                case measure => simp [intOf]; omega
              · go_wp2
                go_roundw
                case rel => exact ⟨kk + 1, true, hltk, by go_num, rfl, by rw [HTK.out, ← Bool.or_assoc, ← HOC.out]; rfl, trivial⟩
                case measure => simp [intOf]; omega
            · have hkm : kk = m := by omega
              have hoc : okc = true := by
                have h1 := HOC.out
                rw [hkm, List.take_of_length_le (by have := HM.out; omega)] at h1
                rw [h1]; exact HOK.out
              subst hoc
              clear hkm
              have hfb : (flagsA s)[b]? = some (.bool false) := flagsA_at (by
                obtain ⟨x, hx⟩ : ∃ x, s[b]? = some x := ⟨_, List.getElem?_eq_getElem (by rw [HSN.out.1]; exact hbl)⟩
                cases x
                · exact hx
                · exact absurd ((HSN.out.2 b).1 hx) (nodup_take HO1.out HB.out))
              go_wp2
              go_roundw
              case rel =>
                refine ⟨i + 1, s.set b true, hlt, by go_num, HSN.out.next HB.out hbl, ?_, HW.out.setCell (p := ⟨bf, b, none⟩) (by have := HG0.out; simp only; omega) _, Below.setCell HS3.out (p := ⟨bf, b, none⟩) HLT.out.1 _, Below.setCell HS4.out (p := ⟨bf, b, none⟩) HLT.out.2.1 _, Below.setCell HS5.out (p := ⟨bf, b, none⟩) HLT.out.2.2 _⟩
                have h9 := HBF.out.set b (.bool true)
                rwa [flagsA_set] at h9
              case measure => simp [intOf]; omega
      · have hil : i = ol := by omega
        have hsS : s = S := by
          refine IsWithout.unique (f := f) (gone := -1) ⟨by rw [HSN.out.1, HNB.out], fun b => ?_⟩ HRE.out
          rw [HSN.out.2 b, hil, HOL2.out, List.take_length]
          exact HO2.out b
        subst hsS
        clear hil
        go_wp2_with fail
        go_loopw [14] (fun i wr => ∃ k : Nat, k ≤ nb ∧ i = .int .i64 k ∧ Below w.heap.size w wr ∧ Since W5 wr ∧ Below w8.heap.size w8 wr) (fun i _ => nb - (intOf i).toNat)
        case atStart => exact ⟨0, Nat.zero_le _, rfl, HW.out, HS5.out, Below.refl _ _⟩
        case round =>
          obtain ⟨k, hk, rfl, hW, h5, h8⟩ := hrel
          replace HW := Lib.hid hW
          replace HS5 := Lib.hid h5
          have HS8 := Lib.hid h8
          clear hW h5 h8
          by_cases hltk : k < nb
          · obtain ⟨rfl, hb3⟩ := HA3.out (by omega)
            obtain ⟨x, hx⟩ : ∃ x, s[k]? = some x := ⟨_, List.getElem?_eq_getElem (by rw [HSN.out.1]; exact hltk)⟩
            have hcx := (Below.cell HS5.out (p := ⟨b3, o3 + k, none⟩) hb3).trans (HX3.out k x hx)
            obtain ⟨lF, cF, fF⟩ := HBF.out.later HS8.out
            have hfk := flagsA_at hx
            have hxx : (x != x) = false := by simp
            clear hx
            go_wp2
            go_quiet (fail)
            go_wp2
            go_roundw
            case rel => exact ⟨k + 1, hltk, by go_num, below_drewN HW.out _, below_drewN HS5.out _, below_drewN HS8.out _⟩
            case measure => simp [intOf]; omega
          · have hkn : k = nb := by omega
            go_wp2
            go_ret
            exact ⟨rfl, HW.out⟩
end Go.Proofs.Ytefpmjnimnmniaa
