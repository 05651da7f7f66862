/- The reference's Frontiers; DomFronts: the law. -/
import Derived.Test.YtefpmjnimnmniaaDR1
import Derived.Test.YtefpmjnimnmniaaDF3
namespace Go.Proofs.Ytefpmjnimnmniaa
set_option linter.unusedSimpArgs false
set_option linter.unusedVariables false
open Go.RowKit

/-- The reference's rows: those below a are done, a's is done so far as b. -/
def RowSt (f : FuncD) (a b : Nat) (L : List (List Nat)) : Prop :=
  L.length = f.blocks.length ∧ ∀ (u : Nat) (l : List Nat), L[u]? = some l → l.Pairwise (· < ·) ∧ ∀ c, c ∈ l ↔ c < (if u < a then f.blocks.length else if u = a then b else 0) ∧ FrontP f u c
theorem RowSt.start (f : FuncD) : RowSt f 0 0 (List.replicate f.blocks.length []) :=
  ⟨by simp, fun u l h => by
    have := List.eq_of_mem_replicate (List.mem_of_getElem? h)
    subst this
    refine ⟨.nil, fun c => ⟨fun hc => (by cases hc), fun hc => ?_⟩⟩
    have h1 := hc.1
    rw [if_neg (by omega : ¬ u < 0)] at h1
    split at h1 <;> omega⟩
theorem RowSt.skip {f : FuncD} {a b : Nat} {L : List (List Nat)} (h : RowSt f a b L) (hno : ¬ FrontP f a b) : RowSt f a (b + 1) L :=
  ⟨h.1, fun u l hu => by
    obtain ⟨h1, h2⟩ := h.2 u l hu
    refine ⟨h1, fun c => (h2 c).trans ?_⟩
    by_cases e : u = a
    · subst e
      rw [if_neg (by omega : ¬ u < u), if_pos rfl, if_neg (by omega : ¬ u < u), if_pos rfl]
      constructor
      · rintro ⟨k1, k2⟩; exact ⟨by omega, k2⟩
      · rintro ⟨k1, k2⟩
        refine ⟨?_, k2⟩
        have : c ≠ b := fun e => hno (e ▸ k2)
        omega
    · rw [if_neg e, if_neg e]⟩
theorem RowSt.add {f : FuncD} {a b : Nat} {L : List (List Nat)} {l : List Nat} (h : RowSt f a b L) (hl : L[a]? = some l) (hy : FrontP f a b) : RowSt f a (b + 1) (L.set a (l ++ [b])) := by
  refine ⟨by rw [List.length_set]; exact h.1, fun u k hu => ?_⟩
  rw [List.getElem?_set] at hu
  split at hu
  · rename_i e
    subst e
    have hlt := (List.getElem?_eq_some_iff.1 hl).1
    rw [if_pos hlt] at hu
    cases hu
    obtain ⟨h1, h2⟩ := h.2 a l hl
    rw [if_neg (by omega : ¬ a < a), if_pos rfl] at h2 ⊢
    refine ⟨?_, fun c => ?_⟩
    · rw [List.pairwise_append]
      refine ⟨h1, by simp, fun x hx y hy => ?_⟩
      simp at hy
      subst hy
      exact ((h2 x).1 hx).1
    · rw [List.mem_append, h2 c, List.mem_singleton]
      constructor
      · rintro (⟨k1, k2⟩ | e)
        · exact ⟨by omega, k2⟩
        · subst e; exact ⟨by omega, hy⟩
      · rintro ⟨k1, k2⟩
        by_cases e : c = b
        · exact .inr e
        · exact .inl ⟨by omega, k2⟩
  · rename_i e
    obtain ⟨h1, h2⟩ := h.2 u k hu
    refine ⟨h1, fun c => (h2 c).trans ?_⟩
    rw [if_neg (Ne.symm e), if_neg (Ne.symm e)]
theorem RowSt.row {f : FuncD} {a b : Nat} {L : List (List Nat)} (h : RowSt f a b L) (he : b = f.blocks.length ∨ ∀ c, ¬ FrontP f a c) : RowSt f (a + 1) 0 L :=
  ⟨h.1, fun u l hu => by
    obtain ⟨h1, h2⟩ := h.2 u l hu
    refine ⟨h1, fun c => (h2 c).trans ?_⟩
    by_cases e : u = a
    · subst e
      rw [if_neg (by omega : ¬ u < u), if_pos rfl, if_pos (by omega : u < u + 1)]
      rcases he with e | e
      · rw [e]
      · exact ⟨fun h => absurd h.2 (e c), fun h => absurd h.2 (e c)⟩
    · rw [if_neg e]
      by_cases e2 : u < a
      · rw [if_pos e2, if_pos (by omega : u < a + 1)]
      · rw [if_neg e2, if_neg (by omega : ¬ u < a + 1)]
        constructor
        · rintro ⟨k, _⟩; omega
        · rintro ⟨k, _⟩; split at k <;> omega⟩
theorem RowSt.done {f : FuncD} {L : List (List Nat)} (h : RowSt f f.blocks.length 0 L) : FrDone f L :=
  ⟨h.1, fun u l hu => by
    obtain ⟨h1, h2⟩ := h.2 u l hu
    refine ⟨h1, fun c => (h2 c).trans ?_⟩
    rw [if_pos (by have := (List.getElem?_eq_some_iff.1 hu).1; rw [h.1] at this; exact this)]⟩
theorem toB_lt {f : FuncD} {b p : Nat} (h : b ∈ toB f p) : p < f.blocks.length := by
  rcases Nat.lt_or_ge p f.blocks.length with h1 | h1
  · exact h1
  · unfold toB at h
    rw [List.getD_eq_getElem?_getD, List.getElem?_eq_none h1] at h
    exact absurd h (by simp [show (default : BlockD).term.to = [] from rfl])
theorem front_self {f : FuncD} {a : Nat} (h : ¬ OverP f a a) (c : Nat) : ¬ FrontP f a c := fun ⟨p, _, _, h3, _⟩ => h (over_refl h3.1)

set_option maxHeartbeats 25600000 in
set_option maxRecDepth 100000 in
theorem refFrontiers {w : World} {v : Value} {f : FuncD} (hv : FuncV w v f) (hf : formB f = true) : Calls Try.prog 50 #[v] w (FrontsR f w) := by
  have HV := Lib.hid hv
  obtain ⟨hn1, hn2⟩ := formB_nb hf
  have HF := Lib.hid hf
  obtain ⟨ap, cp, ab, cb, rfl, hp, ha, hc, hB⟩ := hv.form
  obtain ⟨nb, hnb⟩ : ∃ nb, nb = f.blocks.length := ⟨_, rfl⟩
  rw [← hnb] at HV hn1 hn2 ⊢
  have HNB := Lib.hid hnb
  have hn0 : (0 : Int) ≤ (nb : Int) := by omega
  have hmk := run_make_row' (P := Try.prog) 33 22 (.slice none 0 0) 24 Try.underlying33 infoInts rfl .i64 .i64 nb (by omega) (by omega)
  have HMK := Lib.hid hmk
  clear hp ha hc hB hv hnb hf hmk
  go_enter Try.func50, Try.ntmps50
  go_upto_region 1 with (fail)
  have B1 : Hid (Box (w.alloc (.cells #[.slice ap f.params.length cp, .int .i64 f.arrays, .int .i64 f.cells, .slice ab nb cb] 30)) (w.heap.size) #[.slice ap f.params.length cp, .int .i64 f.arrays, .int .i64 f.cells, .slice ab nb cb]) := Lib.hid (by simpa using (Box.new w #[.slice ap f.params.length cp, .int .i64 f.arrays, .int .i64 f.cells, .slice ab nb cb] 30))
  have HW : Hid (Below w.heap.size w (w.alloc (.cells #[.slice ap f.params.length cp, .int .i64 f.arrays, .int .i64 f.cells, .slice ab nb cb] 30))) := Lib.hid ((Below.refl _ _).alloc (Nat.le_refl _) _)
  generalize (w.alloc (.cells #[.slice ap f.params.length cp, .int .i64 f.arrays, .int .i64 f.cells, .slice ab nb cb] 30)) = wv at *
  obtain ⟨lB1, cB1, fB1⟩ := B1.out
  go_wp2_with fail
  refine (refOver (HV.out.below HW.out) HF.out).mono ?_
  rintro e w2 ⟨ov, rfl, hov, hb⟩
  have HOV := Lib.hid hov
  clear hov
  clear lB1 cB1 fB1
  replace B1 := Lib.hid (B1.out.later hb)
  replace HW := Lib.hid (HW.out.trans (hb.mono HW.out.size))
  clear hb
  obtain ⟨lB1, cB1, fB1⟩ := B1.out
  go_wp2_with fail
  refine (refPreds (HV.out.below HW.out) HF.out).mono ?_
  rintro e w3 ⟨pv, rfl, hpv, hb⟩
  have hov := HOV.out.below hb
  obtain ⟨oc, ob, oo, rfl, hoc, hom, hob, hrows⟩ := hov.parts (by rw [← HNB.out]; omega)
  obtain ⟨vs0, pa, pc, pb, po, hpe, hpc, hpm, hpl, hpa, hpx, hpy⟩ := hpv.parts
  have hpln : (predsF f).length = nb := by unfold predsF; rw [predI_len, HNB.out]
  rw [hpln] at hpe hpc hpa hpl hpx hpy
  obtain ⟨rfl, hpb⟩ := hpa (by omega)
  subst hpe
  rw [← HNB.out] at hoc hrows
  clear lB1 cB1 fB1
  replace B1 := Lib.hid (B1.out.later hb)
  replace HW := Lib.hid (HW.out.trans (hb.mono HW.out.size))
  clear hb
  obtain ⟨lB1, cB1, fB1⟩ := B1.out
  obtain ⟨W3, hW3⟩ : ∃ W3, W3 = w3 := ⟨_, rfl⟩
  rw [← hW3] at hrows hob hpx hpy hpb
  have HROWS := Lib.hid hrows
  have HPX := Lib.hid hpx
  have HPY := Lib.hid hpy
  have HW3 : Hid (Below w.heap.size w W3) := Lib.hid (by rw [hW3]; exact HW.out)
  have HB1 : Hid (Box W3 w.heap.size #[.slice ap f.params.length cp, .int .i64 f.arrays, .int .i64 f.cells, .slice ab nb cb]) := Lib.hid (by rw [hW3]; exact B1.out)
  rw [← HNB.out]
  have hmk := HMK.out
  go_upto_region 4 with (fail)
  clear lB1 cB1 fB1
  have HRW : Hid (Bag (w3.alloc (.cells (madeCells #[.slice none 0 0] nb) 22)) W3.heap.size [] w3.heap.size 3 (List.replicate nb (.slice none 0 0)) ((List.replicate f.blocks.length ([] : List Nat)).map natI)) := Lib.hid (by
    rw [List.map_replicate, ← HNB.out]
    exact Bag.empty (Box.new _ _ _))
  have HS : Hid (Below W3.heap.size W3 (w3.alloc (.cells (madeCells #[.slice none 0 0] nb) 22))) := Lib.hid (by rw [hW3]; exact (Below.refl _ _).alloc (Nat.le_refl _) _)
  obtain ⟨bp, hbp⟩ : ∃ bp, bp = w3.heap.size := ⟨_, rfl⟩
  have HBP : Hid (W3.heap.size ≤ bp) := Lib.hid (by rw [hW3]; omega)
  have e9 : (⟨w3.heap.size, 0, none⟩ : Addr) = ⟨bp, 0, none⟩ := by rw [hbp]
  rw [e9]
  rw [← hbp] at HRW
  generalize w3.alloc _ = wa at *
  clear hbp hmk e9 HOV hov hrows hpv hpx hpy hpa hpln HW B1 hW3 HMK
  have HF0 := Lib.hid (RowSt.start f)
  go_wp2_with fail
  go_loopw [6] (fun i wr => ∃ (a : Nat) (vs : List Value) (L : List (List Nat)), a ≤ nb ∧ i = .int .i64 a ∧ Bag wr W3.heap.size [] bp 3 vs (L.map natI) ∧ RowSt f a 0 L ∧ Below W3.heap.size W3 wr) (fun i _ => nb - (intOf i).toNat)
  case atStart => exact ⟨0, _, _, Nat.zero_le _, rfl, HRW.out, HF0.out, HS.out⟩
  case round =>
    obtain ⟨a, vs, L, ha, rfl, hR, hF, hS⟩ := hrel
    clear HRW HF0 HS
    have HBG := Lib.hid hR
    have HFS := Lib.hid hF
    have HS := Lib.hid hS
    clear hR hF hS
    generalize wr = w4 at *
    obtain ⟨l1, c1, f1⟩ := HB1.out.later HS.out
    by_cases hlt : a < nb
    · go_wp2_with fail
      clear l1 c1 f1
      obtain ⟨ra, hra1, hra2, hrax⟩ := HROWS.out a hlt
      obtain ⟨s, hs1, hs2⟩ := hrax a hlt
      have HRA := Lib.hid hra1
      have HSA := Lib.hid hs1
      have HSS := Lib.hid hs2
      have HRX := Lib.hid hrax
      clear hra1 hrax hs1 hs2
      go_loopw [7] (fun i wr => ∃ (b : Nat) (vs : List Value) (L : List (List Nat)), b ≤ nb ∧ i = .int .i64 b ∧ Bag wr W3.heap.size [] bp 3 vs (L.map natI) ∧ RowSt f a b L ∧ Below W3.heap.size W3 wr) (fun i _ => nb - (intOf i).toNat)
      case atStart => exact ⟨0, vs, L, Nat.zero_le _, rfl, HBG.out, HFS.out, HS.out⟩
      case round =>
        obtain ⟨b, vs1, L1, hb, rfl, hR, hF, hS⟩ := hrel
        clear HBG HFS HS
        have HBG := Lib.hid hR
        have HFS := Lib.hid hF
        have HS := Lib.hid hS
        clear hR hF hS
        generalize wr = w5 at *
        obtain ⟨l1, c1, f1⟩ := HB1.out.later HS.out
        have d1 := (HS.out.cell (p := ⟨ob, oo + a, none⟩) hob).trans HRA.out
        have d2 := (HS.out.cell (p := ⟨ra, a, none⟩) hra2).trans HSA.out
        by_cases hgo : b < nb ∧ s = true
        · obtain ⟨hltb, rfl⟩ := hgo
          go_wp2_with fail
          clear l1 c1 f1 d1 d2
          obtain ⟨ps, hps⟩ : ∃ ps, ps = predN f f.blocks.length 0 b := ⟨_, rfl⟩
          have hpg : (predsF f).getD b [] = natI ps := by
            rw [hps, List.getD_eq_getElem?_getD]
            unfold predsF
            rw [predI_at (by rw [← HNB.out]; exact hltb)]
            rfl
          have hPS : ∀ p, p ∈ ps ↔ p < nb ∧ b ∈ toB f p := fun p => by
            rw [hps, predN_zero, HNB.out, List.mem_filter, List.mem_range]
            simp
          have hcp := HPX.out b hltb
          have hIP : Ints W3 (vs0.getD b undef) (natI ps) := by
            have h9 := HPY.out b hltb
            rwa [hpg] at h9
          have hml : ps.length ≤ nb + 1 := by rw [hps, HNB.out]; exact predN_le f f.blocks.length 0 b
          obtain ⟨qa, qc, qb, qo, hqe, hqc, hqm, hqa, hqx⟩ := hIP.parts
          rw [hqe] at hcp
          obtain ⟨pl, hpl2⟩ : ∃ pl, pl = ps.length := ⟨_, rfl⟩
          rw [natI_len, ← hpl2] at hcp hqc hqa
          rw [← hpl2] at hml
          have HPL2 := Lib.hid hpl2
          have HQA := Lib.hid hqa
          have HQX := Lib.hid hqx
          have HPS := Lib.hid hPS
          have HCP := Lib.hid hcp
          clear hps hpg hPS hIP hqe hpl2 hqa hqx hcp
          go_loopw [8, 9] (fun kv qv wr => ∃ (q : Nat) (k : Bool), q ≤ pl ∧ kv = .bool k ∧ qv = .int .i64 q ∧ (k = true ↔ ∃ p ∈ ps.take q, OverP f a p) ∧ Bag wr W3.heap.size [] bp 3 vs1 (L1.map natI) ∧ Below W3.heap.size W3 wr) (fun _ qv _ => pl - (intOf qv).toNat)
          case atStart => exact ⟨0, false, Nat.zero_le _, rfl, rfl, by simp, HBG.out, HS.out⟩
          case round =>
            obtain ⟨q, k, hq, rfl, rfl, hk, hR, hS⟩ := hrel
            clear HBG HS
            have HBG := Lib.hid hR
            have HS := Lib.hid hS
            have HK := Lib.hid hk
            clear hR hS hk
            generalize wr = w7 at *
            have dp := (HS.out.cell (p := ⟨pb, po + b, none⟩) hpb).trans HCP.out
            have d1 := (HS.out.cell (p := ⟨ob, oo + a, none⟩) hob).trans HRA.out
            by_cases hltq : q < pl
            · obtain ⟨rfl, hqb⟩ := HQA.out (by omega)
              obtain ⟨p, hp⟩ : ∃ p, ps[q]? = some p := ⟨_, List.getElem?_eq_getElem (by have := HPL2.out; omega)⟩
              obtain ⟨hpl3, hbp⟩ := (HPS.out p).1 (List.mem_of_getElem? hp)
              have dq := (HS.out.cell (p := ⟨qb, qo + q, none⟩) hqb).trans (HQX.out q (by rw [natI_len, ← HPL2.out]; exact hltq))
              rw [show (natI ps).getD q 0 = (p : Int) by unfold natI; rw [List.getD_eq_getElem?_getD, List.getElem?_map, hp]; rfl] at dq
              have HTK : Hid (ps.take (q + 1) = ps.take q ++ [p]) := Lib.hid (take_snoc _ _ _ hp)
              obtain ⟨y, hy1, hy2⟩ := HRX.out p hpl3
              have d2 := (HS.out.cell (p := ⟨ra, p, none⟩) hra2).trans hy1
              have HNX : Hid ((k || y) = true ↔ ∃ p ∈ ps.take (q + 1), OverP f a p) := Lib.hid (by
                rw [HTK.out, Bool.or_eq_true, HK.out, hy2]
                constructor
                · rintro (⟨r, h1, h2⟩ | h)
                  · exact ⟨r, List.mem_append.2 (.inl h1), h2⟩
                  · exact ⟨p, by simp, h⟩
                · rintro ⟨r, h1, h2⟩
                  rcases List.mem_append.1 h1 with h1 | h1
                  · exact .inl ⟨r, h1, h2⟩
                  · simp at h1; subst h1; exact .inr h2)
              clear hp hbp hy1 hy2
              cases k <;> cases y
              all_goals
                go_upto_region 14 with (fail)
                go_quiet (fail)
                go_wp2
                go_roundw
                case rel => exact ⟨q + 1, _, hltq, rfl, by go_num, HNX.out, HBG.out.later (below_drewN (Below.refl _ _) _), below_drewN HS.out _⟩
                case measure => simp [intOf]; omega
            · obtain ⟨z, hz1, hz2⟩ := HRX.out b hltb
              have d2 := (HS.out.cell (p := ⟨ra, b, none⟩) hra2).trans hz1
              have hfr : (k && (decide (a = b) || !z)) = true ↔ FrontP f a b := by
                have h1 := HK.out
                rw [List.take_of_length_le (by have := HPL2.out; omega)] at h1
                rw [Bool.and_eq_true, h1, Bool.or_eq_true, decide_eq_true_iff, Bool.not_eq_true', ← Bool.not_eq_true, hz2]
                constructor
                · rintro ⟨⟨p, hp, ho⟩, h⟩
                  exact ⟨p, ho.2.1, ((HPS.out p).1 hp).2, ho, h⟩
                · rintro ⟨p, h3, h4, ho, h⟩
                  refine ⟨⟨p, (HPS.out p).2 ⟨?_, h4⟩, ho⟩, h⟩
                  rw [HNB.out]; exact toB_lt h4
              have HFR := Lib.hid hfr
              clear hz1 hz2 hfr
              obtain ⟨t, ht⟩ : ∃ t, t = decide (a = b) := ⟨_, rfl⟩
              rw [← ht] at HFR
              have htt : ((a : Int) == (b : Int)) = t := by rw [ht, Bool.eq_iff_iff]; simp; omega
              clear ht
              by_cases hyes : (k && (t || !z)) = true
              · obtain ⟨l, hl⟩ : ∃ l, L1[a]? = some l := ⟨_, List.getElem?_eq_getElem (by rw [HFS.out.1, ← HNB.out]; exact hlt)⟩
                have HL := Lib.hid hl
                have hlx : (L1.map natI)[a]? = some (natI l) := by rw [List.getElem?_map, hl]; rfl
                obtain ⟨v, hvm, hcv, hOv⟩ := HBG.out.at hlx
                have hll : l.length ≤ b := by
                  obtain ⟨k1, k2⟩ := HFS.out.2 a l hl
                  refine asc_le k1 fun c hc => ?_
                  have h9 := ((k2 c).1 hc).1
                  rwa [if_neg (by omega : ¬ a < a), if_pos rfl] at h9
                obtain ⟨n, hn⟩ : ∃ n, n = (natI l).length := ⟨_, rfl⟩
                have hnle : n ≤ b := by rw [hn, natI_len]; exact hll
                rw [← hn] at hOv
                have HN := Lib.hid hn
                have HO := Lib.hid hOv
                have HVM := Lib.hid hvm
                have HLX2 := Lib.hid hlx
                obtain ⟨va, vc, rfl⟩ := hOv.form
                have hbpl := HBG.out.box.lt
                have hbpf := HBG.out.box.free a
                have HFS2 : Hid (RowSt f a (b + 1) (L1.set a (l ++ [b]))) := Lib.hid (HFS.out.add hl (HFR.out.1 hyes))
                clear hl hlx hvm hOv hll hn
                have HAP := Lib.hid (HO.out.alloc (.cells #[.int .i64 b] 3))
                have HBX1 := Lib.hid (Box.new w7 #[.int .i64 b] 3)
                have HBR := Lib.hid (HBG.out.alloc (.cells #[.int .i64 b] 3))
                have HSA2 := Lib.hid (HS.out.alloc HS.out.size (.cells #[.int .i64 b] 3))
                have HYS := Lib.hid hyes
                clear hyes
                cases k <;> cases t <;> cases z <;> try (exfalso; have := HYS.out; simp at this; done)
                all_goals
                  go_wp2_with (at_builtin; refine wpList_kept rfl _ _ 22 3 rfl elInt rfl rfl HAP.out (Row.of_box (n := 1) (size := 1) HBX1.out rfl (by omega)) (by simp [Value.oneCell']) (by unfold maxLen; omega) (by omega) HSA2.out.size (by intro y hy; simp at hy ⊢; omega) ?_; intro v7 w8 hO7 hK7; obtain ⟨oa7, oc7, rfl⟩ := hO7.form; have HO7 := Lib.hid hO7; have HK7 := Lib.hid hK7; have hc7 : w8.cell? ⟨bp, a, none⟩ = some (.slice va n vc) := (HBR.out.box.kept hK7 (by simp) (fun e => HO.out.free _ e (by simp))).at a (by simpa using HVM.out); have hf7 : w8.frozen? ⟨bp, a, none⟩ = false := (HBR.out.box.kept hK7 (by simp) (fun e => HO.out.free _ e (by simp))).free a; clear hO7 hK7)
                  have HR7 : Hid (Bag (w8.setCell ⟨bp, a, none⟩ (.slice oa7 (n + 1) oc7)) W3.heap.size [] bp 3 (vs1.set a (.slice oa7 (n + 1) oc7)) ((L1.set a (l ++ [b])).map natI)) := Lib.hid (by
                    have e9 : natI (l ++ [b]) = natI l ++ [(b : Int)] := by simp [natI]
                    rw [List.map_set, e9]
                    refine HBR.out.put HVM.out HLX2.out ?_ HK7.out
                    rw [List.length_append, List.map_append, ← HN.out]
                    exact HO7.out)
                  have HS7 := Lib.hid ((HK7.out.below HSA2.out (by simp) (fun k hk => (HAP.out.lt hk).2)).setCell (p := ⟨bp, a, none⟩) HBP.out (.slice oa7 (n + 1) oc7))
                  go_roundw
                  case rel => exact ⟨b + 1, _, _, hltb, by go_num, HR7.out, HFS2.out, HS7.out⟩
                  case measure => simp [intOf]; omega
              · have HFN : Hid (RowSt f a (b + 1) L1) := Lib.hid (HFS.out.skip (fun h => hyes (HFR.out.2 h)))
                have HYS := Lib.hid hyes
                clear hyes
                cases k <;> cases t <;> cases z <;> try (exfalso; exact HYS.out rfl)
                all_goals
                  go_wp2
                  go_roundw
                  case rel => exact ⟨b + 1, vs1, L1, hltb, by go_num, HBG.out, HFN.out, HS.out⟩
                  case measure => simp [intOf]; omega
        · have HFN : Hid (RowSt f (a + 1) 0 L1) := Lib.hid (HFS.out.row (by
            by_cases h : s = true
            · left
              have := HNB.out
              have : ¬ b < nb := fun h9 => hgo ⟨h9, h⟩
              omega
            · right
              exact front_self (fun h9 => h (HSS.out.2 h9))))
          by_cases hltb : b < nb
          · have hsf : s = false := by cases s; rfl; exact absurd ⟨hltb, rfl⟩ hgo
            subst hsf
            clear hgo
            go_wp2
            go_roundw
            case rel => exact ⟨a + 1, vs1, L1, hlt, by go_num, HBG.out, HFN.out, HS.out⟩
            case measure => simp [intOf]; omega
          · clear hgo
            go_wp2
            go_roundw
            case rel => exact ⟨a + 1, vs1, L1, hlt, by go_num, HBG.out, HFN.out, HS.out⟩
            case measure => simp [intOf]; omega
    · have hbn : a = nb := by omega
      have HDN : Hid (FrDone f L) := Lib.hid (RowSt.done (by have h9 := HFS.out; rw [hbn, HNB.out] at h9; exact h9))
      have HLS : Hid (Lists w4 (.slice (some ⟨bp, 0, none⟩) nb nb) (L.map natI)) := Lib.hid (by
        have h3 : (L.map natI).length = nb := by rw [List.length_map, HDN.out.1, HNB.out]
        have h2 := HBG.out.lists (by rw [h3]; omega) (fun xs hxs => by
          rw [List.mem_map] at hxs
          obtain ⟨l, hl, rfl⟩ := hxs
          obtain ⟨a, ha⟩ := List.mem_iff_getElem?.1 hl
          obtain ⟨k1, k2⟩ := HDN.out.2 a l ha
          have k3 : ∀ c ∈ l, c < nb := fun c hc => by rw [HNB.out]; exact ((k2 c).1 hc).1
          exact ⟨by rw [natI_len]; have := asc_le k1 k3; omega, natI_64 fun c hc => by have := k3 c hc; omega⟩)
        rw [h3] at h2; exact h2)
      have HWE : Hid (Below w.heap.size w w4) := Lib.hid (HW3.out.trans (HS.out.mono HW3.out.size))
      clear hbn
      go_wp2
      go_ret
      exact ⟨_, L, rfl, HLS.out, HDN.out, HWE.out⟩
set_option maxHeartbeats 12800000 in
set_option maxRecDepth 100000 in
theorem walkFronts {w : World} {v : Value} (f : FuncD) (hv : FuncV w v f) :
    Calls Try.prog 14 #[v] w fun e w' => e = .returned (.bool true) ∧ Below w.heap.size w w' := by
  have HV := Lib.hid hv
  obtain ⟨ap, cp, ab, cb, rfl, hp, -, -, hB⟩ := hv.form
  obtain ⟨nb, hnb⟩ : ∃ nb, nb = f.blocks.length := ⟨_, rfl⟩
  rw [← hnb] at HV ⊢
  clear hp hB hv hnb
  go_enter Try.func14, Try.ntmps14
  go_upto_region 1 with (fail)
  have B1 : Hid (Box (w.alloc (.cells #[.slice ap f.params.length cp, .int .i64 f.arrays, .int .i64 f.cells, .slice ab nb cb] 30)) (w.heap.size) #[.slice ap f.params.length cp, .int .i64 f.arrays, .int .i64 f.cells, .slice ab nb cb]) := Lib.hid (by simpa using (Box.new w #[.slice ap f.params.length cp, .int .i64 f.arrays, .int .i64 f.cells, .slice ab nb cb] 30))
  have HW : Hid (Below w.heap.size w (w.alloc (.cells #[.slice ap f.params.length cp, .int .i64 f.arrays, .int .i64 f.cells, .slice ab nb cb] 30))) := Lib.hid ((Below.refl _ _).alloc (Nat.le_refl _) _)
  generalize (w.alloc (.cells #[.slice ap f.params.length cp, .int .i64 f.arrays, .int .i64 f.cells, .slice ab nb cb] 30)) = wv at *
  obtain ⟨lB1, cB1, fB1⟩ := B1.out
  go_wp2_with fail
  refine (domFrontiers (HV.out.below HW.out)).mono ?_
  rintro e w2 ⟨fv, L, rfl, hL, hFD, hFE, hb⟩
  obtain ⟨fa, fc, rfl⟩ : ∃ a c, fv = .slice a (L.map natI).length c := by obtain ⟨vs, a, c, b, o, e, _⟩ := hL.parts; exact ⟨a, c, e⟩
  obtain ⟨ll, hll⟩ : ∃ ll, ll = (L.map natI).length := ⟨_, rfl⟩
  rw [← hll] at hL ⊢
  have HLL := Lib.hid hll
  have HL := Lib.hid hL
  have HFD := Lib.hid hFD
  have HFE := Lib.hid hFE
  clear hL hFD hFE hll
  clear lB1 cB1 fB1
  replace B1 := Lib.hid (B1.out.later hb)
  replace HW := Lib.hid (HW.out.trans (hb.mono HW.out.size))
  clear hb
  obtain ⟨lB1, cB1, fB1⟩ := B1.out
  go_wp2_with fail
  refine (refCheck (HV.out.below HW.out)).mono ?_
  rintro e w3 ⟨rfl, hb⟩
  replace HL := Lib.hid (HL.out.below hb)
  clear lB1 cB1 fB1
  replace B1 := Lib.hid (B1.out.later hb)
  replace HW := Lib.hid (HW.out.trans (hb.mono HW.out.size))
  clear hb
  obtain ⟨lB1, cB1, fB1⟩ := B1.out
  go_wp2_with fail
  refine awake4.mono ?_
  rintro e w4 ⟨rfl, hb⟩
  replace HL := Lib.hid (HL.out.below hb)
  clear lB1 cB1 fB1
  replace B1 := Lib.hid (B1.out.later hb)
  replace HW := Lib.hid (HW.out.trans (hb.mono HW.out.size))
  clear hb
  obtain ⟨lB1, cB1, fB1⟩ := B1.out
  have hqq : (checkF f != checkF f) = false := by simp
  by_cases hc0 : checkF f = 0
  · have HC0 := Lib.hid hc0
    have hc1 : (checkF f != 0) = false := by simpa using hc0
    clear hc0
    go_wp2_with fail
    refine (refFrontiers (HV.out.below HW.out) (check_fine HC0.out).1).mono ?_
    rintro e w5 ⟨ev, M, rfl, hM, hMD, hb⟩
    have HEQ : Hid (L.map natI = M.map natI) := Lib.hid (by rw [(HFD.out HC0.out).same hMD])
    have HM := Lib.hid hM
    replace HL := Lib.hid (HL.out.below hb)
    clear hM hMD
    clear lB1 cB1 fB1
    replace B1 := Lib.hid (B1.out.later hb)
    replace HW := Lib.hid (HW.out.trans (hb.mono HW.out.size))
    clear hb
    obtain ⟨lB1, cB1, fB1⟩ := B1.out
    go_wp2_with fail
    refine (sameLists HL.out HM.out).mono ?_
    rintro e w6 ⟨he, hb⟩
    obtain rfl : e = .returned (.bool true) := by rw [he, decide_eq_true HEQ.out]
    clear he
    clear lB1 cB1 fB1
    replace B1 := Lib.hid (B1.out.later hb)
    replace HW := Lib.hid (HW.out.trans (hb.mono HW.out.size))
    clear hb
    obtain ⟨lB1, cB1, fB1⟩ := B1.out
    go_wp2
    go_ret
    exact ⟨rfl, HW.out⟩
  · have hl0 := HFE.out hc0
    obtain rfl : ll = 0 := by rw [HLL.out, hl0]; rfl
    have hc1 : (checkF f != 0) = true := by simpa using hc0
    clear hc0 hl0
    go_wp2
    go_ret
    exact ⟨rfl, HW.out⟩
end Go.Proofs.Ytefpmjnimnmniaa
