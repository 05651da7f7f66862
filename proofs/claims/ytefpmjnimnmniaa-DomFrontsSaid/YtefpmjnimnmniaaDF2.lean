/- Where each block's dominance ends: the walk. -/
import Derived.Test.YtefpmjnimnmniaaDF1
namespace Go.Proofs.Ytefpmjnimnmniaa
set_option linter.unusedSimpArgs false
set_option linter.unusedVariables false
open Go.RowKit

theorem natI_mem {l : List Nat} {b : Nat} : (natI l).contains (b : Int) = true ↔ b ∈ l := by
  unfold natI
  rw [List.contains_iff_mem, List.mem_map]
  constructor
  · rintro ⟨x, hx, e⟩
    have : x = b := by omega
    subst this; exact hx
  · exact fun h => ⟨b, h, rfl⟩
/-- Where the way up stands. -/
def AtI (I : Nat → Option Nat) (b p : Nat) (x : Int) : Prop := (x = -1 ∨ ∃ m : Nat, x = m ∧ Anc I m p) ∧ ∀ q, I b = some q → Anx I q x
theorem AtI.up {I : Nat → Option Nat} {b p m : Nat} (h : AtI I b p (m : Int)) (hne : ∀ q, I b = some q → m ≠ q) : AtI I b p (encO (I m)) := by
  obtain ⟨h1, h2⟩ := h
  rcases h1 with h1 | ⟨k, e, hk⟩
  · omega
  · have : m = k := by omega
    subst this
    refine ⟨?_, fun q hq => ((anx_step.1 (anx_nat.1 (h2 q hq))).resolve_left fun e => hne q hq e.symm)⟩
    cases hI : I m with
    | none => exact .inl rfl
    | some r => exact .inr ⟨r, rfl, (Anc.up hI .refl).trans hk⟩
def FrontsR (f : FuncD) (w : World) (e : Ending) (w' : World) : Prop := ∃ fv L, e = .returned fv ∧ Lists w' fv (L.map natI) ∧ FrDone f L ∧ Below w.heap.size w w'

set_option maxHeartbeats 25600000 in
set_option maxRecDepth 100000 in
theorem treeFronts {w : World} {f : FuncD} {bt bg lg lcap : Nat} {ap ab : Option Addr} {np cp cb : Nat} {ar ce : Int} {pv ov lv : Value} {O : List Nat} {I : Nat → Option Nat} (hT : TreeM f w bt bg lg lcap #[.slice ap np cp, .int .i64 ar, .int .i64 ce, .slice ab f.blocks.length cb] pv ov lv O I)
    (hO : IsOrder f O) (hD : DomI f O I) (hf : formB f = true) :
    Calls Try.prog 83 #[.pointer (some ⟨bt, 0, none⟩)] w (FrontsR f w) := by
  obtain ⟨hn1, hn2⟩ := formB_nb hf
  obtain ⟨hc0, hc1, hc4, -, hc6⟩ := hT.cells
  have hc3 := hT.graph.at 3 rfl
  have hbtl := hT.tree.lt
  have hbgl := hT.graph.lt
  obtain ⟨lc2, -, -, -, hil, hif⟩ := hT.idom.form
  have hlgl := hT.idom.lt
  obtain ⟨vs0, pa, pc, pb, po, hpe, hpc, hpm, hpl, hpa, hpx, hpy⟩ := hT.preds.parts
  obtain ⟨la, lc, lb, lo, hle2, hlc, hlm, hla, hlx⟩ := hT.place.parts
  have hpln : (predsF f).length = f.blocks.length := by unfold predsF; rw [predI_len]
  rw [hpln] at hpe hpc hpa hpl
  rw [placeI_len] at hle2 hlc hla
  obtain ⟨rfl, hpb⟩ := hpa (by omega)
  obtain ⟨rfl, hlb⟩ := hla (by omega)
  subst hpe hle2
  obtain ⟨h1, h2, h3, h4, h5⟩ := hO.facts
  have HPD := Lib.hid hO.placed
  have HH2 := Lib.hid h2
  have HD := Lib.hid hD
  have HPX := Lib.hid hpx
  have HPY := Lib.hid hpy
  have HLX := Lib.hid hlx
  have HPN := Lib.hid hpln
  have HH3 := Lib.hid h3
  have HIL := Lib.hid hil
  have HC0 := Lib.hid hc0
  obtain ⟨nb, hnb⟩ : ∃ nb, nb = f.blocks.length := ⟨_, rfl⟩
  rw [← hnb] at hn1 hn2 hc1 hc3 hc4 hc6 hpc hpl hlc hil
  have HC1 := Lib.hid hc1
  have HC3 := Lib.hid hc3
  have HC4 := Lib.hid hc4
  have HC6 := Lib.hid hc6
  have HNB := Lib.hid hnb
  have HIB := Lib.hid hil
  have hn0 : (0 : Int) ≤ (nb : Int) := by omega
  clear h1 h2 h3 h4 h5 hO hD hpx hpy hlx hpln hT hf hnb hil hif HIL hpa hla hc1 hc4 hc6
  have HIL := HIB
  clear HIB
  have hmk := run_make_row' (P := Try.prog) 33 22 (.slice none 0 0) 24 Try.underlying33 infoInts rfl .i64 .i64 nb (by omega) (by omega)
  go_enter Try.func83, Try.ntmps83
  go_upto_region 2 with (fail)
  have HRW : Hid (Bag (w.alloc (.cells (madeCells #[.slice none 0 0] nb) 22)) w.heap.size [] w.heap.size 3 (List.replicate nb (.slice none 0 0)) ((List.replicate f.blocks.length ([] : List Nat)).map natI)) := Lib.hid (by
    rw [List.map_replicate, ← HNB.out]
    exact Bag.empty (Box.new _ _ _))
  have HW : Hid (Below w.heap.size w (w.alloc (.cells (madeCells #[.slice none 0 0] nb) 22))) := Lib.hid ((Below.refl _ _).alloc (Nat.le_refl _) _)
  obtain ⟨bp, hbp⟩ : ∃ bp, bp = w.heap.size := ⟨_, rfl⟩
  have HBP : Hid (w.heap.size ≤ bp) := Lib.hid (by omega)
  have e9 : (⟨w.heap.size, 0, none⟩ : Addr) = ⟨bp, 0, none⟩ := by rw [hbp]
  rw [e9]
  have HRW : Hid (Bag (w.alloc (.cells (madeCells #[.slice none 0 0] nb) 22)) w.heap.size [] bp 3 (List.replicate nb (.slice none 0 0)) ((List.replicate f.blocks.length ([] : List Nat)).map natI)) := Lib.hid (by
    rw [hbp]; exact HRW.out)
  generalize w.alloc _ = wa at *
  clear hbp hmk e9 hc3 hc0
  have d0 := (HW.out.cell (p := ⟨bt, 0, none⟩) hbtl).trans HC0.out
  have d3 := (HW.out.cell (p := ⟨bg, 3, none⟩) hbgl).trans HC3.out
  have HF0 := Lib.hid (FrSt.start f)
  go_wp2_with fail
  clear d0 d3
  go_loopw [27] (fun i wr => ∃ (b : Nat) (vs : List Value) (L : List (List Nat)), b ≤ nb ∧ i = .int .i64 b ∧ Bag wr w.heap.size [] bp 3 vs (L.map natI) ∧ FrSt f b (fun _ => False) L ∧ Below w.heap.size w wr) (fun i _ => nb - (intOf i).toNat)
  case atStart => exact ⟨0, _, _, Nat.zero_le _, rfl, HRW.out, HF0.out, HW.out⟩
  case round =>
    obtain ⟨b, vs, L, hb, rfl, hR, hF, hW⟩ := hrel
    clear HRW HF0 HW
    have HBG := Lib.hid hR
    have HFS := Lib.hid hF
    have HW := Lib.hid hW
    clear hR hF hW
    generalize wr = w3 at *
    by_cases hlt : b < nb
    · have d0 := (HW.out.cell (p := ⟨bt, 0, none⟩) hbtl).trans HC0.out
      have d6 := (HW.out.cell (p := ⟨bg, 6, none⟩) hbgl).trans HC6.out
      have d4 := (HW.out.cell (p := ⟨bg, 4, none⟩) hbgl).trans HC4.out
      have dpl := (HW.out.cell (p := ⟨lb, lo + b, none⟩) hlb).trans (HLX.out b (by rw [placeI_len, ← HNB.out]; exact hlt))
      rw [List.getD_eq_getElem?_getD, placeI_at (by rw [← HNB.out]; exact hlt), Option.getD_some] at dpl
      by_cases hbO : b ∈ O
      · rw [if_pos hbO] at dpl
        have HWB := Lib.hid ((HH2.out b).1 hbO)
        have hneg : decide (((O.idxOf b : Nat) : Int) < 0) = false := by simp
        generalize O.idxOf b = ib at *
        obtain ⟨ps, hps⟩ : ∃ ps, ps = predN f f.blocks.length 0 b := ⟨_, rfl⟩
        have HPS : Hid (∀ p, Way (toB f) (-1) p → (p ∈ ps ↔ b ∈ toB f p)) := Lib.hid (fun p hp => by
          rw [hps, predN_zero, List.mem_filter]
          constructor
          · intro h; simpa using h.2
          · intro h; exact ⟨List.mem_range.2 (HH3.out p ((HH2.out p).2 hp)), by simpa using h⟩)
        have hpg : (predsF f).getD b [] = natI ps := by
          rw [hps, List.getD_eq_getElem?_getD]
          unfold predsF
          rw [predI_at (by rw [← HNB.out]; exact hlt)]
          rfl
        have hPS : ∀ p ∈ ps, p < nb ∧ b ∈ toB f p := fun p hp => by
          rw [hps, predN_zero] at hp
          rw [HNB.out]
          exact ⟨List.mem_range.1 (List.mem_filter.1 hp).1, by simpa using (List.mem_filter.1 hp).2⟩
        have hcp := (HW.out.cell (p := ⟨pb, po + b, none⟩) hpb).trans (HPX.out b (by rw [HPN.out, ← HNB.out]; exact hlt))
        have hIP : Ints w (vs0.getD b undef) (natI ps) := by
          have h9 := HPY.out b (by rw [HPN.out, ← HNB.out]; exact hlt)
          rwa [hpg] at h9
        have hml : ps.length ≤ nb + 1 := by rw [hps, HNB.out]; exact predN_le f f.blocks.length 0 b
        obtain ⟨qa, qc, qb, qo, hqe, hqc, hqm, hqa, hqx⟩ := hIP.parts
        rw [hqe] at hcp
        obtain ⟨pl, hpl2⟩ : ∃ pl, pl = ps.length := ⟨_, rfl⟩
        rw [natI_len, ← hpl2] at hcp hqc hqa
        rw [← hpl2] at hml
        have HPL2 := Lib.hid hpl2
        have HQA := Lib.hid hqa
        have HQX := Lib.hid hqx
        have HPSL := Lib.hid hPS
        clear hbO hps hpg hPS hIP hqe hpl2 hqa hqx
        have HFP : Hid (FrSt f b (PredP f b (ps.take 0)) L) := Lib.hid (HFS.out.iff fun a => ⟨False.elim, fun ⟨p, hp, _⟩ => by simp at hp⟩)
        go_wp2_with fail
        clear d0 d6 d4 dpl hcp hneg
        go_loopw [52] (fun qv wr => ∃ (q : Nat) (vs : List Value) (L : List (List Nat)), q ≤ pl ∧ qv = .int .i64 q ∧ Bag wr w.heap.size [] bp 3 vs (L.map natI) ∧ FrSt f b (PredP f b (ps.take q)) L ∧ Below w.heap.size w wr) (fun qv _ => pl - (intOf qv).toNat)
        case atStart => exact ⟨0, vs, L, Nat.zero_le _, rfl, HBG.out, HFP.out, HW.out⟩
        case round =>
          obtain ⟨q, vs1, L1, hq, rfl, hR, hF, hW⟩ := hrel
          clear HBG HFS HFP HW
          have HBG := Lib.hid hR
          have HFP := Lib.hid hF
          have HW := Lib.hid hW
          clear hR hF hW
          generalize wr = w5 at *
          by_cases hltq : q < pl
          · obtain ⟨rfl, hqb⟩ := HQA.out (by omega)
            obtain ⟨p, hp⟩ : ∃ p, ps[q]? = some p := ⟨_, List.getElem?_eq_getElem (by have := HPL2.out; omega)⟩
            obtain ⟨hpl3, hbp⟩ := HPSL.out p (List.mem_of_getElem? hp)
            have HBTO := Lib.hid hbp
            have hcq := (HW.out.cell (p := ⟨qb, qo + q, none⟩) hqb).trans (HQX.out q (by rw [natI_len, ← HPL2.out]; exact hltq))
            rw [show (natI ps).getD q 0 = (p : Int) by unfold natI; rw [List.getD_eq_getElem?_getD, List.getElem?_map, hp]; rfl] at hcq
            have HTK : Hid (ps.take (q + 1) = ps.take q ++ [p]) := Lib.hid (take_snoc _ _ _ hp)
            have d0 := (HW.out.cell (p := ⟨bt, 0, none⟩) hbtl).trans HC0.out
            have d6 := (HW.out.cell (p := ⟨bg, 6, none⟩) hbgl).trans HC6.out
            have dpl := (HW.out.cell (p := ⟨lb, lo + p, none⟩) hlb).trans (HLX.out p (by rw [placeI_len, ← HNB.out]; exact hpl3))
            rw [List.getD_eq_getElem?_getD, placeI_at (by rw [← HNB.out]; exact hpl3), Option.getD_some] at dpl
            clear hp hbp
            by_cases hpO : p ∈ O
            · rw [if_pos hpO] at dpl
              have HWP := Lib.hid ((HH2.out p).1 hpO)
              have hneg : decide (((O.idxOf p : Nat) : Int) < 0) = false := by simp
              have HAT : Hid (AtI I b p (p : Int)) := Lib.hid ⟨.inr ⟨p, rfl, .refl⟩, fun r hr => anx_nat.2 (idom_over HD.out HWP.out HBTO.out hr)⟩
              have HFS : Hid (FrSt f b (Passed I (PredP f b (ps.take q)) p (p : Int)) L1) := Lib.hid (HFP.out.iff fun a => Passed.start)
              generalize hip : O.idxOf p = ip at *
              clear hip hpO
              go_wp2_with fail
              clear d0 d6 dpl hneg hcq
              go_loopw [7] (fun av wr => ∃ (x : Int) (vs : List Value) (L : List (List Nat)), av = .int .i64 x ∧ AtI I b p x ∧ Bag wr w.heap.size [] bp 3 vs (L.map natI) ∧ FrSt f b (Passed I (PredP f b (ps.take q)) p x) L ∧ Below w.heap.size w wr) (fun av _ => if intOf av < 0 then 0 else O.idxOf (intOf av).toNat + 1)
              case atStart => exact ⟨p, vs1, L1, rfl, HAT.out, HBG.out, HFS.out, HW.out⟩
              case round =>
                obtain ⟨x, vs2, L2, rfl, hA, hR, hF, hW⟩ := hrel
                clear HAT HBG HFS HFP HW
                have HAT := Lib.hid hA
                have HBG := Lib.hid hR
                have HFS := Lib.hid hF
                have HW := Lib.hid hW
                clear hA hR hF hW
                generalize wr = w7 at *
                have d1 := (HW.out.cell (p := ⟨bt, 1, none⟩) hbtl).trans HC1.out
                have db := (HW.out.cell (p := ⟨lg, b, none⟩) hlgl).trans (HIL.out b _ (encI_atO hlt))
                obtain ⟨y, hy⟩ : ∃ y, y = encO (I b) := ⟨_, rfl⟩
                rw [← hy] at db
                have HY := Lib.hid hy
                clear hy
                by_cases hstop : x < 0 ∨ x = y
                · have HFN : Hid (FrSt f b (PredP f b (ps.take (q + 1))) L2) := Lib.hid (HFS.out.iff fun a => by
                    rw [HTK.out, PredP.snoc]
                    have hx : x = encO (I b) := by
                      rcases hstop with h | h
                      · rcases HAT.out.1 with e | ⟨m, e, _⟩
                        · cases hI : I b with
                          | none => exact e
                          | some r =>
                            obtain ⟨k, e2, _⟩ := HAT.out.2 r hI
                            omega
                        · omega
                      · rw [h, HY.out]
                    unfold Passed
                    rw [hx, front_end HD.out HWP.out HBTO.out]
                    exact ⟨fun h => h.imp id fun h => ⟨HWP.out, h⟩, fun h => h.imp id fun h => h.2⟩)
                  rcases Decidable.em (x < 0) with hx0 | hx0
                  · have hge : decide (0 ≤ x) = false := by simp; omega
                    clear hstop
                    go_wp2
                    go_roundw
                    case rel => exact ⟨q + 1, vs2, L2, hltq, by go_num, HBG.out, HFN.out, HW.out⟩
                    case measure => simp [intOf]; omega
                  · have hge : decide (0 ≤ x) = true := by simp; omega
                    have hxy : (x != y) = false := by simp; omega
                    clear hstop
                    go_wp2
                    go_roundw
                    case rel => exact ⟨q + 1, vs2, L2, hltq, by go_num, HBG.out, HFN.out, HW.out⟩
                    case measure => simp [intOf]; omega
                · obtain ⟨m, rfl⟩ : ∃ m : Nat, x = (m : Int) := ⟨x.toNat, by omega⟩
                  have hge : decide ((0 : Int) ≤ (m : Int)) = true := by simp
                  have hxy : ((m : Int) != y) = true := by simp; omega
                  have HNE : Hid (∀ r, I b = some r → m ≠ r) := Lib.hid (fun r hr e => by
                    have := HY.out
                    rw [hr] at this
                    simp only [encO] at this
                    omega)
                  have HMP : Hid (Anc I m p) := Lib.hid (by
                    rcases HAT.out.1 with e | ⟨k, e, h⟩
                    · omega
                    · have : m = k := by omega
                      subst this; exact h)
                  have HWM : Hid (Way (toB f) (-1) m) := Lib.hid (HD.out.tree.proc_way (HD.out.tree.procs HMP.out (HD.out.proc HWP.out)))
                  have hml : m < nb := by rw [HNB.out]; exact HH3.out m ((HH2.out m).2 HWM.out)
                  have HAT2 := Lib.hid (HAT.out.up HNE.out)
                  have HMS : Hid ((if encO (I m) < 0 then 0 else O.idxOf (encO (I m)).toNat + 1) < (if (m : Int) < 0 then 0 else O.idxOf (m : Int).toNat + 1)) := Lib.hid (by
                    rw [if_neg (by omega : ¬ (m : Int) < 0), Int.toNat_natCast]
                    cases hI : I m with
                    | none => simp [encO]
                    | some r =>
                      have h9 : O.idxOf r < O.idxOf m := (HD.out.tree.par hI).2.2.1
                      show (if (r : Int) < 0 then 0 else O.idxOf (r : Int).toNat + 1) < O.idxOf m + 1
                      rw [if_neg (by omega : ¬ (r : Int) < 0), Int.toNat_natCast]
                      omega)
                  obtain ⟨l, hl⟩ : ∃ l, L2[m]? = some l := ⟨_, List.getElem?_eq_getElem (by rw [HFS.out.1, ← HNB.out]; exact hml)⟩
                  have HL := Lib.hid hl
                  have hlx : (L2.map natI)[m]? = some (natI l) := by rw [List.getElem?_map, hl]; rfl
                  obtain ⟨v, hvm, hcv, hOv⟩ := HBG.out.at hlx
                  have hlb : l.length ≤ b + 1 := asc_le (HFS.out.2 m l hl).1 (fun c hc => by have := (HFS.out.2 m l hl).2.1 c hc; omega)
                  obtain ⟨n, hn⟩ : ∃ n, n = (natI l).length := ⟨_, rfl⟩
                  have hnle : n ≤ b + 1 := by rw [hn, natI_len]; exact hlb
                  have HIN : Hid (Ints w7 v (natI l)) := Lib.hid (Ints.of_own hOv.row (by rw [← hn]; omega) (natI_64 fun c hc => by have := (HFS.out.2 m l hl).2.1 c hc; omega))
                  obtain ⟨cc, hcc⟩ : ∃ cc, cc = (natI l).contains (b : Int) := ⟨_, rfl⟩
                  have HCC : Hid (cc = true ↔ b ∈ l) := Lib.hid (by rw [hcc, natI_mem])
                  have HCT := Lib.hid (containsInts (x := (b : Int)) HIN.out)
                  rw [← hcc] at HCT
                  rw [← hn] at hOv
                  have HN := Lib.hid hn
                  have HO := Lib.hid hOv
                  have HVM := Lib.hid hvm
                  have HLX2 := Lib.hid hlx
                  obtain ⟨va, vc, rfl⟩ := hOv.form
                  have hbpl := HBG.out.box.lt
                  have hbpf := HBG.out.box.free m
                  clear hstop hl hlx hvm hOv hlb hn hcc
                  go_wp2_with fail
                  refine HCT.out.mono ?_
                  rintro e w8 ⟨rfl, rfl⟩
                  clear d1 db
                  cases cc
                  · have HNM : Hid (b ∉ l) := Lib.hid (fun h => by have := HCC.out.2 h; cases this)
                    have HAP := Lib.hid (HO.out.alloc (.cells #[.int .i64 b] 3))
                    have HBX1 := Lib.hid (Box.new w7 #[.int .i64 b] 3)
                    have HBR := Lib.hid (HBG.out.alloc (.cells #[.int .i64 b] 3))
                    have HWA := Lib.hid (HW.out.alloc HW.out.size (.cells #[.int .i64 b] 3))
                    go_upto_region 12 with (at_builtin; refine wpList_kept rfl _ _ 22 3 rfl elInt rfl rfl HAP.out (Row.of_box (n := 1) (size := 1) HBX1.out rfl (by omega)) (by simp [Value.oneCell']) (by unfold maxLen; omega) (by omega) HWA.out.size (by intro y hy; simp at hy ⊢; omega) ?_; intro v7 w8 hO7 hK7; obtain ⟨oa7, oc7, rfl⟩ := hO7.form; have HO7 := Lib.hid hO7; have HK7 := Lib.hid hK7; have hc7 : w8.cell? ⟨bp, m, none⟩ = some (.slice va n vc) := (HBR.out.box.kept hK7 (by simp) (fun e => HO.out.free _ e (by simp))).at m (by simpa using HVM.out); have hf7 : w8.frozen? ⟨bp, m, none⟩ = false := (HBR.out.box.kept hK7 (by simp) (fun e => HO.out.free _ e (by simp))).free m; clear hO7 hK7)
                    have HR7 : Hid (Bag (w8.setCell ⟨bp, m, none⟩ (.slice oa7 (n + 1) oc7)) w.heap.size [] bp 3 (vs2.set m (.slice oa7 (n + 1) oc7)) ((L2.set m (l ++ [b])).map natI)) := Lib.hid (by
                      have e9 : natI (l ++ [b]) = natI l ++ [(b : Int)] := by simp [natI]
                      rw [List.map_set, e9]
                      refine HBR.out.put HVM.out HLX2.out ?_ HK7.out
                      rw [List.length_append, List.map_append, ← HN.out]
                      exact HO7.out)
                    have HW7 := Lib.hid ((HK7.out.below HWA.out (by simp) (fun k hk => (HAP.out.lt hk).2)).setCell (p := ⟨bp, m, none⟩) HBP.out (.slice oa7 (n + 1) oc7))
                    have HFS2 : Hid (FrSt f b (Passed I (PredP f b (ps.take q)) p (encO (I m))) (L2.set m (l ++ [b]))) := Lib.hid ((HFS.out.add HL.out HNM.out).iff fun a => Passed.step HD.out.tree HMP.out)
                    clear hc7 hf7 hbpl hbpf hcv HW HBG
                    obtain ⟨L3, hL3⟩ : ∃ L3, L3 = L2.set m (l ++ [b]) := ⟨_, rfl⟩
                    obtain ⟨vs3, hvs3⟩ : ∃ vs3, vs3 = vs2.set m (.slice oa7 (n + 1) oc7) := ⟨_, rfl⟩
                    rw [← hL3, ← hvs3] at HR7
                    rw [← hL3] at HFS2
                    clear hL3 hvs3
                    have HW := HW7
                    have d1 := (HW.out.cell (p := ⟨bt, 1, none⟩) hbtl).trans HC1.out
                    have dm := (HW.out.cell (p := ⟨lg, m, none⟩) hlgl).trans (HIL.out m _ (encI_atO hml))
                    go_wp2
                    go_roundw
                    case rel => exact ⟨encO (I m), vs3, L3, rfl, HAT2.out, HR7.out, HFS2.out, HW7.out⟩
                    case measure => exact HMS.out
                  · have HNM : Hid (b ∈ l) := Lib.hid (HCC.out.1 rfl)
                    have HFS2 : Hid (FrSt f b (Passed I (PredP f b (ps.take q)) p (encO (I m))) L2) := Lib.hid ((HFS.out.old HL.out HNM.out).iff fun a => Passed.step HD.out.tree HMP.out)
                    have d1 := (HW.out.cell (p := ⟨bt, 1, none⟩) hbtl).trans HC1.out
                    have d0 := (HW.out.cell (p := ⟨bt, 0, none⟩) hbtl).trans HC0.out
                    have dm := (HW.out.cell (p := ⟨lg, m, none⟩) hlgl).trans (HIL.out m _ (encI_atO hml))
                    go_wp2
                    go_roundw
                    case rel => exact ⟨encO (I m), vs2, L2, rfl, HAT2.out, HBG.out, HFS2.out, HW.out⟩
                    case measure => exact HMS.out
            · rw [if_neg hpO] at dpl
              have HFN : Hid (FrSt f b (PredP f b (ps.take (q + 1))) L1) := Lib.hid (HFP.out.iff fun a => by
                rw [HTK.out, PredP.snoc]
                exact ⟨.inl, fun h => h.elim id fun h => absurd ((HH2.out p).2 h.1) hpO⟩)
              clear hpO
              go_wp2
              go_roundw
              case rel => exact ⟨q + 1, vs1, L1, hltq, by go_num, HBG.out, HFN.out, HW.out⟩
              case measure => simp [intOf]; omega
          · have hqpl : q = pl := by omega
            have HFN : Hid (FrSt f (b + 1) (fun _ => False) L1) := Lib.hid (HFP.out.next fun a => by
              rw [List.take_of_length_le (by have := HPL2.out; omega)]
              exact PredP.all HPS.out)
            clear hqpl
            go_wp2
            go_roundw
            case rel => exact ⟨b + 1, vs1, L1, hlt, by go_num, HBG.out, HFN.out, HW.out⟩
            case measure => simp [intOf]; omega
      · rw [if_neg hbO] at dpl
        have HFN : Hid (FrSt f (b + 1) (fun _ => False) L) := Lib.hid (HFS.out.next fun a => ⟨False.elim, fun h => (front_not (fun hw => hbO ((HH2.out b).2 hw)) h).elim⟩)
        clear hbO d4
        go_wp2
        go_roundw
        case rel => exact ⟨b + 1, vs, L, hlt, by go_num, HBG.out, HFN.out, HW.out⟩
        case measure => simp [intOf]; omega
    · have hbn : b = nb := by omega
      have HDN : Hid (FrDone f L) := Lib.hid (FrSt.done (P := fun _ => False) (by have h9 := HFS.out; rw [hbn, HNB.out] at h9; exact h9))
      have HLS : Hid (Lists w3 (.slice (some ⟨bp, 0, none⟩) nb nb) (L.map natI)) := Lib.hid (by
        have h3 : (L.map natI).length = nb := by rw [List.length_map, HDN.out.1, HNB.out]
        have h2 := HBG.out.lists (by rw [h3]; omega) (fun xs hxs => by
          rw [List.mem_map] at hxs
          obtain ⟨l, hl, rfl⟩ := hxs
          obtain ⟨a, ha⟩ := List.mem_iff_getElem?.1 hl
          obtain ⟨k1, k2⟩ := HDN.out.2 a l ha
          have k3 : ∀ c ∈ l, c < nb := fun c hc => by rw [HNB.out]; exact ((k2 c).1 hc).1
          exact ⟨by rw [natI_len]; have := asc_le k1 k3; omega, natI_64 fun c hc => by have := k3 c hc; omega⟩)
        rw [h3] at h2; exact h2)
      clear hbn
      go_wp2
      go_ret
      exact ⟨_, L, rfl, HLS.out, HDN.out, HW.out⟩
end Go.Proofs.Ytefpmjnimnmniaa
