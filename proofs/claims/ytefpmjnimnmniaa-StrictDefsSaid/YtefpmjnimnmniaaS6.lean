/- strict: what awake asks; StrictDefs: the law. -/
import Derived.Test.YtefpmjnimnmniaaS5
namespace Go.Proofs.Ytefpmjnimnmniaa
set_option linter.unusedSimpArgs false
set_option linter.unusedVariables false
open Go.RowKit

private theorem Since.alloc {w0 W : World} (h : Since w0 W) (o : Obj) : Since w0 (W.alloc o) := h.later ((Below.refl _ _).alloc (Nat.le_refl _) o)
theorem entF_simplest : entF simplest = [(0, 0, 0)] := by decide
set_option maxHeartbeats 12800000 in
set_option maxRecDepth 100000 in
theorem openS {w : World} {ci bb : Nat} (hi : Box w ci #[.int .i64 1, .int .i64 0, .slice none 0 0, .int .i64 5]) (hb : Box w bb #[.slice none 0 0, .slice (some ⟨ci, 0, none⟩) 1 1, .int .i64 3, .int .i64 0, .slice none 0 0, .int .i64 0]) :
    Calls Try.prog 89 #[.agg #[.slice none 0 0, .int .i64 0, .int .i64 0, .slice (some ⟨bb, 0, none⟩) 1 1]] w fun e w' => ∃ p, e = .returned (.tuple #[p, .int .i64 0, .int .i64 0]) ∧ Below w.heap.size w w' := by
  have HI := Lib.hid hi
  have HB := Lib.hid hb
  have HV := Lib.hid (simplest_val hi hb)
  clear hi hb
  go_enter Try.func89, Try.ntmps89
  go_upto_region 1 with (fail)
  have B1 : Hid (Box (w.alloc (.cells #[.slice none 0 0, .int .i64 0, .int .i64 0, .slice (some ⟨bb, 0, none⟩) 1 1] 30)) (w.heap.size) #[.slice none 0 0, .int .i64 0, .int .i64 0, .slice (some ⟨bb, 0, none⟩) 1 1]) := Lib.hid (by simpa using (Box.new w #[.slice none 0 0, .int .i64 0, .int .i64 0, .slice (some ⟨bb, 0, none⟩) 1 1] 30))
  have HW : Hid (Below w.heap.size w (w.alloc (.cells #[.slice none 0 0, .int .i64 0, .int .i64 0, .slice (some ⟨bb, 0, none⟩) 1 1] 30))) := Lib.hid ((Below.refl _ _).alloc (Nat.le_refl _) _)
  generalize (w.alloc (.cells #[.slice none 0 0, .int .i64 0, .int .i64 0, .slice (some ⟨bb, 0, none⟩) 1 1] 30)) = wv at *
  obtain ⟨lB1, cB1, fB1⟩ := B1.out
  go_wp2_with fail
  refine (domOpen (HV.out.below HW.out)).mono ?_
  rintro e w2 ⟨hb, ⟨hc0, -⟩ | ⟨-, bt, bg, lg, lcap, g, pv, ov, lv, O, I, rfl, hvg, hO, hT, hD⟩⟩
  · exact absurd simplest_ok.1 hc0
  · injection hvg with hvg
    subst hvg
    obtain ⟨t0, -, -, -, t6⟩ := hT.cells
    have t3 : w2.cell? ⟨bg, 3, none⟩ = some (.slice (some ⟨bb, 0, none⟩) 1 1) := hT.graph.at 3 rfl
    have HPL := Lib.hid hT.place
    have HNO : Hid (idxI (placeI simplest.blocks.length O O.length) (-1) = -1) := Lib.hid (by
      have hl1 : simplest.blocks.length = 1 := rfl
      refine idxI_no ?_
      intro hm
      obtain ⟨j, hj⟩ := List.mem_iff_getElem?.1 hm
      have hl := (List.getElem?_eq_some_iff.1 hj).1
      rw [placeI_len, hl1] at hl
      obtain rfl : j = 0 := by omega
      rw [placeI_at (by rw [hl1]; omega)] at hj
      obtain ⟨p1, p2, p3, p4, p5⟩ := hO.facts
      rw [if_pos ((p2 0).2 (.zero (by decide)))] at hj
      injection hj with hj
      omega)
    have HT0 := Lib.hid t0
    have HT3 := Lib.hid t3
    have HT6 := Lib.hid t6
    obtain ⟨S2, hS2⟩ : ∃ S2, S2 = w2 := ⟨_, rfl⟩
    rw [← hS2] at HPL HT0 HT3 HT6
    have HS : Hid (Since S2 w2) := Lib.hid (by rw [hS2]; exact Below.refl _ _)
    clear hO hT hD t0 t3 t6 hS2
    clear lB1 cB1 fB1
    replace B1 := Lib.hid (B1.out.later hb)
    replace HW := Lib.hid (HW.out.trans (hb.mono HW.out.size))
    clear hb
    obtain ⟨lB1, cB1, fB1⟩ := B1.out

    go_wp2_with fail
    refine (irOpen (HV.out.below HW.out)).mono ?_
    rintro e w3 ⟨hb, m, rfl, -, -⟩
    rw [simplest_ok.1]
    clear lB1 cB1 fB1
    replace B1 := Lib.hid (B1.out.later hb)
    replace HS := Lib.hid (HS.out.later hb)
    replace HW := Lib.hid (HW.out.trans (hb.mono HW.out.size))
    clear hb
    obtain ⟨lB1, cB1, fB1⟩ := B1.out
    go_wp2_with fail
    refine (strictDefs (HV.out.below HW.out)).mono ?_
    rintro e w4 ⟨bm, rfl, hm, -, hb⟩
    have HMP := Lib.hid hm
    clear hm
    clear lB1 cB1 fB1
    replace B1 := Lib.hid (B1.out.later hb)
    replace HS := Lib.hid (HS.out.later hb)
    replace HW := Lib.hid (HW.out.trans (hb.mono HW.out.size))
    clear hb
    obtain ⟨lB1, cB1, fB1⟩ := B1.out

    go_upto_region 6 with (fail)
    have nBSB1 : w4.heap.size ≠ w.heap.size := fun e => by have := lB1; omega
    have nB1BS : w.heap.size ≠ w4.heap.size := fun e => nBSB1 e.symm
    have B1_ : Box (w4.alloc (.cells #[.pointer (some ⟨bt, 0, none⟩), .map m, .map (some bm)] 156)) (w.heap.size) #[.slice none 0 0, .int .i64 0, .int .i64 0, .slice (some ⟨bb, 0, none⟩) 1 1] := by simpa using (B1.out.alloc _)
    have BS_ : Box (w4.alloc (.cells #[.pointer (some ⟨bt, 0, none⟩), .map m, .map (some bm)] 156)) (w4.heap.size) #[.pointer (some ⟨bt, 0, none⟩), .map m, .map (some bm)] := by simpa using (Box.new w4 #[.pointer (some ⟨bt, 0, none⟩), .map m, .map (some bm)] 156)
    have HS_ := (HS.out.alloc (.cells #[.pointer (some ⟨bt, 0, none⟩), .map m, .map (some bm)] 156))
    have HMP_ := (HMP.out.alloc (.cells #[.pointer (some ⟨bt, 0, none⟩), .map m, .map (some bm)] 156))
    have HW_ : Below w.heap.size w (w4.alloc (.cells #[.pointer (some ⟨bt, 0, none⟩), .map m, .map (some bm)] 156)) := (HW.out.alloc (by first | exact Nat.le_refl _ | exact HW.out.size | (simp only [World.size_alloc, World.size_setCell]; have := HW.out.size; omega)) _)
    clear lB1 cB1 fB1
    clear B1 HS HMP HW
    generalize (w4.alloc (.cells #[.pointer (some ⟨bt, 0, none⟩), .map m, .map (some bm)] 156)) = w5 at *
    have B1 := Lib.hid B1_
    clear B1_
    have BS := Lib.hid BS_
    clear BS_
    have HS := Lib.hid HS_
    clear HS_
    have HMP := Lib.hid HMP_
    clear HMP_
    have HW := Lib.hid HW_
    clear HW_
    obtain ⟨lB1, cB1, fB1⟩ := B1.out
    obtain ⟨lBS, cBS, fBS⟩ := BS.out
    have HSS : Hid (SimpleS w5 w4.heap.size bt bg bb ci bm (.map m) (defM (entF simplest))) := Lib.hid ⟨BS.out, (Below.cell HS.out (World.block_lt_of_cell? S2 _ HT0.out)).trans HT0.out, (Below.cell HS.out (World.block_lt_of_cell? S2 _ HT3.out)).trans HT3.out, HB.out.later HW.out, HI.out.later HW.out, HMP.out, by rw [entF_simplest]; rfl⟩
    have d0 := HSS.out.t
    have d6 := (Below.cell HS.out (World.block_lt_of_cell? S2 _ HT6.out)).trans HT6.out
    go_wp2_with fail
    refine (indexInts (x := -1) (HPL.out.below HS.out)).mono ?_
    rintro e w6 ⟨rfl, rfl⟩
    rw [HNO.out]
    clear d0 d6
    go_wp2_with fail
    go_loopw [49] (fun i wr => ∃ j : Nat, j ≤ 1 ∧ i = .int .i64 j ∧ Below w.heap.size w wr ∧ Box wr w.heap.size #[.slice none 0 0, .int .i64 0, .int .i64 0, .slice (some ⟨bb, 0, none⟩) 1 1] ∧ SimpleS wr w4.heap.size bt bg bb ci bm (.map m) (defM (entF simplest))) (fun i _ => 1 - (intOf i).toNat)
    case atStart => exact ⟨0, by omega, rfl, HW.out, B1.out, HSS.out⟩
    case round =>
      obtain ⟨j, hj, rfl, hW, hB1, hS⟩ := hrel
      clear lBS cBS fBS BS
      clear lB1 cB1 fB1
      replace HW := Lib.hid hW
      replace B1 := Lib.hid hB1
      replace HSS := Lib.hid hS
      clear hW hB1 hS HS HMP
      generalize wr = w7 at *



      obtain ⟨lB1, cB1, fB1⟩ := B1.out
      by_cases hlt : j < 1
      · obtain rfl : j = 0 := by omega
        go_wp2_with fail
        refine (phisS HSS.out).mono ?_
        rintro e w8 ⟨rfl, hb⟩
        clear lB1 cB1 fB1
        replace B1 := Lib.hid (B1.out.later hb)
        replace HSS := Lib.hid (HSS.out.later hb)
        replace HW := Lib.hid (HW.out.trans (hb.mono HW.out.size))
        clear hb
        obtain ⟨lB1, cB1, fB1⟩ := B1.out
        go_wp2
        go_roundw
        case rel => exact ⟨1, by omega, by go_num, HW.out, B1.out, HSS.out⟩
        case measure => simp [intOf]
      · go_wp2_with fail
        go_loopw [61] (fun i wr => ∃ j : Nat, j ≤ 1 ∧ i = .int .i64 j ∧ Below w.heap.size w wr ∧ SimpleS wr w4.heap.size bt bg bb ci bm (.map m) (defM (entF simplest))) (fun i _ => 1 - (intOf i).toNat)
        case atStart => exact ⟨0, by omega, rfl, HW.out, HSS.out⟩
        case round =>
          obtain ⟨j, hj, rfl, hW, hS⟩ := hrel
          clear lB1 cB1 fB1 B1
          replace HW := Lib.hid hW
          replace HSS := Lib.hid hS
          clear hW hS
          generalize wr = w9 at *



          by_cases hlt : j < 1
          · obtain rfl : j = 0 := by omega
            go_wp2_with fail
            refine (usesS HSS.out).mono ?_
            rintro e w10 ⟨rfl, hb⟩
            replace HSS := Lib.hid (HSS.out.later hb)
            replace HW := Lib.hid (HW.out.trans (hb.mono HW.out.size))
            clear hb
            go_wp2
            go_roundw
            case rel => exact ⟨1, by omega, by go_num, HW.out, HSS.out⟩
            case measure => simp [intOf]
          · obtain rfl : j = 1 := by omega
            go_wp2
            go_ret3
            exact ⟨_, rfl, HW.out⟩
set_option maxHeartbeats 3200000 in
theorem checkS {w : World} {ci bb : Nat} (hi : Box w ci #[.int .i64 1, .int .i64 0, .slice none 0 0, .int .i64 5]) (hb : Box w bb #[.slice none 0 0, .slice (some ⟨ci, 0, none⟩) 1 1, .int .i64 3, .int .i64 0, .slice none 0 0, .int .i64 0]) :
    Calls Try.prog 59 #[.agg #[.slice none 0 0, .int .i64 0, .int .i64 0, .slice (some ⟨bb, 0, none⟩) 1 1]] w fun e w' => e = .returned (.tuple #[.int .i64 0, .int .i64 0]) ∧ Below w.heap.size w w' := by
  have HI := Lib.hid hi
  have HB := Lib.hid hb
  clear hi hb
  go_enter Try.func59, Try.ntmps59
  go_upto_region 1 with (fail)
  have B1 : Hid (Box (w.alloc (.cells #[.slice none 0 0, .int .i64 0, .int .i64 0, .slice (some ⟨bb, 0, none⟩) 1 1] 30)) (w.heap.size) #[.slice none 0 0, .int .i64 0, .int .i64 0, .slice (some ⟨bb, 0, none⟩) 1 1]) := Lib.hid (by simpa using (Box.new w #[.slice none 0 0, .int .i64 0, .int .i64 0, .slice (some ⟨bb, 0, none⟩) 1 1] 30))
  have HW : Hid (Below w.heap.size w (w.alloc (.cells #[.slice none 0 0, .int .i64 0, .int .i64 0, .slice (some ⟨bb, 0, none⟩) 1 1] 30))) := Lib.hid ((Below.refl _ _).alloc (Nat.le_refl _) _)
  generalize (w.alloc (.cells #[.slice none 0 0, .int .i64 0, .int .i64 0, .slice (some ⟨bb, 0, none⟩) 1 1] 30)) = wv at *
  obtain ⟨lB1, cB1, fB1⟩ := B1.out
  go_wp2_with fail
  refine (openS (HI.out.later HW.out) (HB.out.later HW.out)).mono ?_
  rintro e w2 ⟨p, rfl, hb⟩
  clear lB1 cB1 fB1
  replace B1 := Lib.hid (B1.out.later hb)
  replace HW := Lib.hid (HW.out.trans (hb.mono HW.out.size))
  clear hb
  obtain ⟨lB1, cB1, fB1⟩ := B1.out
  go_wp2
  go_ret2
  exact ⟨rfl, HW.out⟩
end Go.Proofs.Ytefpmjnimnmniaa
