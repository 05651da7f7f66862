/- What the claim needs, part 32. -/
import Derived.Test.YtefpmjnimnmniaaH31
namespace Go.Proofs.Ytefpmjnimnmniaa
set_option linter.unusedSimpArgs false
set_option linter.unusedVariables false
open Go.RowKit
private theorem Since.alloc {w0 W : World} (h : Since w0 W) (o : Obj) : Since w0 (W.alloc o) := h.later ((Below.refl _ _).alloc (Nat.le_refl _) o)
theorem entF_simplest : entF simplest = [(0, 0, 0)] := by decide
set_option maxHeartbeats 12800000 in
set_option maxRecDepth 100000 in
theorem openS {w : World} {ci bb : Nat} (hi : Box w ci #[.int .i64 1, .int .i64 0, .slice none 0 0, .int .i64 5]) (hb : Box w bb #[.slice none 0 0, .slice (some ⟨ci, 0, none⟩) 1 1, .int .i64 3, .int .i64 0, .slice none 0 0, .int .i64 0]) :
    Calls Try.prog 89 #[.agg #[.slice none 0 0, .int .i64 0, .int .i64 0, .slice (some ⟨bb, 0, none⟩) 1 1]] w fun e w' => ∃ p, e = .returned (.tuple #[p, .int .i64 0, .int .i64 0]) ∧ Below w.heap.size w w' := by
  have HI := Lib.hid hi
  have HB := Lib.hid hb
  have HV := Lib.hid (simplest_val hi hb)
  clear hi hb
  go_enter Try.func89, Try.ntmps89
  go_upto_region 1 with (fail)
  have B1 : Hid (Box (w.alloc (.cells #[.slice none 0 0, .int .i64 0, .int .i64 0, .slice (some ⟨bb, 0, none⟩) 1 1] 30)) (w.heap.size) #[.slice none 0 0, .int .i64 0, .int .i64 0, .slice (some ⟨bb, 0, none⟩) 1 1]) := Lib.hid (by simpa using (Box.new w #[.slice none 0 0, .int .i64 0, .int .i64 0, .slice (some ⟨bb, 0, none⟩) 1 1] 30))
  have HW : Hid (Below w.heap.size w (w.alloc (.cells #[.slice none 0 0, .int .i64 0, .int .i64 0, .slice (some ⟨bb, 0, none⟩) 1 1] 30))) := Lib.hid ((Below.refl _ _).alloc (Nat.le_refl _) _)
  generalize (w.alloc (.cells #[.slice none 0 0, .int .i64 0, .int .i64 0, .slice (some ⟨bb, 0, none⟩) 1 1] 30)) = wv at *
  obtain ⟨lB1, cB1, fB1⟩ := B1.out
  go_wp2_with fail
  refine (domOpen (HV.out.below HW.out)).mono ?_
  rintro e w2 ⟨hb, ⟨hc0, -⟩ | ⟨-, bt, bg, lg, lcap, g, pv, ov, lv, O, I, rfl, hvg, hO, hT, hD⟩⟩
  · exact absurd simplest_ok.1 hc0
  · injection hvg with hvg
    subst hvg
    obtain ⟨t0, -, -, -, t6⟩ := hT.cells
    have t3 : w2.cell? ⟨bg, 3, none⟩ = some (.slice (some ⟨bb, 0, none⟩) 1 1) := hT.graph.at 3 rfl
    have HPL := Lib.hid hT.place
    have HNO : Hid (idxI (placeI simplest.blocks.length O O.length) (-1) = -1) := Lib.hid (by
      have hl1 : simplest.blocks.length = 1 := rfl
      refine idxI_no ?_
      intro hm
      obtain ⟨j, hj⟩ := List.mem_iff_getElem?.1 hm
      have hl := (List.getElem?_eq_some_iff.1 hj).1
      rw [placeI_len, hl1] at hl
      obtain rfl : j = 0 := by omega
      rw [placeI_at (by rw [hl1]; omega)] at hj
      obtain ⟨p1, p2, p3, p4, p5⟩ := hO.facts
      rw [if_pos ((p2 0).2 (.zero (by decide)))] at hj
      injection hj with hj
      omega)
    have HT0 := Lib.hid t0
    have HT3 := Lib.hid t3
    have HT6 := Lib.hid t6
    obtain ⟨S2, hS2⟩ : ∃ S2, S2 = w2 := ⟨_, rfl⟩
    rw [← hS2] at HPL HT0 HT3 HT6
    have HS : Hid (Since S2 w2) := Lib.hid (by rw [hS2]; exact Below.refl _ _)
    clear hO hT hD t0 t3 t6 hS2
    clear lB1 cB1 fB1
    replace B1 := Lib.hid (B1.out.later hb)
    replace HW := Lib.hid (HW.out.trans (hb.mono HW.out.size))
    clear hb
    obtain ⟨lB1, cB1, fB1⟩ := B1.out

    go_wp2_with fail
    refine (irOpen (HV.out.below HW.out)).mono ?_
    rintro e w3 ⟨hb, m, rfl, -, -⟩
    rw [simplest_ok.1]
    clear lB1 cB1 fB1
    replace B1 := Lib.hid (B1.out.later hb)
    replace HS := Lib.hid (HS.out.later hb)
    replace HW := Lib.hid (HW.out.trans (hb.mono HW.out.size))
    clear hb
    obtain ⟨lB1, cB1, fB1⟩ := B1.out
    go_wp2_with fail
    refine (strictDefs (HV.out.below HW.out)).mono ?_
    rintro e w4 ⟨bm, rfl, hm, -, hb⟩
    have HMP := Lib.hid hm
    clear hm
    clear lB1 cB1 fB1
    replace B1 := Lib.hid (B1.out.later hb)
    replace HS := Lib.hid (HS.out.later hb)
    replace HW := Lib.hid (HW.out.trans (hb.mono HW.out.size))
    clear hb
    obtain ⟨lB1, cB1, fB1⟩ := B1.out

    go_upto_region 6 with (fail)
    have nBSB1 : w4.heap.size ≠ w.heap.size := fun e => by have := lB1; omega
    have nB1BS : w.heap.size ≠ w4.heap.size := fun e => nBSB1 e.symm
    have B1_ : Box (w4.alloc (.cells #[.pointer (some ⟨bt, 0, none⟩), .map m, .map (some bm)] 156)) (w.heap.size) #[.slice none 0 0, .int .i64 0, .int .i64 0, .slice (some ⟨bb, 0, none⟩) 1 1] := by simpa using (B1.out.alloc _)
    have BS_ : Box (w4.alloc (.cells #[.pointer (some ⟨bt, 0, none⟩), .map m, .map (some bm)] 156)) (w4.heap.size) #[.pointer (some ⟨bt, 0, none⟩), .map m, .map (some bm)] := by simpa using (Box.new w4 #[.pointer (some ⟨bt, 0, none⟩), .map m, .map (some bm)] 156)
    have HS_ := (HS.out.alloc (.cells #[.pointer (some ⟨bt, 0, none⟩), .map m, .map (some bm)] 156))
    have HMP_ := (HMP.out.alloc (.cells #[.pointer (some ⟨bt, 0, none⟩), .map m, .map (some bm)] 156))
    have HW_ : Below w.heap.size w (w4.alloc (.cells #[.pointer (some ⟨bt, 0, none⟩), .map m, .map (some bm)] 156)) := (HW.out.alloc (by first | exact Nat.le_refl _ | exact HW.out.size | (simp only [World.size_alloc, World.size_setCell]; have := HW.out.size; omega)) _)
    clear lB1 cB1 fB1
    clear B1 HS HMP HW
    generalize (w4.alloc (.cells #[.pointer (some ⟨bt, 0, none⟩), .map m, .map (some bm)] 156)) = w5 at *
    have B1 := Lib.hid B1_
    clear B1_
    have BS := Lib.hid BS_
    clear BS_
    have HS := Lib.hid HS_
    clear HS_
    have HMP := Lib.hid HMP_
    clear HMP_
    have HW := Lib.hid HW_
    clear HW_
    obtain ⟨lB1, cB1, fB1⟩ := B1.out
    obtain ⟨lBS, cBS, fBS⟩ := BS.out
    have HSS : Hid (SimpleS w5 w4.heap.size bt bg bb ci bm (.map m) (defM (entF simplest))) := Lib.hid ⟨BS.out, (Below.cell HS.out (World.block_lt_of_cell? S2 _ HT0.out)).trans HT0.out, (Below.cell HS.out (World.block_lt_of_cell? S2 _ HT3.out)).trans HT3.out, HB.out.later HW.out, HI.out.later HW.out, HMP.out, by rw [entF_simplest]; rfl⟩
    have d0 := HSS.out.t
    have d6 := (Below.cell HS.out (World.block_lt_of_cell? S2 _ HT6.out)).trans HT6.out
    go_wp2_with fail
    refine (indexInts (x := -1) (HPL.out.below HS.out)).mono ?_
    rintro e w6 ⟨rfl, rfl⟩
    rw [HNO.out]
    clear d0 d6
    go_wp2_with fail
    go_loopw [49] (fun i wr => ∃ j : Nat, j ≤ 1 ∧ i = .int .i64 j ∧ Below w.heap.size w wr ∧ Box wr w.heap.size #[.slice none 0 0, .int .i64 0, .int .i64 0, .slice (some ⟨bb, 0, none⟩) 1 1] ∧ SimpleS wr w4.heap.size bt bg bb ci bm (.map m) (defM (entF simplest))) (fun i _ => 1 - (intOf i).toNat)
    case atStart => exact ⟨0, by omega, rfl, HW.out, B1.out, HSS.out⟩
    case round =>
      obtain ⟨j, hj, rfl, hW, hB1, hS⟩ := hrel
      clear lBS cBS fBS BS
      clear lB1 cB1 fB1
      replace HW := Lib.hid hW
      replace B1 := Lib.hid hB1
      replace HSS := Lib.hid hS
      clear hW hB1 hS HS HMP
      generalize wr = w7 at *



      obtain ⟨lB1, cB1, fB1⟩ := B1.out
      by_cases hlt : j < 1
      · obtain rfl : j = 0 := by omega
        go_wp2_with fail
        refine (phisS HSS.out).mono ?_
        rintro e w8 ⟨rfl, hb⟩
        clear lB1 cB1 fB1
        replace B1 := Lib.hid (B1.out.later hb)
        replace HSS := Lib.hid (HSS.out.later hb)
        replace HW := Lib.hid (HW.out.trans (hb.mono HW.out.size))
        clear hb
        obtain ⟨lB1, cB1, fB1⟩ := B1.out
        go_wp2
        go_roundw
        case rel => exact ⟨1, by omega, by go_num, HW.out, B1.out, HSS.out⟩
        case measure => simp [intOf]
      · go_wp2_with fail
        go_loopw [61] (fun i wr => ∃ j : Nat, j ≤ 1 ∧ i = .int .i64 j ∧ Below w.heap.size w wr ∧ SimpleS wr w4.heap.size bt bg bb ci bm (.map m) (defM (entF simplest))) (fun i _ => 1 - (intOf i).toNat)
        case atStart => exact ⟨0, by omega, rfl, HW.out, HSS.out⟩
        case round =>
          obtain ⟨j, hj, rfl, hW, hS⟩ := hrel
          clear lB1 cB1 fB1 B1
          replace HW := Lib.hid hW
          replace HSS := Lib.hid hS
          clear hW hS
          generalize wr = w9 at *



          by_cases hlt : j < 1
          · obtain rfl : j = 0 := by omega
            go_wp2_with fail
            refine (usesS HSS.out).mono ?_
            rintro e w10 ⟨rfl, hb⟩
            replace HSS := Lib.hid (HSS.out.later hb)
            replace HW := Lib.hid (HW.out.trans (hb.mono HW.out.size))
            clear hb
            go_wp2
            go_roundw
            case rel => exact ⟨1, by omega, by go_num, HW.out, HSS.out⟩
            case measure => simp [intOf]
          · obtain rfl : j = 1 := by omega
            go_wp2
            go_ret3
            exact ⟨_, rfl, HW.out⟩
set_option maxHeartbeats 3200000 in
theorem checkS {w : World} {ci bb : Nat} (hi : Box w ci #[.int .i64 1, .int .i64 0, .slice none 0 0, .int .i64 5]) (hb : Box w bb #[.slice none 0 0, .slice (some ⟨ci, 0, none⟩) 1 1, .int .i64 3, .int .i64 0, .slice none 0 0, .int .i64 0]) :
    Calls Try.prog 59 #[.agg #[.slice none 0 0, .int .i64 0, .int .i64 0, .slice (some ⟨bb, 0, none⟩) 1 1]] w fun e w' => e = .returned (.tuple #[.int .i64 0, .int .i64 0]) ∧ Below w.heap.size w w' := by
  have HI := Lib.hid hi
  have HB := Lib.hid hb
  clear hi hb
  go_enter Try.func59, Try.ntmps59
  go_upto_region 1 with (fail)
  have B1 : Hid (Box (w.alloc (.cells #[.slice none 0 0, .int .i64 0, .int .i64 0, .slice (some ⟨bb, 0, none⟩) 1 1] 30)) (w.heap.size) #[.slice none 0 0, .int .i64 0, .int .i64 0, .slice (some ⟨bb, 0, none⟩) 1 1]) := Lib.hid (by simpa using (Box.new w #[.slice none 0 0, .int .i64 0, .int .i64 0, .slice (some ⟨bb, 0, none⟩) 1 1] 30))
  have HW : Hid (Below w.heap.size w (w.alloc (.cells #[.slice none 0 0, .int .i64 0, .int .i64 0, .slice (some ⟨bb, 0, none⟩) 1 1] 30))) := Lib.hid ((Below.refl _ _).alloc (Nat.le_refl _) _)
  generalize (w.alloc (.cells #[.slice none 0 0, .int .i64 0, .int .i64 0, .slice (some ⟨bb, 0, none⟩) 1 1] 30)) = wv at *
  obtain ⟨lB1, cB1, fB1⟩ := B1.out
  go_wp2_with fail
  refine (openS (HI.out.later HW.out) (HB.out.later HW.out)).mono ?_
  rintro e w2 ⟨p, rfl, hb⟩
  clear lB1 cB1 fB1
  replace B1 := Lib.hid (B1.out.later hb)
  replace HW := Lib.hid (HW.out.trans (hb.mono HW.out.size))
  clear hb
  obtain ⟨lB1, cB1, fB1⟩ := B1.out
  go_wp2
  go_ret2
  exact ⟨rfl, HW.out⟩
end Go.Proofs.Ytefpmjnimnmniaa
namespace Go.Proofs.Ytefpmjnimnmniaa
set_option linter.unusedSimpArgs false
set_option linter.unusedVariables false
open Go.RowKit
def nothing : FuncD := ⟨[], 0, 0, []⟩
theorem nothing_val {W : World} : FuncV W (.agg #[.slice none 0 0, .int .i64 0, .int .i64 0, .slice none 0 0]) nothing :=
  ⟨_, _, rfl, ints_nil, ⟨by decide, by decide⟩, ⟨by decide, by decide⟩, ⟨[], Row.nil, fun j x hj => by simp [nothing] at hj⟩⟩
theorem nothing_bad : checkF nothing = 2 := by decide
set_option maxHeartbeats 6400000 in
theorem awake5 {w : World} : Calls Try.prog 61 #[] w fun e w' => e = .returned (.bool true) ∧ Below w.heap.size w w' := by
  go_enter Try.func61, Try.ntmps61
  go_wp2_with fail
  have B0 : Hid (Box ((w.alloc (.cells #[.int .i64 1, .int .i64 0, .slice none 0 0, .int .i64 5] 84)).alloc (.cells #[.slice none 0 0, .slice (some ⟨w.heap.size, 0, none⟩) 1 1, .int .i64 3, .int .i64 0, .slice none 0 0, .int .i64 0] 57)) (w.heap.size) #[.int .i64 1, .int .i64 0, .slice none 0 0, .int .i64 5]) := Lib.hid (by simpa using ((Box.new w #[.int .i64 1, .int .i64 0, .slice none 0 0, .int .i64 5] 84).alloc _))
  have B1 : Hid (Box ((w.alloc (.cells #[.int .i64 1, .int .i64 0, .slice none 0 0, .int .i64 5] 84)).alloc (.cells #[.slice none 0 0, .slice (some ⟨w.heap.size, 0, none⟩) 1 1, .int .i64 3, .int .i64 0, .slice none 0 0, .int .i64 0] 57)) (w.heap.size + 1) #[.slice none 0 0, .slice (some ⟨w.heap.size, 0, none⟩) 1 1, .int .i64 3, .int .i64 0, .slice none 0 0, .int .i64 0]) := Lib.hid (by simpa using (Box.new (w.alloc (.cells #[.int .i64 1, .int .i64 0, .slice none 0 0, .int .i64 5] 84)) #[.slice none 0 0, .slice (some ⟨w.heap.size, 0, none⟩) 1 1, .int .i64 3, .int .i64 0, .slice none 0 0, .int .i64 0] 57))
  have HW : Hid (Below w.heap.size w ((w.alloc (.cells #[.int .i64 1, .int .i64 0, .slice none 0 0, .int .i64 5] 84)).alloc (.cells #[.slice none 0 0, .slice (some ⟨w.heap.size, 0, none⟩) 1 1, .int .i64 3, .int .i64 0, .slice none 0 0, .int .i64 0] 57))) := Lib.hid (((Below.refl _ _).alloc (Nat.le_refl _) _).alloc (by simp) _)
  generalize ((w.alloc (.cells #[.int .i64 1, .int .i64 0, .slice none 0 0, .int .i64 5] 84)).alloc (.cells #[.slice none 0 0, .slice (some ⟨w.heap.size, 0, none⟩) 1 1, .int .i64 3, .int .i64 0, .slice none 0 0, .int .i64 0] 57)) = wv at *
  obtain ⟨lB0, cB0, fB0⟩ := B0.out
  obtain ⟨lB1, cB1, fB1⟩ := B1.out
  refine (checkS B0.out B1.out).mono ?_
  rintro e w2 ⟨rfl, hb⟩
  clear lB0 cB0 fB0 lB1 cB1 fB1
  replace B0 := Lib.hid (B0.out.later hb)
  replace B1 := Lib.hid (B1.out.later hb)
  replace HW := Lib.hid (HW.out.trans (hb.mono HW.out.size))
  clear hb
  obtain ⟨lB0, cB0, fB0⟩ := B0.out
  obtain ⟨lB1, cB1, fB1⟩ := B1.out
  clear lB0 cB0 fB0 lB1 cB1 fB1
  go_wp2_with fail
  have hbA1 := (Below.refl w2.heap.size w2).alloc (Nat.le_refl _) (.cells #[.int .i64 1, .int .i64 0, .slice none 0 0, .int .i64 5] 84)
  have hbA := hbA1.trans (((Below.refl _ _).alloc (Nat.le_refl _) (.cells #[.slice none 0 0, .slice (some ⟨w2.heap.size, 0, none⟩) 1 1, .int .i64 3, .int .i64 0, .slice none 0 0, .int .i64 0] 57)).mono hbA1.size)
  have HV2 := simplest_val ((Box.new w2 #[.int .i64 1, .int .i64 0, .slice none 0 0, .int .i64 5] 84).alloc (.cells #[.slice none 0 0, .slice (some ⟨w2.heap.size, 0, none⟩) 1 1, .int .i64 3, .int .i64 0, .slice none 0 0, .int .i64 0] 57)) (Box.new _ _ _)
  simp only [World.size_alloc] at HV2
  refine (defOf (id := 0) HV2).mono ?_
  rintro e w3 ⟨b, at_, g, rfl, -, hr, -, hb⟩
  obtain ⟨rfl, rfl, rfl⟩ := hr simplest_ok.1 (0, 0, 0) (by rw [entF_simplest]; rfl)
  have hb2 := hbA.trans (hb.mono hbA.size)
  replace HW := Lib.hid (HW.out.trans (hb2.mono HW.out.size))
  clear hr hb hbA hbA1 HV2 hb2
  go_wp2_with fail
  refine (defOf (id := 0) nothing_val).mono ?_
  rintro e w4 ⟨b, at_, g, rfl, hr, -, -, hb⟩
  obtain ⟨rfl, rfl, rfl⟩ := hr (by rw [nothing_bad]; decide)
  rw [nothing_bad]
  replace HW := Lib.hid (HW.out.trans (hb.mono HW.out.size))
  clear hr hb
  go_wp2
  go_ret
  exact ⟨rfl, HW.out⟩
end Go.Proofs.Ytefpmjnimnmniaa
namespace Go.Proofs.Ytefpmjnimnmniaa
set_option linter.unusedSimpArgs false
set_option linter.unusedVariables false
open Go.RowKit
set_option maxHeartbeats 3200000 in
theorem eqInts {w : World} {u v : Value} {xs ys : List Int} (hu : Ints w u xs) (hv : Ints w v ys) : Calls Try.prog 125 #[u, v] w fun e w' => e = .returned (.bool (decide (xs = ys))) ∧ Below w.heap.size w w' := by
  obtain ⟨a1, c1, b1, o1, rfl, hc1, hm1, ha1, hx⟩ := hu.parts
  obtain ⟨a2, c2, b2, o2, rfl, hc2, hm2, ha2, hy⟩ := hv.parts
  obtain ⟨n1, hn1⟩ : ∃ n, n = xs.length := ⟨_, rfl⟩
  obtain ⟨n2, hn2⟩ : ∃ n, n = ys.length := ⟨_, rfl⟩
  rw [← hn1] at hc1 ha1 hx ⊢
  rw [← hn2] at hc2 ha2 hy ⊢
  have G1 := Lib.hid hn1
  have G2 := Lib.hid hn2
  have HA1 := Lib.hid ha1
  have HA2 := Lib.hid ha2
  have HX := Lib.hid hx
  have HY := Lib.hid hy
  have HW := Lib.hid (Below.refl w.heap.size w)
  clear hu hv hn1 hn2 ha1 ha2 hx hy
  by_cases hne : n1 = n2
  · subst hne
    go_enter Try.func125, Try.ntmps125
    go_wp2_with fail
    go_loopw [13] (fun i wr => ∃ k : Nat, k ≤ n1 ∧ i = .int .i64 k ∧ (∀ j, j < k → xs.getD j 0 = ys.getD j 0) ∧ Below w.heap.size w wr) (fun i _ => n1 - (intOf i).toNat)
    case atStart => exact ⟨0, Nat.zero_le _, rfl, fun j h => absurd h (Nat.not_lt_zero _), HW.out⟩
    case round =>
      obtain ⟨k, hk, rfl, hs, hW⟩ := hrel
      have HS := Lib.hid hs
      replace HW := Lib.hid hW
      clear hs hW
      generalize wr = w3 at *
      by_cases hlt : k < n1
      · obtain ⟨rfl, hb1⟩ := HA1.out (by omega)
        obtain ⟨rfl, hb2⟩ := HA2.out (by omega)
        have hxk := (HW.out.cell (p := ⟨b1, o1 + k, none⟩) hb1).trans (HX.out k hlt)
        have hyk := (HW.out.cell (p := ⟨b2, o2 + k, none⟩) hb2).trans (HY.out k hlt)
        obtain ⟨p, hp⟩ : ∃ p, p = xs.getD k 0 := ⟨_, rfl⟩
        obtain ⟨q, hq⟩ : ∃ q, q = ys.getD k 0 := ⟨_, rfl⟩
        rw [← hp] at hxk
        rw [← hq] at hyk
        have H3 := Lib.hid hp
        have H4 := Lib.hid hq
        clear hp hq
        cases hpq : (p != q)
        · have HPQ := Lib.hid hpq
          go_upto_region 6 with (fail)
          go_quiet (fail)
          go_wp2
          go_roundw
          case rel =>
            refine ⟨k + 1, hlt, by go_num, ?_, below_drewN HW.out _⟩
            intro j hj
            by_cases e : j = k
            · subst e
              have := HPQ.out
              simp at this
              rw [← H3.out, ← H4.out, this]
            · exact HS.out j (by omega)
          case measure => simp [intOf]; omega
        · have HPQ := Lib.hid hpq
          go_upto_region 6 with (fail)
          go_quiet (fail)
          go_wp2
          go_ret
          exact ⟨ret_bool (decide_eq_false (fun e => by
            have := HPQ.out
            simp at this
            exact this (by rw [H3.out, H4.out, e]))).symm, below_drewN HW.out _⟩
      · have hkn : k = n1 := by omega
        have HEQ : Hid (xs = ys) := Lib.hid (list_eq (by rw [← G1.out, ← G2.out]) (by rw [← G1.out, ← hkn]; exact HS.out))
        clear hkn
        go_wp2
        go_ret
        exact ⟨ret_bool (decide_eq_true HEQ.out).symm, HW.out⟩
  · have hq : ((n1 : Int) != (n2 : Int)) = true := by simp; omega
    have HNE := Lib.hid hne
    clear hne
    go_enter Try.func125, Try.ntmps125
    go_wp2
    go_ret
    exact ⟨ret_bool (decide_eq_false (fun e => HNE.out (by rw [G1.out, G2.out, e]))).symm, HW.out⟩
set_option maxHeartbeats 3200000 in
theorem idxFunI {w : World} {v : Value} {xs : List Int} {k : FuncId} {cap : Array Value} (eg : Enters Try.prog k) (p : Int → Bool) (hv : Ints w v xs)
    (hstep : ∀ (W : World) (x : Int), x ∈ xs → Below w.heap.size w W → Calls Try.prog k (#[.int .i64 x] ++ cap) W fun e W' => e = .returned (.bool (p x)) ∧ Below W.heap.size W W') :
    Calls Try.prog 144 #[v, .func (.func k) #[] cap] w fun e w' => ∃ r : Int, e = .returned (.int .i64 r) ∧ decide (0 ≤ r) = xs.any p ∧ Below w.heap.size w w' := by
  obtain ⟨a1, c1, b1, o1, rfl, hc1, hm1, ha1, hx⟩ := hv.parts
  obtain ⟨n1, hn1⟩ : ∃ n, n = xs.length := ⟨_, rfl⟩
  rw [← hn1] at hc1 ha1 hx ⊢
  have G1 := Lib.hid hn1
  have HA1 := Lib.hid ha1
  have HX := Lib.hid hx
  have HW := Lib.hid (Below.refl w.heap.size w)
  have HST := Lib.hid hstep
  clear hv hn1 ha1 hx hstep
  have eg1 : ∀ (args : Array Value) (w : World), (callFunc k args).run Try.prog w = .ok (.enter k args) w := eg
  go_enter Try.func144, Try.ntmps144
  go_wp2_with fail
  go_loopw [8] (fun i wr => ∃ j : Nat, j ≤ n1 ∧ i = .int .i64 j ∧ (xs.take j).any p = false ∧ Below w.heap.size w wr) (fun i _ => n1 - (intOf i).toNat)
  case atStart => exact ⟨0, Nat.zero_le _, rfl, rfl, HW.out⟩
  case round =>
    obtain ⟨j, hj, rfl, hs, hW⟩ := hrel
    have HS := Lib.hid hs
    replace HW := Lib.hid hW
    clear hs hW
    generalize wr = w3 at *
    by_cases hlt : j < n1
    · obtain ⟨rfl, hb1⟩ := HA1.out (by omega)
      have hxk := (HW.out.cell (p := ⟨b1, o1 + j, none⟩) hb1).trans (HX.out j hlt)
      obtain ⟨x, hx⟩ : ∃ x, x = xs.getD j 0 := ⟨_, rfl⟩
      rw [← hx] at hxk
      have hxm : xs[j]? = some x := by rw [hx]; exact list_at xs j (by have := G1.out; omega)
      have HXM := Lib.hid (List.mem_of_getElem? hxm)
      have HTK := Lib.hid (take_snoc xs j x hxm)
      clear hx hxm
      obtain ⟨c, hc⟩ : ∃ c, c = p x := ⟨_, rfl⟩
      have HC := Lib.hid hc
      have HCT := Lib.hid (HST.out w3 x HXM.out HW.out)
      rw [← hc] at HCT
      clear hc
      cases c
      · go_wp2_with (go_at_fn k; refine HCT.out.mono ?_; rintro e w4 ⟨rfl, hb4⟩; have HB4 := Lib.hid hb4; clear hb4)
        have HW4 := Lib.hid (HW.out.trans (HB4.out.mono HW.out.size))
        have HS2 : Hid ((xs.take (j + 1)).any p = false) := Lib.hid (by rw [HTK.out, List.any_append, HS.out]; simp [← HC.out])
        go_roundw
        case rel => exact ⟨j + 1, hlt, by go_num, HS2.out, HW4.out⟩
        case measure => simp [intOf]; omega
      · go_wp2_with (go_at_fn k; refine HCT.out.mono ?_; rintro e w4 ⟨rfl, hb4⟩; have HB4 := Lib.hid hb4; clear hb4)
        have HW4 := Lib.hid (HW.out.trans (HB4.out.mono HW.out.size))
        have HAN : Hid (xs.any p = true) := Lib.hid (by rw [List.any_eq_true]; exact ⟨x, HXM.out, HC.out.symm⟩)
        go_ret
        exact ⟨j, rfl, by rw [HAN.out]; simp, HW4.out⟩
    · have HAN : Hid (xs.any p = false) := Lib.hid (by have h9 := HS.out; rw [List.take_of_length_le (by have := G1.out; omega)] at h9; exact h9)
      go_wp2
      go_ret
      exact ⟨-1, rfl, by rw [HAN.out]; simp, HW.out⟩
set_option maxHeartbeats 1600000 in
theorem contFunI {w : World} {v : Value} {xs : List Int} {k : FuncId} {cap : Array Value} (eg : Enters Try.prog k) (p : Int → Bool) (hv : Ints w v xs)
    (hstep : ∀ (W : World) (x : Int), x ∈ xs → Below w.heap.size w W → Calls Try.prog k (#[.int .i64 x] ++ cap) W fun e W' => e = .returned (.bool (p x)) ∧ Below W.heap.size W W') :
    Calls Try.prog 128 #[v, .func (.func k) #[] cap] w fun e w' => e = .returned (.bool (xs.any p)) ∧ Below w.heap.size w w' := by
  have HC := Lib.hid (idxFunI eg p hv hstep)
  clear hv hstep
  go_enter Try.func128, Try.ntmps128
  go_wp2_with fail
  refine HC.out.mono ?_
  rintro e w2 ⟨r, rfl, hr, hb⟩
  have HR := Lib.hid hr
  have HB := Lib.hid hb
  clear hr hb
  go_wp2
  go_ret
  exact ⟨ret_bool HR.out, HB.out⟩
end Go.Proofs.Ytefpmjnimnmniaa
namespace Go.Proofs.Ytefpmjnimnmniaa
set_option linter.unusedSimpArgs false
set_option linter.unusedVariables false
open Go.RowKit
def PhiV (W : World) (v : Value) (p : PhiD) : Prop := ∃ s u, v = .agg #[.int .i64 p.id, .int .i64 p.typ, s, u] ∧ Ints W s p.src ∧ Ints W u p.vals
set_option maxHeartbeats 3200000 in
theorem idxFunP {w : World} {v : Value} {ps : List PhiD} {k : FuncId} {cap : Array Value} (eg : Enters Try.prog k) (g : PhiD → Bool) (hv : SliceOf PhiR 4 w v ps)
    (hstep : ∀ (W : World) (p : PhiD) (pv : Value), p ∈ ps → PhiV W pv p → Below w.heap.size w W → Calls Try.prog k (#[pv] ++ cap) W fun e W' => e = .returned (.bool (g p)) ∧ Below W.heap.size W W') :
    Calls Try.prog 141 #[v, .func (.func k) #[] cap] w fun e w' => ∃ r : Int, e = .returned (.int .i64 r) ∧ decide (0 ≤ r) = ps.any g ∧ Below w.heap.size w w' := by
  obtain ⟨a1, c1, b1, o1, rfl, hc1, hm1, hl1, ha1, hx⟩ := phis_parts hv
  obtain ⟨n1, hn1⟩ : ∃ n, n = ps.length := ⟨_, rfl⟩
  rw [← hn1] at hc1 hl1 ha1 ⊢
  have G1 := Lib.hid hn1
  have HA1 := Lib.hid ha1
  have HX := Lib.hid hx
  have HW := Lib.hid (Below.refl w.heap.size w)
  have HST := Lib.hid hstep
  clear hv hn1 ha1 hx hstep
  have eg1 : ∀ (args : Array Value) (w : World), (callFunc k args).run Try.prog w = .ok (.enter k args) w := eg
  go_enter Try.func141, Try.ntmps141
  go_wp2_with fail
  go_loopw [8] (fun i wr => ∃ j : Nat, j ≤ n1 ∧ i = .int .i64 j ∧ (ps.take j).any g = false ∧ Below w.heap.size w wr) (fun i _ => n1 - (intOf i).toNat)
  case atStart => exact ⟨0, Nat.zero_le _, rfl, rfl, HW.out⟩
  case round =>
    obtain ⟨j, hj, rfl, hs, hW⟩ := hrel
    have HS := Lib.hid hs
    replace HW := Lib.hid hW
    clear hs hW
    generalize wr = w3 at *
    by_cases hlt : j < n1
    · obtain ⟨rfl, hb1⟩ := HA1.out (by omega)
      obtain ⟨p, hxm⟩ : ∃ p, ps[j]? = some p := ⟨_, List.getElem?_eq_getElem (by have := G1.out; omega)⟩
      obtain ⟨af, av, cf, cv, hP⟩ := HX.out j p hxm
      obtain ⟨m0, m1, m2, m3, r1, r2, r3, r4⟩ := hP.below HW.out hb1
      have HXM := Lib.hid (List.mem_of_getElem? hxm)
      have HTK := Lib.hid (take_snoc ps j p hxm)
      obtain ⟨c, hc⟩ : ∃ c, c = g p := ⟨_, rfl⟩
      have HC := Lib.hid hc
      have HCT := Lib.hid (HST.out w3 p (.agg #[.int .i64 p.id, .int .i64 p.typ, .slice af p.src.length cf, .slice av p.vals.length cv]) HXM.out ⟨_, _, rfl, r1, r2⟩ HW.out)
      rw [← hc] at HCT
      clear hc hxm hP r1 r2 r3 r4
      cases c
      · go_wp2_with (go_at_fn k; refine HCT.out.mono ?_; rintro e w4 ⟨rfl, hb4⟩; have HB4 := Lib.hid hb4; clear hb4)
        have HW4 := Lib.hid (HW.out.trans (HB4.out.mono HW.out.size))
        have HS2 : Hid ((ps.take (j + 1)).any g = false) := Lib.hid (by rw [HTK.out, List.any_append, HS.out]; simp [← HC.out])
        go_roundw
        case rel => exact ⟨j + 1, hlt, by go_num, HS2.out, HW4.out⟩
        case measure => simp [intOf]; omega
      · go_wp2_with (go_at_fn k; refine HCT.out.mono ?_; rintro e w4 ⟨rfl, hb4⟩; have HB4 := Lib.hid hb4; clear hb4)
        have HW4 := Lib.hid (HW.out.trans (HB4.out.mono HW.out.size))
        have HAN : Hid (ps.any g = true) := Lib.hid (by rw [List.any_eq_true]; exact ⟨p, HXM.out, HC.out.symm⟩)
        go_ret
        exact ⟨j, rfl, by rw [HAN.out]; simp, HW4.out⟩
    · have HAN : Hid (ps.any g = false) := Lib.hid (by have h9 := HS.out; rw [List.take_of_length_le (by have := G1.out; omega)] at h9; exact h9)
      go_wp2
      go_ret
      exact ⟨-1, rfl, by rw [HAN.out]; simp, HW.out⟩
set_option maxHeartbeats 1600000 in
theorem contFunP {w : World} {v : Value} {ps : List PhiD} {k : FuncId} {cap : Array Value} (eg : Enters Try.prog k) (g : PhiD → Bool) (hv : SliceOf PhiR 4 w v ps)
    (hstep : ∀ (W : World) (p : PhiD) (pv : Value), p ∈ ps → PhiV W pv p → Below w.heap.size w W → Calls Try.prog k (#[pv] ++ cap) W fun e W' => e = .returned (.bool (g p)) ∧ Below W.heap.size W W') :
    Calls Try.prog 123 #[v, .func (.func k) #[] cap] w fun e w' => e = .returned (.bool (ps.any g)) ∧ Below w.heap.size w w' := by
  have HC := Lib.hid (idxFunP eg g hv hstep)
  clear hv hstep
  go_enter Try.func123, Try.ntmps123
  go_wp2_with fail
  refine HC.out.mono ?_
  rintro e w2 ⟨r, rfl, hr, hb⟩
  have HR := Lib.hid hr
  have HB := Lib.hid hb
  clear hr hb
  go_wp2
  go_ret
  exact ⟨ret_bool HR.out, HB.out⟩
structure StrM (f : FuncD) (W : World) (bs bt bg lg lcap bm : Nat) (g : Array Value) (pv ov lv A2 : Value) (O : List Nat) (I : Nat → Option Nat) : Prop where
  s : Box W bs #[.pointer (some ⟨bt, 0, none⟩), A2, .map (some bm)]
  t : TreeM f W bt bg lg lcap g pv ov lv O I
  mp : IMap W bm (defM (entF f))
theorem StrM.later {f : FuncD} {W W' : World} {bs bt bg lg lcap bm : Nat} {g : Array Value} {pv ov lv A2 : Value} {O : List Nat} {I : Nat → Option Nat} (h : StrM f W bs bt bg lg lcap bm g pv ov lv A2 O I) (hb : Below W.heap.size W W') : StrM f W' bs bt bg lg lcap bm g pv ov lv A2 O I :=
  ⟨h.s.later hb, h.t.later hb, h.mp.later hb⟩
def AheadP (f : FuncD) (d k b at_ : Int) : Prop := (d = b ∧ k < at_) ∨ (d ≠ b ∧ OverP f d.toNat b.toNat)
set_option maxHeartbeats 6400000 in
set_option maxRecDepth 100000 in
theorem ahead {f : FuncD} {w : World} {bs bt bg lg lcap bm : Nat} {g : Array Value} {pv ov lv A2 : Value} {O : List Nat} {I : Nat → Option Nat} (hS : StrM f w bs bt bg lg lcap bm g pv ov lv A2 O I) (hO : IsOrder f O) (hD : DomI f O I) (hc : checkF f = 0)
    {id d k b at_ : Int} (he : ((entF f).find? fun e => e.1 == id) = some (id, d, k)) (hd : 0 ≤ d ∧ d < (f.blocks.length : Int)) (hb : 0 ≤ b ∧ b < (f.blocks.length : Int)) :
    Calls Try.prog 130 #[.pointer (some ⟨bs, 0, none⟩), .int .i64 id, .int .i64 b, .int .i64 at_] w fun e w' => ∃ r : Bool, e = .returned (.bool r) ∧ (r = true ↔ AheadP f d k b at_) ∧ Below w.heap.size w w' := by
  have HI := Lib.hid hS.mp
  have HG : Hid (mget (defM (entF f)) id = some (.agg #[.int .i64 d, .int .i64 k])) := Lib.hid (by rw [def_get hc, he]; rfl)
  obtain ⟨dn, rfl⟩ : ∃ dn : Nat, d = (dn : Int) := ⟨d.toNat, by omega⟩
  obtain ⟨bn, rfl⟩ : ∃ bn : Nat, b = (bn : Int) := ⟨b.toNat, by omega⟩
  have HOV := Lib.hid (fun (W : World) (hW : Below w.heap.size w W) => treeOver (a := dn) (b := bn) (hS.t.later hW) hO hD (formB_nb (check_fine hc).1).2 (by omega) (by omega))
  have HS := Lib.hid hS
  obtain ⟨l1, c1, f1⟩ := hS.s
  clear hS hO hD hc he hd hb
  by_cases hdb : dn = bn
  · have hq : ((dn : Int) == (bn : Int)) = true := by simp [hdb]
    have HDB := Lib.hid hdb
    clear hdb
    go_enter Try.func130, Try.ntmps130
    go_wp2_with (at_lookup; refine wpList_look0 (q := .i64) (z := .agg #[.int .i64 0, .int .i64 0]) (b := bm) (mm := defM (entF f)) (y := id) rfl _ _ _ rfl Try.underlying142 Try.underlying3 (zeroDef _) rfl HI.out rfl ?_; rw [HG.out]; simp only [Option.getD_some])
    have HW := Lib.hid ((Below.refl w.heap.size w).alloc (Nat.le_refl _) (.cells #[.int .i64 dn, .int .i64 k] 140))
    go_ret
    exact ⟨decide (k < at_), rfl, by rw [decide_eq_true_iff]; unfold AheadP; have := HDB.out; constructor; exact fun h => .inl ⟨by omega, h⟩; exact fun h => h.elim (fun h => h.2) (fun h => absurd (by omega) h.1), HW.out⟩
  · have hq : ((dn : Int) == (bn : Int)) = false := by simp; omega
    have HDB := Lib.hid hdb
    clear hdb
    go_enter Try.func130, Try.ntmps130
    go_upto_region 4 with (at_lookup; refine wpList_look0 (q := .i64) (z := .agg #[.int .i64 0, .int .i64 0]) (b := bm) (mm := defM (entF f)) (y := id) rfl _ _ _ rfl Try.underlying142 Try.underlying3 (zeroDef _) rfl HI.out rfl ?_; rw [HG.out]; simp only [Option.getD_some])
    clear l1 c1 f1
    have HW := Lib.hid ((Below.refl w.heap.size w).alloc (Nat.le_refl _) (.cells #[.int .i64 dn, .int .i64 k] 140))
    have BX := Lib.hid (Box.new w #[.int .i64 dn, .int .i64 k] 140)
    obtain ⟨bx, hbx⟩ : ∃ bx, bx = w.heap.size := ⟨_, rfl⟩
    have e9 : (⟨w.heap.size, 0, none⟩ : Addr) = ⟨bx, 0, none⟩ := by rw [hbx]
    rw [← hbx] at BX
    simp only [← hbx]
    generalize w.alloc _ = w1 at *
    clear hbx e9


    obtain ⟨lBX, cBX, fBX⟩ := BX.out
    refine wp_region_grow 9 (fun kz => match kz with | 7 => .holds (fun u w' => ∃ r : Bool, u = .bool r ∧ (r = true ↔ OverP f dn bn)) | _ => .plain) (by kernel_rfl) (by kernel_rfl) ?_ (fun ν => ?_)
    · (intro k; (try dsimp only); split <;> first | exact True.intro | (intro u w1 w2 hu hb; exact hu))
    simp only [List.take_succ_cons, List.take_zero, List.drop_succ_cons, List.drop_zero]
    iterate 7 (refine Grow.val (v := ?_) rfl rfl (fun wg hbg hdg => ?_) ?_; rotate_left; (focus ((obtain ⟨lg0, cg0, fg0⟩ := BX.out.later hbg); (obtain ⟨xl1, xc1, xf1⟩ := (HS.out.later (HW.out.trans (hbg.mono HW.out.size))).s); clear hbg hdg; first | (go_simp; done) | (go_simp; with_reducible rfl))); simp only [Act.put, List.setIfInBounds_toArray, List.set_cons_zero, List.set_cons_succ])
    refine Grow.call (f := ?_) (args := ?_) rfl (fun wg => ?_) (fun wg hbg hdg => ?_) ?_
    rotate_left 2
    focus (first | (go_simp; done) | (go_simp; refine And.intro ?_ ?_ <;> with_reducible rfl) | (go_simp; with_reducible rfl))
    focus exact ((HOV.out wg (HW.out.trans (hbg.mono HW.out.size))).mono (fun e w2 ⟨r, he, hr, hw⟩ => ⟨_, he, ⟨r, rfl, hr⟩, hw ▸ Below.refl _ _⟩))
    simp only [Act.put, Known.val, List.setIfInBounds_toArray, List.set_cons_zero, List.set_cons_succ]
    refine Grow.val (v := ?_) rfl rfl (fun wg hbg hdg => ?_) ?_
    rotate_left
    focus ((obtain ⟨lg0, cg0, fg0⟩ := BX.out.later hbg); (obtain ⟨xl1, xc1, xf1⟩ := (HS.out.later (HW.out.trans (hbg.mono HW.out.size))).s); clear hbg hdg; first | (go_simp; done) | (go_simp; with_reducible rfl))
    simp only [Act.put, List.setIfInBounds_toArray, List.set_cons_zero, List.set_cons_succ]
    intro wg hb hf hap
    clear hap
    clear lBX cBX fBX
    replace BX := Lib.hid (BX.out.later hb)
    replace HW := Lib.hid (HW.out.trans (hb.mono HW.out.size))
    clear hb
    obtain ⟨lBX, cBX, fBX⟩ := BX.out
    simp only [Nat.zero_add, Nat.reduceAdd]
    have hS : ∃ r : Bool, ν 7 = .bool r ∧ (r = true ↔ OverP f dn bn) := hf 7 (by omega)
    obtain ⟨r, hr1, hr2⟩ := hS
    simp only [hr1]
    have HR : Hid (r = true ↔ AheadP f dn k bn at_) := Lib.hid (by
      unfold AheadP
      rw [hr2]
      have := HDB.out
      exact ⟨fun h => .inr ⟨by omega, by simpa using h⟩, fun h => h.elim (fun h => absurd h.1 (by omega)) (fun h => by simpa using h.2)⟩)
    clear hf hr1 hr2
    go_wp2
    go_ret
    exact ⟨r, rfl, HR.out, HW.out⟩
end Go.Proofs.Ytefpmjnimnmniaa
namespace Go.Proofs.Ytefpmjnimnmniaa
set_option linter.unusedSimpArgs false
set_option linter.unusedVariables false
open Go.RowKit
def phiFits (xs : List Int) (p : PhiD) : Bool := decide (p.src.length = xs.length) && xs.all fun t => p.src.contains t
end Go.Proofs.Ytefpmjnimnmniaa
