/- Part 46. -/
import Derived.Test.YtgmhnepmkaonaaaGreatQA44
namespace Go.Proofs.YtgmhnepmkaonaaaGreat
set_option linter.unusedSimpArgs false
set_option linter.unusedVariables false
open Go.RowKit
section
open Classical
noncomputable def latJ (f:FuncD) (h k:Nat):List Nat:=((predN f f.blocks.length 0 h).take k).filter fun p=>decide (OverP f h p)
theorem latJ_all (f:FuncD) (h:Nat):latJ f h (predN f f.blocks.length 0 h).length=latN f h:=by unfold latJ latN;rw [List.take_length]
theorem latJ_yes {f:FuncD} {h k p:Nat} (hp:(predN f f.blocks.length 0 h)[k]? = some p) (ho:OverP f h p):latJ f h (k+1)=latJ f h k ++ [p]:=by
 unfold latJ
 rw [List.take_add_one,hp,List.filter_append]
 congr 1
 simp [ho]
theorem latJ_no {f:FuncD} {h k p:Nat} (hp:(predN f f.blocks.length 0 h)[k]? = some p) (ho:¬ OverP f h p):latJ f h (k+1)=latJ f h k:=by
 unfold latJ
 rw [List.take_add_one,hp,List.filter_append]
 simp [ho]
theorem latJ_len (f:FuncD) (h k:Nat):(latJ f h k).length <= f.blocks.length:=by
 unfold latJ
 exact Nat.le_trans (List.length_filter_le _ _) (Nat.le_trans (by rw [List.length_take];exact Nat.min_le_right _ _) (predN_len f h))
end
theorem oloop_of {f:FuncD} {W:World} {j nl base:Nat} {a1 a2 a3:Option Addr} {c1 c2 c3:Nat} {S1 SL S2:Foot} (hnl:nl=(latN f j).length) (h1:OInts W S1 (.slice a1 (bodyN f j).length c1) (natI (bodyN f j))) (h2:OInts W SL (.slice a2 nl c2) (natI (latN f j)))
  (h3:OInts W S2 (.slice a3 (exitN f j).length c3) (natI (exitN f j))) (b1:Fresh base S1) (b2:Fresh base SL) (b3:Fresh base S2) :
  Holds [] base W (fun k=>S1 k \/ SL k \/ S2 k) (fun W=>OLoop W (fun k=>S1 k \/ SL k \/ S2 k) [.int .i64 j,.slice a1 (bodyN f j).length c1,.slice a2 nl c2,.slice a3 (exitN f j).length c3,.int .i64 0] (loopOf f j)):=by
 subst hnl
 refine holds_nice OLoop.nice ⟨⟨a1,a2,a3,c1,c2,c3,S1,SL,S2,rfl,h1,h2,h3,fun k h=>.inl h,fun k h=>.inr (.inl h),fun k h=>.inr (.inr h)⟩,fun k hk => ?_⟩ (fun k hk => ?_)
 ·rcases hk with h | h | h
  ·exact h1.lt k h
  ·exact h2.lt k h
  ·exact h3.lt k h
 ·rcases hk with h | h | h
  ·exact b1 k h
  ·exact b2 k h
  ·exact b3 k h
set_option maxHeartbeats 12800000 in
set_option maxRecDepth 100000 in
theorem loopsOpen {w : World} {v : Value} {f : FuncD} (hv : FuncV w v f) : Calls Tryz.prog 66 #[v] w (LOpenR f w) := by
  have HV := hd hv
  obtain ⟨ap, cp, ab, cb, rfl, -, -, -, hbk⟩ := hv.form
  obtain ⟨np, hnp⟩ : ∃ np, np = f.params.length := ⟨_, rfl⟩
  obtain ⟨ar, har⟩ : ∃ ar, ar = f.arrays := ⟨_, rfl⟩
  obtain ⟨ce, hce⟩ : ∃ ce, ce = f.cells := ⟨_, rfl⟩
  obtain ⟨nb, hnb⟩ : ∃ nb, nb = f.blocks.length := ⟨_, rfl⟩
  have HNB := hd hnb
  have HBK := hd hbk
  rw [← hnp, ← har, ← hce, ← hnb] at HV
  rw [← hnb] at HBK
  rw [← hnp, ← har, ← hce, ← hnb]
  clear hv hbk hnp har hce hnb
  go_enter Tryz.func66, Tryz.ntmps66
  go_upto_region 1 with (fail)
  have B1 : Hid (Box (w.alloc (.cells #[.slice ap np cp, .int .i64 ar, .int .i64 ce, .slice ab nb cb] 25)) (w.heap.size) #[.slice ap np cp, .int .i64 ar, .int .i64 ce, .slice ab nb cb]) := hd (by simpa using (Box.new w #[.slice ap np cp, .int .i64 ar, .int .i64 ce, .slice ab nb cb] 25))
  have HW : Hid (Below w.heap.size w (w.alloc (.cells #[.slice ap np cp, .int .i64 ar, .int .i64 ce, .slice ab nb cb] 25))) := hd ((Below.refl _ _).alloc (Nat.le_refl _) _)
  generalize (w.alloc (.cells #[.slice ap np cp, .int .i64 ar, .int .i64 ce, .slice ab nb cb] 25)) = wv at *
  obtain ⟨lB1, cB1, fB1⟩ := B1.out
  go_wp2_with fail
  refine (openG (HV.out.below HW.out)).mono ?_
  rintro e w2 ⟨hb, ⟨hc0, rfl⟩ | ⟨hc0, b, k, hF, hk, rfl⟩ | ⟨hc0, hF, bs, bt, bg, lg, lcap, bm, tm, g, pv, ov, lv, O, I, rfl, hg, hO, hD, hS, hT⟩⟩
  · have hq : (checkF f != 0) = true := by simpa using hc0
    have HC := hd hc0
    obtain ⟨c0, hc⟩ : ∃ c0, c0 = checkF f := ⟨_, rfl⟩
    rw [← hc] at hq ⊢
    have HCC := hd hc
    clear hc0 hc
    clear lB1 cB1 fB1
    replace B1 := hd (B1.out.later hb)
    replace HW := hd (HW.out.trans (hb.mono HW.out.size))
    clear hb
    obtain ⟨lB1, cB1, fB1⟩ := B1.out
    go_wp2
    go_ret2
    exact ⟨HW.out, .inl ⟨HC.out, by rw [← HCC.out]; rfl⟩⟩
  · have hq : (k != 0) = true := by simpa using hk
    have HC := hd (And.intro hc0 (And.intro hF hk))
    clear hc0 hF hk
    clear lB1 cB1 fB1
    replace B1 := hd (B1.out.later hb)
    replace HW := hd (HW.out.trans (hb.mono HW.out.size))
    clear hb
    obtain ⟨lB1, cB1, fB1⟩ := B1.out
    go_wp2
    go_ret2
    exact ⟨HW.out, .inr (.inl ⟨HC.out.1, b, k, HC.out.2.1, HC.out.2.2, rfl⟩)⟩
  · have hge : g = #[.slice ap np cp, .int .i64 ar, .int .i64 ce, .slice ab nb cb] := by injection hg with h; exact h.symm
    subst hge
    have HCH := hd hc0
    have HFR := hd hF
    have HO := hd hO
    have HD := hd hD
    have HF := hd (check_fine hc0).1
    obtain ⟨hn1, hn2⟩ := formB_nb (check_fine hc0).1
    have hall : ∀ d, d < f.blocks.length → Way (toB f) (-1) d := by
      rcases hF with ⟨_, _, _, _, _, h⟩ | ⟨h, _⟩
      · cases h
      · exact h
    have HALL := hd hall
    have hSB := HBK.out.below BlockR.lasting (HW.out.trans (hb.mono HW.out.size))
    obtain ⟨ab', cb', bb, bo, hbe, -, -, -, hba, hbx⟩ := blocks_parts HBK.out
    rw [← HNB.out] at hbe hba hn1 hn2
    cases hbe
    obtain ⟨rfl, hbbl⟩ := hba (by omega)
    obtain ⟨vs, pa, pc, pb, po, rfl, -, -, -, hpa, hpx, hpi⟩ := hS.t.preds.parts
    have hpl : (predsF f).length = f.blocks.length := predI_len _ _ _
    rw [hpl] at hpa hpx hpi hS
    obtain ⟨rfl, hpbl⟩ := hpa (by rw [← HNB.out]; omega)
    rw [← HNB.out] at hpx hpi
    have HPX : Hid (∀ j, j < nb → w2.cell? ⟨pb, po + j, none⟩ = some (vs.getD j undef) ∧ Ints w2 (vs.getD j undef) (natI (predN f f.blocks.length 0 j))) := hd (fun j hj => by
      refine ⟨hpx j hj, ?_⟩
      have h9 := hpi j hj
      have h8 : (predsF f).getD j [] = natI (predN f f.blocks.length 0 j) := by
        unfold predsF
        rw [List.getD_eq_getElem?_getD, predI_at (by rw [← HNB.out]; exact hj)]; rfl
      rwa [h8] at h9)
    have HS2 := hd hS
    have HSB := hd hSB
    clear hc0 hF hO hD hall hSB hba hbx hpl hpa hpx hpi hS hT hg
    rw [HNB.out] at HS2
    clear lB1 cB1 fB1
    replace B1 := hd (B1.out.later hb)
    replace HW := hd (HW.out.trans (hb.mono HW.out.size))
    clear hb
    obtain ⟨lB1, cB1, fB1⟩ := B1.out
    have gww : w.heap.size < w2.heap.size := lB1
    have HW2 := HW
    have B12 := B1
    go_upto_region 5 with (fail)
    have hwb : Hid (Below w2.heap.size w2 (w2.alloc (.cells #[.pointer (some ⟨bs, 0, none⟩), .slice none 0 0] 125))) := hd ((Below.refl _ _).alloc (Nat.le_refl _) _)
    have nBNB1 : w2.heap.size ≠ w.heap.size := fun e => by have := lB1; omega
    have nB1BN : w.heap.size ≠ w2.heap.size := fun e => nBNB1 e.symm
    have B1_ : Box (w2.alloc (.cells #[.pointer (some ⟨bs, 0, none⟩), .slice none 0 0] 125)) (w.heap.size) #[.slice ap np cp, .int .i64 ar, .int .i64 ce, .slice (some ⟨bb, bo, none⟩) nb cb] := by simpa using (B1.out.alloc _)
    have BN_ : Box (w2.alloc (.cells #[.pointer (some ⟨bs, 0, none⟩), .slice none 0 0] 125)) (w2.heap.size) #[.pointer (some ⟨bs, 0, none⟩), .slice none 0 0] := by simpa using (Box.new w2 #[.pointer (some ⟨bs, 0, none⟩), .slice none 0 0] 125)
    have HW_ : Below w.heap.size w (w2.alloc (.cells #[.pointer (some ⟨bs, 0, none⟩), .slice none 0 0] 125)) := (HW.out.alloc (by first | exact Nat.le_refl _ | exact HW.out.size | (simp only [World.size_alloc, World.size_setCell]; have := HW.out.size; omega)) _)
    clear lB1 cB1 fB1
    clear B1 HW
    generalize (w2.alloc (.cells #[.pointer (some ⟨bs, 0, none⟩), .slice none 0 0] 125)) = wB at *
    have B1 := hd B1_
    clear B1_
    have BN := hd BN_
    clear BN_
    have HW := hd HW_
    clear HW_
    obtain ⟨lB1, cB1, fB1⟩ := B1.out
    obtain ⟨lBN, cBN, fBN⟩ := BN.out
    have HBB : Hid (Below w2.heap.size w2 wB) := hd hwb.out
    have gwb : w2.heap.size < wB.heap.size := lBN
    have HWB := HW
    have B1B := B1
    have BNB := BN
    go_wp2_with fail
    clear lB1 cB1 fB1 lBN cBN fBN
    clear HW B1 BN
    go_loopw [28] (fun i wr => ∃ (j : Nat) (a : Option Addr) (c : Nat) (S : Foot), j ≤ nb ∧ i = .int .i64 j ∧ Box wr w2.heap.size #[.pointer (some ⟨bs, 0, none⟩), .slice a (headsJ f j).length c] ∧ OLoops wr S (.slice a (headsJ f j).length c) ((headsJ f j).map (loopOf f)) ∧ (∀ k, S k → wB.heap.size ≤ k) ∧ Off (fun k => k = w2.heap.size) wB wr) (fun i _ => nb - (intOf i).toNat)
    case atStart => exact ⟨0, none, 0, Foot.none, Nat.zero_le _, rfl, BNB.out, OSl.nil none, fun k hk => hk.elim, Off.refl _ _⟩
    case round =>
      obtain ⟨j, a, c, S, hj, rfl, hbx, hol, hsb, ho⟩ := hrel
      obtain ⟨nh, hnh⟩ : ∃ nh, nh = (headsJ f j).length := ⟨_, rfl⟩
      rw [← hnh] at hbx hol
      have HNH := hd hnh
      have hnh5 : nh ≤ 512 := by rw [hnh]; have := headsJ_len f j; omega
      have HOL := hd hol
      have HSBS := hd hsb
      have HOF := hd ho
      have HW2R : Hid (Below w2.heap.size w2 wr) := hd (HBB.out.trans (ho.below HBB.out.size (fun k _ hk => by have h9 : k = w2.heap.size := hk; omega)))
      have HNW : Hid (NestV f wr w2.heap.size bs bt bg lg lcap (.map (some tm)) (.map (some bm)) (.slice a nh c) ap (some ⟨bb, bo, none⟩) np cp cb ar ce (.slice (some ⟨pb, po, none⟩) f.blocks.length pc) ov lv) := hd ((HS2.out.later HW2R.out).nest hbx (by have h9 := HSB.out.below BlockR.lasting HW2R.out; rw [HNB.out] at h9; exact h9))
      have HW : Hid (Below w.heap.size w wr) := hd (HW2.out.trans (HW2R.out.mono HW2.out.size))
      have B1 := hd (B12.out.later HW2R.out)
      clear hnh hbx hol hsb ho
      have BN := hd HNW.out.n
      have BS := hd HNW.out.s
      have BT := hd HNW.out.t
      have BG := hd HNW.out.g
      rw [← HNB.out] at BT BG
      obtain ⟨lB1, cB1, fB1⟩ := B1.out
      obtain ⟨lBN, cBN, fBN⟩ := BN.out
      obtain ⟨lBS, cBS, fBS⟩ := BS.out
      obtain ⟨lBT, cBT, fBT⟩ := BT.out
      obtain ⟨lBG, cBG, fBG⟩ := BG.out
      by_cases hlt : j < nb
      · obtain ⟨hpc, hpi⟩ := HPX.out j hlt
        obtain ⟨ra, rc, hre⟩ := hpi.form
        rw [hre] at hpc hpi
        have hpll : (natI (predN f f.blocks.length 0 j)).length ≤ 512 := by rw [natI_len]; have := predN_len f j; have := HNB.out; omega
        obtain ⟨lp, hlp⟩ : ∃ lp, lp = (natI (predN f f.blocks.length 0 j)).length := ⟨_, rfl⟩
        rw [← hlp] at hpc hpi hpll
        have HLP := hd hlp
        have hpk := (HW2R.out.cell (p := ⟨pb, po + j, none⟩) hpbl).trans hpc
        have HPI := hd hpi
        clear hpc hre hlp hpi
        go_wp2_with fail
        clear hpk
        clear lB1 cB1 fB1 lBN cBN fBN lBS cBS fBS lBT cBT fBT lBG cBG fBG
        obtain ⟨W1, hW1⟩ : ∃ W1, W1 = wr := ⟨_, rfl⟩
        rw [← hW1] at HOL HOF HW2R HNW HW B1 BN BS BT BG ⊢
        clear hW1
        have HW1 := HW
        have HNW1 := HNW
        have HW2R1 := HW2R
        have HOL1 := HOL
        have HOF1 := HOF
        have B11 := B1
        clear HW HNW HW2R HOL HOF B1 BN BS BT BG
        go_loopw [9, 45] (fun lv iv wr => ∃ (k : Nat) (a2 : Option Addr) (c2 : Nat) (SL : Foot), k ≤ lp ∧ lv = .slice a2 (latJ f j k).length c2 ∧ iv = .int .i64 k ∧ OInts wr SL (.slice a2 (latJ f j k).length c2) (natI (latJ f j k)) ∧ (∀ q, SL q → W1.heap.size ≤ q) ∧ Below W1.heap.size W1 wr) (fun _ iv _ => lp - (intOf iv).toNat)
        case atStart => exact ⟨0, none, 0, Foot.none, Nat.zero_le _, rfl, rfl, OInts.nil none, fun q hq => hq.elim, Below.refl _ _⟩
        case round =>
          obtain ⟨k, a2, c2, SL, hk, rfl, rfl, hla, hsl, hbw⟩ := hrel
          obtain ⟨nl, hnl⟩ : ∃ nl, nl = (latJ f j k).length := ⟨_, rfl⟩
          have hnl5 : nl ≤ 512 := by rw [hnl]; have := latJ_len f j k; have := HNB.out; omega
          rw [← hnl] at hla ⊢
          have HNL := hd hnl
          have HLA := hd hla
          have HSL := hd hsl
          have HBW := hd hbw
          have HW2R : Hid (Below w2.heap.size w2 wr) := hd (HW2R1.out.trans (hbw.mono HW2R1.out.size))
          have HNW := hd (HNW1.out.later hbw)
          have HW : Hid (Below w.heap.size w wr) := hd (HW1.out.trans (hbw.mono HW1.out.size))
          have B1 := hd (B11.out.later hbw)
          clear hnl hla hsl hbw
          have BN := hd HNW.out.n
          have BS := hd HNW.out.s
          have BT := hd HNW.out.t
          have BG := hd HNW.out.g
          rw [← HNB.out] at BT BG
          obtain ⟨lB1, cB1, fB1⟩ := B1.out
          obtain ⟨lBN, cBN, fBN⟩ := BN.out
          obtain ⟨lBS, cBS, fBS⟩ := BS.out
          obtain ⟨lBT, cBT, fBT⟩ := BT.out
          obtain ⟨lBG, cBG, fBG⟩ := BG.out
          by_cases hkt : k < lp
          · obtain ⟨p, hp⟩ : ∃ p, (predN f f.blocks.length 0 j)[k]? = some p := ⟨_, List.getElem?_eq_getElem (by have h9 := HLP.out; rw [natI_len] at h9; omega)⟩
            have hpn : p < nb := by
              have h9 := List.mem_of_getElem? hp
              rw [predN_zero, List.mem_filter, List.mem_range] at h9
              rw [HNB.out]; exact h9.1
            obtain ⟨gb, go_, gc, he, hgl, -, -, hgx⟩ := ints_cells HPI.out (by rw [← HLP.out]; omega)
            rw [← HLP.out] at he hgx
            injection he with x1 x2 x3
            subst x1
            subst x3
            have hpc := (HW2R.out.cell (p := ⟨gb, go_ + k, none⟩) hgl).trans (hgx k hkt)
            have hgv : (natI (predN f f.blocks.length 0 j)).getD k 0 = (p : Int) := by unfold natI; rw [List.getD_eq_getElem?_getD, List.getElem?_map, hp]; rfl
            rw [hgv] at hpc
            have HPP := hd hp
            clear hgx hgv hp x2
            go_wp2_with fail
            clear hpc
            refine (treeOver (a := j) (b := p) (HS2.out.t.later HW2R.out) HO.out HD.out (by rw [← HNB.out]; exact hn2) (by rw [← HNB.out]; exact hlt) (by rw [← HNB.out]; exact hpn)).mono ?_
            rintro e w3 ⟨r, rfl, hr, rfl⟩
            cases r
            · have HNX := hd (latJ_no HPP.out (fun ho => by have := hr.2 ho; cases this))
              clear hr
              go_wp2
              clear lB1 cB1 fB1 lBN cBN fBN lBS cBS fBS lBT cBT fBT lBG cBG fBG
              go_roundw
              case rel => exact ⟨k + 1, a2, c2, SL, hkt, by rw [HNX.out, ← HNL.out], by go_num, by rw [HNX.out, ← HNL.out]; exact HLA.out, HSL.out, HBW.out⟩
              case measure => simp [intOf]; omega
            · have HNX := hd (latJ_yes HPP.out (hr.1 rfl))
              clear hr
              have HLL : Hid ((natI (latJ f j k)).length = nl) := hd (by rw [natI_len, ← HNL.out])
              clear lB1 cB1 fB1 lBN cBN fBN lBS cBS fBS lBT cBT fBT lBG cBG fBG
              go_wp2_with (at_builtin; go_loud (refine wpList_iapps (ys := [(p : Int)]) (m := 1) rfl _ _ rfl HLL.out rfl rfl rfl (HLA.out.off (Off.alloc Foot.none wr _) (fun _ _ h => h)) (ints_of_box (Box.new _ _ _) ⟨by omega, by omega⟩) (by omega) ?_); intro a3 c3 w4 G2 hO hG hof)
              have hnat : natI (latJ f j k) ++ [(p : Int)] = natI (latJ f j (k + 1)) := by rw [HNX.out]; unfold natI; rw [List.map_append]; rfl
              rw [hnat] at hO
              have HOO := hd hO
              have HL2 : Hid ((latJ f j (k + 1)).length = nl + 1) := hd (by rw [HNX.out, List.length_append, ← HNL.out]; rfl)
              have HGB : Hid (∀ q, G2 q → W1.heap.size ≤ q) := hd (fun q hq => by
                rcases hG q hq with h | h
                · exact HSL.out q h
                · have := HBW.out.size; simp at h; omega)
              have HB4 : Hid (Below W1.heap.size W1 w4) := hd (HBW.out.trans ((((Below.refl W1.heap.size wr).alloc HBW.out.size _)).trans (hof.below (by have := HBW.out.size; simp; omega) (fun q _ hq => HSL.out q hq))))
              clear hO hG hof hnat
              go_roundw
              case rel => exact ⟨k + 1, a3, c3, G2, hkt, by rw [HL2.out], by go_num, by rw [HL2.out]; exact HOO.out, HGB.out, HB4.out⟩
              case measure => simp [intOf]; omega
          · obtain rfl : lp = k := by omega
            have hall : latJ f j lp = latN f j := by have h9 := HLP.out; rw [natI_len] at h9; rw [h9]; exact latJ_all f j
            have HAL := hd hall
            rw [hall] at HLA HNL
            clear hall hk hkt
            by_cases hnil : latN f j = []
            · have hz : nl = 0 := by rw [HNL.out, hnil]; rfl
              have HNX := hd (headsJ_old hnil)
              have hng : ¬ 0 < nl := by omega
              clear hnil hz
              go_wp2
              clear lB1 cB1 fB1 lBN cBN fBN lBS cBS fBS lBT cBT fBT lBG cBG fBG
              go_roundw
              case rel => exact ⟨j + 1, a, c, S, hlt, by go_num, by rw [HNX.out, ← HNH.out]; exact BN.out, by rw [HNX.out, ← HNH.out]; exact HOL1.out.off OLoop.nice (Off.of_below HBW.out Foot.none) (fun _ _ h => h), HSBS.out, HOF1.out.trans (Off.of_below HBW.out _)⟩
              case measure => simp [intOf]; omega
            · have hng : 0 < nl := by rw [HNL.out]; exact List.length_pos_iff.2 hnil
              have HNX := hd (headsJ_new hnil)
              clear hnil
              have HS1L : Hid (∀ k, S k → k < W1.heap.size) := hd (fun k hk => HOL1.out.lt k hk)
              have HSW : Hid (Holds [] wB.heap.size wr S (fun W => OLoops W S (.slice a nh c) ((headsJ f j).map (loopOf f)))) := hd ((holds_sl OLoop.nice HOL1.out (fun k hk => HSBS.out k hk)).later HBW.out)
              have HXL : Hid (((headsJ f j).map (loopOf f)).length = nh) := hd (by rw [List.length_map, ← HNH.out])
              have hsz1 : W1.heap.size ≤ wr.heap.size := HBW.out.size
              have hszb : wB.heap.size ≤ W1.heap.size := HOF1.out.size
              obtain ⟨XF, hX1, hX2⟩ : ∃ XF : Nat → Foot, (∀ q k, q ≠ 10 → ¬ XF q k) ∧ ∀ k, XF 10 k ↔ S k := ⟨fun q => if q = 10 then S else Foot.none, fun q k hq h => by simp only [if_neg hq] at h; exact h.elim, fun k => by simp⟩
              have HX1 := hd hX1
              have HX2 := hd hX2
              have HXA : Hid (∀ k, Four.All XF k → S k) := hd (fun k ⟨q, hq⟩ => by
                by_cases e : q = 10
                · subst e; exact (hX2 k).1 hq
                · exact absurd hq (hX1 q k e))
              clear hX1 hX2
              have xV : ∀ q k, XF q k → k < W1.heap.size := fun q k h => HS1L.out k (HXA.out k ⟨q, h⟩)
              have xW : ∀ q k, XF q k → k < wr.heap.size := fun q k h => Nat.lt_of_lt_of_le (xV q k h) hsz1
              have xI : ∀ w w' : World, True → Below w.heap.size w w' → True := fun _ _ _ _ => trivial
              have xI0 : True := trivial
              have xBN : ¬ Four.All XF w2.heap.size := fun h => by have := HSBS.out _ (HXA.out _ h); omega
              have xBASE : ∀ k, k < wr.heap.size → Four.All XF k → w2.heap.size ≤ k := fun k _ h => by have := HSBS.out k (HXA.out k h); omega
              go_upto_region 16 with (fail)
              obtain ⟨lBN, cBN, fBN⟩ := BN.out
              refine Four.wp_region_grow (XF := XF) (I := (fun _ => True)) 11 (fun ν kz => match kz with | 8 => .holds (fun u w' => ∃ (a1 a3 : Option Addr) (c1 c3 : Nat) (Sx : Foot), u = .agg #[.int .i64 j, .slice a1 (bodyN f j).length c1, .slice a2 nl c2, .slice a3 (exitN f j).length c3, .int .i64 0] ∧ Holds [] W1.heap.size w' Sx (fun W => OLoop W Sx [.int .i64 j, .slice a1 (bodyN f j).length c1, .slice a2 nl c2, .slice a3 (exitN f j).length c3, .int .i64 0] (loopOf f j))) | 9 => .holds (fun u w' => ∃ (B : Nat) (a1 a3 : Option Addr) (c1 c3 : Nat) (Sx : Foot), u = .slice (some ⟨B, 0, none⟩) 1 1 ∧ W1.heap.size ≤ B ∧ Box w' B #[.int .i64 j, .slice a1 (bodyN f j).length c1, .slice a2 nl c2, .slice a3 (exitN f j).length c3, .int .i64 0] ∧ Holds [] W1.heap.size w' Sx (fun W => OLoop W Sx [.int .i64 j, .slice a1 (bodyN f j).length c1, .slice a2 nl c2, .slice a3 (exitN f j).length c3, .int .i64 0] (loopOf f j))) | 10 => .holds (fun u w' => ∃ Sx, Holds [] wB.heap.size w' Sx (fun W => OLoops W Sx u ((headsJ f j).map (loopOf f) ++ [loopOf f j])) ∧ (∀ k, Sx k → S k ∨ W1.heap.size ≤ k) ∧ ∃ g cap, u = .slice (some ⟨g, 0, none⟩) (nh + 1) cap) | _ => .plain) (by kernel_rfl) (by kernel_rfl) ?_ ?_ xW xI xI0 ?_ (fun ν => ?_)
              · (intro ν k; (try dsimp only); split <;> first | exact True.intro | (intro u w1 w2 hu hb; first | (obtain ⟨a1, a3, c1, c3, Sx, h1, h2⟩ := hu; exact ⟨a1, a3, c1, c3, Sx, h1, h2.off hb (fun k g1 ⟨q, _, g2⟩ => by have := xV q k g2; have := h2.base k g1; omega)⟩) | (obtain ⟨B, a1, a3, c1, c3, Sx, h0, h1, h2, h3⟩ := hu; exact ⟨B, a1, a3, c1, c3, Sx, h0, h1, h2.off hb (fun ⟨q, _, g2⟩ => by have := xV q _ g2; omega), h3.off hb (fun k g1 ⟨q, _, g2⟩ => by have := xV q k g2; have := h3.base k g1; omega)⟩) | (obtain ⟨Sx, h1, h2, h3⟩ := hu; exact ⟨Sx, h1.off hb (fun k _ ⟨q, g1, g2⟩ => HX1.out q k g1 g2), h2, h3⟩)))
              · (intro ν ν' k h; first | rfl | ((try dsimp only); split <;> first | rfl))
              · (intro ν j B mk A h; (try dsimp only at h); split at h <;> first | (cases h; exact Nat.le_refl _) | cases h)
              simp only [List.take_succ_cons, List.take_zero, List.drop_succ_cons, List.drop_zero]
              iterate 8 (refine Four.Grow.val (v := ?_) rfl rfl (fun wg hbg hdg => ?_) ?_; rotate_left; (focus ((obtain ⟨lg0, cg0, fg0⟩ := BN.out.off hbg.off xBN); clear hbg hdg; first | (go_simp; done) | (go_simp; with_reducible rfl))); simp only [Act.put, List.setIfInBounds_toArray, List.set_cons_zero, List.set_cons_succ])
              refine Four.Grow.call (f := ?_) (args := ?_) rfl (fun wg => ?_) (fun wg hbg hdg => ?_) ?_
              rotate_left 2
              focus (first | (go_simp; done) | (go_simp; refine And.intro ?_ ?_ <;> with_reducible rfl) | (go_simp; with_reducible rfl))
              focus (have hb2 : Below w2.heap.size w2 wg := HW2R.out.trans (hbg.off.below HW2R.out.size xBASE); exact (nestLoop (h := j) ((HS2.out.later hb2).nest (BN.out.off hbg.off xBN) (by have h9 := HSB.out.below BlockR.lasting hb2; rw [HNB.out] at h9; exact h9)) HF.out (by rw [← HNB.out]; exact hlt) (HLA.out.off hbg.off (fun k g1 g2 => by have := HSL.out k g1; have := HS1L.out k (HXA.out k g2); omega)).ints).mono (fun e w3 ⟨a1, a3, c1, c3, S1, S2, he, h1, h2, hF1, hF2, hw⟩ => ⟨_, he, ⟨a1, a3, c1, c3, _, rfl, oloop_of HNL.out h1 ((HLA.out.off hbg.off (fun k g1 g2 => by have := HSL.out k g1; have := HS1L.out k (HXA.out k g2); omega)).off (Off.of_below hw Foot.none) (fun _ _ h => h)) h2 (fun k hk => by have := hF1 k hk; have := hbg.1.size; omega) HSL.out (fun k hk => by have := hF2 k hk; have := hbg.1.size; omega)⟩, hw⟩))
              simp only [Act.put, Known.val, List.setIfInBounds_toArray, List.set_cons_zero, List.set_cons_succ]
              refine Four.Grow.gives rfl (fun wg hbg hdg => ?_) ?_
              focus ((have h8 : ∃ (a1 a3 : Option Addr) (c1 c3 : Nat) (Sx : Foot), ν 8 = .agg #[.int .i64 j, .slice a1 (bodyN f j).length c1, .slice a2 nl c2, .slice a3 (exitN f j).length c3, .int .i64 0] ∧ Holds [] W1.heap.size wg Sx (fun W => OLoop W Sx [.int .i64 j, .slice a1 (bodyN f j).length c1, .slice a2 nl c2, .slice a3 (exitN f j).length c3, .int .i64 0] (loopOf f j)) := hdg 8 (by kernel_rfl)); (obtain ⟨a1, a3, c1, c3, Sx, e8, k8⟩ := h8); (have hsz := hbg.1.size); clear hdg; simp only [e8]; refine ⟨.slice (some ⟨wg.heap.size, 0, none⟩) 1 1, wg.alloc (.cells #[.int .i64 j, .slice a1 (bodyN f j).length c1, .slice a2 nl c2, .slice a3 (exitN f j).length c3, .int .i64 0] 63), ?_, ⟨wg.heap.size, a1, a3, c1, c3, Sx, rfl, by omega, Box.new _ _ _, k8.alloc _⟩, Four.Step.of (fun _ _ _ _ => trivial) ((Below.refl _ _).alloc (Nat.le_refl _) _)⟩; clear hbg k8; (first | (go_simp; done) | (go_simp; with_reducible rfl)))
              simp only [Act.put, Known.val, List.setIfInBounds_toArray, List.set_cons_zero, List.set_cons_succ]
              refine Four.Grow.gives rfl (fun wg hbg hdg => ?_) ?_
              focus ((have h9 : ∃ (B : Nat) (a1 a3 : Option Addr) (c1 c3 : Nat) (Sx : Foot), ν 9 = .slice (some ⟨B, 0, none⟩) 1 1 ∧ W1.heap.size ≤ B ∧ Box wg B #[.int .i64 j, .slice a1 (bodyN f j).length c1, .slice a2 nl c2, .slice a3 (exitN f j).length c3, .int .i64 0] ∧ Holds [] W1.heap.size wg Sx (fun W => OLoop W Sx [.int .i64 j, .slice a1 (bodyN f j).length c1, .slice a2 nl c2, .slice a3 (exitN f j).length c3, .int .i64 0] (loopOf f j)) := hdg 9 (by kernel_rfl)); (obtain ⟨B, a1, a3, c1, c3, Sx, e9, hB9, hX9, k9⟩ := h9); (have hsz := hbg.1.size); simp only [e9]; exact gives_osnoc OLoop.nice _ _ 53 63 rfl elLoop rfl rfl HXL.out (HSW.out.off hbg.1 (fun k _ ⟨q, g1, _, g3⟩ => HX1.out q k g1 g3)) hX9 rfl k9.now (fun k g1 g2 => by have := k9.base k g1; have := HS1L.out k g2; omega) (fun k g1 => by have := k9.base k g1; omega) (by intro b hb; simp at hb) (by omega) (by intro u hu; simp at hu; rcases hu with rfl | rfl | rfl | rfl | rfl <;> rfl) (by omega) (by omega) k9.base (by omega) (fun k hk => (HX2.out k).2 hk))
              simp only [Act.put, Known.val, List.setIfInBounds_toArray, List.set_cons_zero, List.set_cons_succ]
              intro wg hb hf hap
              clear hap
              clear lBN cBN fBN
              replace BN := hd (BN.out.off hb.1 xBN)
              obtain ⟨lBN, cBN, fBN⟩ := BN.out
              simp only [Nat.zero_add, Nat.reduceAdd]
              have h10 : ∃ Sx, Holds [] wB.heap.size wg Sx (fun W => OLoops W Sx (ν 10) ((headsJ f j).map (loopOf f) ++ [loopOf f j])) ∧ (∀ k, Sx k → S k ∨ W1.heap.size ≤ k) ∧ ∃ g cap, ν 10 = .slice (some ⟨g, 0, none⟩) (nh + 1) cap := hf 10 (by omega)
              obtain ⟨SN, k1, k2, g9, c9, e9⟩ := h10
              rw [e9] at k1
              simp only [e9]
              have hof : Off S wr wg := hb.1.mono (fun k _ hk => HXA.out k hk)
              have HB9 := BN
              have HK1 : Hid (OLoops (wg.setCell ⟨w2.heap.size, 1, none⟩ (.slice (some ⟨g9, 0, none⟩) (nh + 1) c9)) SN (.slice (some ⟨g9, 0, none⟩) (nh + 1) c9) ((headsJ f (j + 1)).map (loopOf f))) := hd (by rw [HNX.out, List.map_append]; exact k1.now.off OLoop.nice (Off.set wg ⟨w2.heap.size, 1, none⟩ _) (fun k g1 g2 => by have h9 : k = w2.heap.size := g2; have := k1.base k g1; omega))
              have HOF9 : Hid (Off (fun k => k = w2.heap.size) wB (wg.setCell ⟨w2.heap.size, 1, none⟩ (.slice (some ⟨g9, 0, none⟩) (nh + 1) c9))) := hd (by
                have h1 : Off (fun k => k = w2.heap.size ∨ S k) wB wg := (HOF1.out.mono fun k _ h => .inl h).trans ((Off.of_below HBW.out _).trans (hof.mono fun k _ h => .inr h))
                exact (h1.trans ((Off.set wg ⟨w2.heap.size, 1, none⟩ _).mono fun k _ h => .inl h)).mono fun k hk h => h.elim (fun h => h) (fun h => by have := HSBS.out k h; omega))
              have HNS : Hid (∀ k, SN k → wB.heap.size ≤ k) := hd k1.base
              have HNL1 : Hid ((headsJ f (j + 1)).length = nh + 1) := hd (by rw [HNX.out, List.length_append, ← HNH.out]; rfl)
              clear hof k1 k2 e9 hf hb
              clear lBN cBN fBN
              obtain ⟨lm, cm, fm⟩ := HB9.out
              go_wp2
              go_roundw
              case rel => exact ⟨j + 1, _, _, SN, hlt, by go_num, by rw [HNL1.out]; simpa using HB9.out.set 1 (.slice (some ⟨g9, 0, none⟩) (nh + 1) c9), by rw [HNL1.out]; exact HK1.out, HNS.out, HOF9.out⟩
              case measure => simp [intOf]; omega
      · have HHE : Hid (headsJ f j = headsN f) := hd (by
          have h9 : j = f.blocks.length := by have := HNB.out; omega
          rw [h9]; exact headsJ_all f)
        have HN9 : Hid (nh = (headsN f).length) := hd (by rw [HNH.out, HHE.out])
        have HO0 : Hid (OLoops wr S (.slice a nh c) (parL f 0)) := hd (by rw [parL_zero]; have h9 := HOL.out; rw [HHE.out] at h9; exact h9)
        clear HHE HNH HOL HOF
        go_wp2_with fail
        clear lB1 cB1 fB1 lBN cBN fBN lBS cBS fBS lBT cBT fBT lBG cBG fBG
        clear hlt hj
        obtain ⟨W3, hW3⟩ : ∃ W3, W3 = wr := ⟨_, rfl⟩
        rw [← hW3] at HO0 HW2R HNW HW B1 BN BS BT BG ⊢
        clear hW3
        have HW3 := HW
        have HW2R3 := HW2R
        have HO3 := HO0
        have B13 := B1
        have BN3 := BN
        clear HW HNW HW2R HO0 B1 BN BS BT BG
        go_loopw [83] (fun iv wr => ∃ k : Nat, k ≤ nh ∧ iv = .int .i64 k ∧ OLoops wr S (.slice a nh c) (parL f k) ∧ Off S W3 wr) (fun iv _ => nh - (intOf iv).toNat)
        case atStart => exact ⟨0, Nat.zero_le _, rfl, HO3.out, Off.refl _ _⟩
        case round =>
          obtain ⟨k, hk, rfl, hol, ho⟩ := hrel
          have HOL := hd hol
          have HOF := hd ho
          have HW2R : Hid (Below w2.heap.size w2 wr) := hd (HW2R3.out.trans (ho.below HW2R3.out.size (fun k _ hk => by have := HSBS.out k hk; omega)))
          have HNW : Hid (NestV f wr w2.heap.size bs bt bg lg lcap (.map (some tm)) (.map (some bm)) (.slice a nh c) ap (some ⟨bb, bo, none⟩) np cp cb ar ce (.slice (some ⟨pb, po, none⟩) f.blocks.length pc) ov lv) := hd ((HS2.out.later HW2R.out).nest (BN3.out.off ho (fun h => by have := HSBS.out _ h; omega)) (by have h9 := HSB.out.below BlockR.lasting HW2R.out; rw [HNB.out] at h9; exact h9))
          have HW : Hid (Below w.heap.size w wr) := hd (HW2.out.trans (HW2R.out.mono HW2.out.size))
          have B1 := hd (B12.out.later HW2R.out)
          clear hol ho
          have BN := hd HNW.out.n
          have BS := hd HNW.out.s
          have BT := hd HNW.out.t
          have BG := hd HNW.out.g
          rw [← HNB.out] at BT BG
          obtain ⟨lB1, cB1, fB1⟩ := B1.out
          obtain ⟨lBN, cBN, fBN⟩ := BN.out
          obtain ⟨lBS, cBS, fBS⟩ := BS.out
          obtain ⟨lBT, cBT, fBT⟩ := BT.out
          obtain ⟨lBG, cBG, fBG⟩ := BG.out
          by_cases hkt : k < nh
          · obtain ⟨l, hl⟩ : ∃ l, (parL f k)[k]? = some l := ⟨_, List.getElem?_eq_getElem (by rw [parL_len, ← HN9.out]; exact hkt)⟩
            obtain ⟨ga, cap, hv, hcap, hSg, hgl, -, -, -⟩ := HOL.out.par hl
            have HL := hd hl
            injection hv with e1 e2 e3
            subst e1
            subst e3
            have HSG := hd hSg
            rw [← e2] at hcap
            clear hl hSg e2
            go_wp2_with fail
            have HBR : Hid (Since wr wr) := hd (Below.refl _ _)
            refine wp_region_grow 10 (fun kz => match kz with | 7 => .const (.int .i64 (parentN (parL f k) k)) | _ => .plain) (by kernel_rfl) (by kernel_rfl) ?_ (fun ν => ?_)
            · (intro k; (try dsimp only); split <;> first | exact True.intro | (intro u w1 w2 hu hb; exact hu.below hb))
            simp only [List.take_succ_cons, List.take_zero, List.drop_succ_cons, List.drop_zero]
            iterate 7 (refine Grow.val (v := ?_) rfl rfl (fun wg hbg hdg => ?_) ?_; rotate_left; (focus ((obtain ⟨lg0, cg0, fg0⟩ := B1.out.later hbg); (obtain ⟨lg1, cg1, fg1⟩ := BN.out.later hbg); (obtain ⟨lg2, cg2, fg2⟩ := BS.out.later hbg); (obtain ⟨lg3, cg3, fg3⟩ := BT.out.later hbg); (obtain ⟨lg4, cg4, fg4⟩ := BG.out.later hbg); clear hbg hdg; first | (go_simp; done) | (go_simp; with_reducible rfl))); simp only [Act.put, List.setIfInBounds_toArray, List.set_cons_zero, List.set_cons_succ])
            refine Grow.call (f := ?_) (args := ?_) rfl (fun wg => ?_) (fun wg hbg hdg => ?_) ?_
            rotate_left 2
            focus (first | (go_simp; done) | (go_simp; refine And.intro ?_ ?_ <;> with_reducible rfl) | (go_simp; with_reducible rfl))
            focus exact Calls.mono (loopParent (bn := w2.heap.size) (ls := parL f k) (i := k) (BN.out.later hbg) (by have h9 := (HOL.out.off OLoop.nice (Off.of_below hbg Foot.none) (fun _ _ h => h)).reads (fun _ _ _ h => h.reads); exact h9) (by rw [parL_len, ← HN9.out]; exact hkt) (fun l hl => (loops_rise l hl).1) (by rw [parL_len, ← HN9.out]; omega) (fun l hl => by have := (loops_rise l hl).2; have := HNB.out; omega)) (fun e w2 ⟨he, hb2⟩ => ⟨_, he, rfl, hb2⟩)
            simp only [Act.put, Known.val, List.setIfInBounds_toArray, List.set_cons_zero, List.set_cons_succ]
            iterate 2 (refine Grow.val (v := ?_) rfl rfl (fun wg hbg hdg => ?_) ?_; rotate_left; (focus ((obtain ⟨lg0, cg0, fg0⟩ := B1.out.later hbg); (obtain ⟨lg1, cg1, fg1⟩ := BN.out.later hbg); (obtain ⟨lg2, cg2, fg2⟩ := BS.out.later hbg); (obtain ⟨lg3, cg3, fg3⟩ := BT.out.later hbg); (obtain ⟨lg4, cg4, fg4⟩ := BG.out.later hbg); clear hbg hdg; first | (go_simp; done) | (go_simp; with_reducible rfl))); simp only [Act.put, List.setIfInBounds_toArray, List.set_cons_zero, List.set_cons_succ])
            intro wg hb hf hap
            clear hap
            clear lB1 cB1 fB1 lBN cBN fBN lBS cBS fBS lBT cBT fBT lBG cBG fBG
            replace B1 := hd (B1.out.later hb)
            replace BN := hd (BN.out.later hb)
            replace BS := hd (BS.out.later hb)
            replace BT := hd (BT.out.later hb)
            replace BG := hd (BG.out.later hb)
            replace HBR := hd (HBR.out.later hb)
            replace HW := hd (HW.out.trans (hb.mono HW.out.size))
            clear hb
            obtain ⟨lB1, cB1, fB1⟩ := B1.out
            obtain ⟨lBN, cBN, fBN⟩ := BN.out
            obtain ⟨lBS, cBS, fBS⟩ := BS.out
            obtain ⟨lBT, cBT, fBT⟩ := BT.out
            obtain ⟨lBG, cBG, fBG⟩ := BG.out
            have hb := HBR.out
            obtain ⟨g2, cap2, hv2, hcap2, hSg2, hgl2, hcell, hfr, hset⟩ := OLoops.par (HOL.out.off OLoop.nice (Off.of_below hb Foot.none) (fun _ _ h => h)) HL.out
            injection hv2 with y1 y2 y3
            injection y1 with y1
            injection y1 with y1
            subst y1
            have HNX : Hid (OLoops (wg.setCell ⟨ga, k * 5 + 4, none⟩ (.int .i64 (parentN (parL f k) k))) S (.slice (some ⟨ga, 0, none⟩) nh c) (parL f (k + 1))) := hd (by
              have h9 := hset (parentN (loops0 f) k)
              rw [parL_next HL.out] at h9
              rw [parentN_par]
              exact h9)
            have HOX : Hid (Off S W3 (wg.setCell ⟨ga, k * 5 + 4, none⟩ (.int .i64 (parentN (parL f k) k)))) := hd ((HOF.out.trans (Off.of_below hb _)).trans ((Off.set wg ⟨ga, k * 5 + 4, none⟩ _).mono fun q _ h => by have h9 : q = ga := h; rw [h9]; exact HSG.out))
            clear hset hcap2 hSg2 hf hb
            go_wp2
            clear lB1 cB1 fB1 lBN cBN fBN lBS cBS fBS lBT cBT fBT lBG cBG fBG
            go_roundw
            case rel => exact ⟨k + 1, hkt, by go_num, HNX.out, HOX.out⟩
            case measure => simp [intOf]; omega
          · obtain rfl : nh = k := by omega
            have HLA : Hid (OLoops wr S (.slice a nh c) (loopsF f)) := hd (by have h9 := HOL.out; rw [HN9.out, parL_all] at h9; rw [HN9.out]; exact h9)
            have HLE : Hid ((loopsF f).length = nh) := hd (by rw [loopsF_len, HN9.out])
            clear HOL hk
            go_wp2
            go_ret2
            refine ⟨HW.out, .inr (.inr ⟨HCH.out, HFR.out, w2.heap.size, bs, bt, bg, lg, lcap, .map (some tm), .map (some bm), ap, some ⟨bb, bo, none⟩, np, cp, cb, ar, ce, _, _, ov, lv, O, I, a, c, S, rfl, HO.out, HD.out, by rw [HLE.out]; exact HNW.out, HS2.out.t.later HW2R.out, by rw [HLE.out]; exact HLA.out, fun k hk => by have := HSBS.out k hk; omega⟩)⟩
end Go.Proofs.YtgmhnepmkaonaaaGreat
