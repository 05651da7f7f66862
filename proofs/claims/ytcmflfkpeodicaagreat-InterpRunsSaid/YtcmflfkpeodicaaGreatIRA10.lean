/- Part 10. -/
import Derived.Test.YtcmflfkpeodicaaGreatIRA9
namespace Go.Proofs.YtcmflfkpeodicaaGreat
set_option maxHeartbeats 12800000
set_option linter.all false
open Go.RowKit
theorem rL (ps:List Int) (j:Nat) (t:Int) (h:ps[j]? = some t):parT (ps.take (j+1))=parT (ps.take j) ++ [((j:Int),t)]:=by
 have hj:=(aE.1 h).1
 unfold parT
 rw [bU,h,Option.toList_some,List.zipIdx_append,bF]
 simp [aX,dH (bG hj)]
theorem aBX (ps:List Int) (j:Nat):tyOf (parT (ps.take j)) j=none:=by
 rw [jS,kO]
 simp only [aY,cO,not_exists,not_and,aX]
 intro i hi e;omega
theorem wT {f:FuncD} (h:iH f=true):sI f=if f.params.all kH then f.blocks.zipIdx.foldlM (iY f.params.length f.blocks.length f.arrays f.cells) (parT f.params) else none:=by
 unfold sI;rw [h,cQ]
theorem rM {f:FuncD} (h:iH f=false):sI f=none:=by
 unfold sI;rw [h];rfl
set_option maxRecDepth 100000 in
theorem aBY {w:World} {f:FuncD} {bc bm:Nat} {ap ab:Option Addr} {cp cb np nb:Nat} (hb:Box w bc (chk (.slice ap np cp) (.slice ab nb cb) f.arrays f.cells bm)) (hnp:np=f.params.length) (hnb:nb=f.blocks.length)
  (hB:eQ gF 6 w (.slice ab nb cb) f.blocks) (hno:iH f=false) :
  Calls Tryz.prog 126 #[.pointer (some ⟨bc,0,none⟩)] w fun e w'=>e = .returned (.bool false)/\Below w.heap.size w w':=by
 have c0:=hb.at 0 (v:=.slice ap np cp) rfl
 have c1:=hb.at 1 (v:=.int .i64 f.arrays) rfl
 have c2:=hb.at 2 (v:=.int .i64 f.cells) rfl
 have c3:=hb.at 3 (v:=.slice ab nb cb) rfl
 have HB:=h! hB
 have hsz:=uN hB
 have hways:16 < np \/ (np <= 16/\f.arrays < 0) \/ (np <= 16/\0 <= f.arrays/\8 < f.arrays) \/ (np <= 16/\0 <= f.arrays/\f.arrays <= 8/\f.cells < 0) \/ (np <= 16/\0 <= f.arrays/\f.arrays <= 8/\0 <= f.cells/\64 < f.cells) \/
   (np <= 16/\0 <= f.arrays/\f.arrays <= 8/\0 <= f.cells/\f.cells <= 64/\nb < 1) \/ (np <= 16/\0 <= f.arrays/\f.arrays <= 8/\0 <= f.cells/\f.cells <= 64/\1 <= nb/\512 < nb) \/
   (np <= 16/\0 <= f.arrays/\f.arrays <= 8/\0 <= f.cells/\f.cells <= 64/\1 <= nb/\nb <= 512/\4096 < kZ f):=by
  rw [hnp,hnb]
  by_cases h1:16 < f.params.length
  ·exact .inl h1
  ·by_cases h2:f.arrays < 0
   ·exact .inr (.inl ⟨by omega,h2⟩)
   by_cases h3:8 < f.arrays
   ·exact .inr (.inr (.inl ⟨by omega,by omega,h3⟩))
   by_cases h4:f.cells < 0
   ·exact .inr (.inr (.inr (.inl ⟨by omega,by omega,by omega,h4⟩)))
   by_cases h5:64 < f.cells
   ·exact .inr (.inr (.inr (.inr (.inl ⟨by omega,by omega,by omega,by omega,h5⟩))))
   by_cases h6:f.blocks.length < 1
   ·exact .inr (.inr (.inr (.inr (.inr (.inl ⟨by omega,by omega,by omega,by omega,by omega,h6⟩)))))
   by_cases h7:512 < f.blocks.length
   ·exact .inr (.inr (.inr (.inr (.inr (.inr (.inl ⟨by omega,by omega,by omega,by omega,by omega,by omega,h7⟩))))))
   refine .inr (.inr (.inr (.inr (.inr (.inr (.inr ⟨by omega,by omega,by omega,by omega,by omega,by omega,by omega, ?_⟩))))))
   unfold iH at hno
   simp at hno
   have:=hno (by omega) (by omega) (by omega) (by omega) (by omega) (by omega) (by omega)
   omega
 have C3:=h! c3
 clear hno hb hsz hB
 have HNB:=h! hnb
 clear hnb hnp
 have HSF:Hid ((f.blocks.map gD).sum=kZ f):=h! rfl
 generalize f.arrays=ar at *
 generalize f.cells=ce at *
 generalize kZ f=sz at *
 rcases hways with h | ⟨h1,h⟩ | ⟨h1,h2,h⟩ | ⟨h1,h2,h3,h⟩ | ⟨h1,h2,h3,h4,h⟩ | ⟨h1,h2,h3,h4,h5,h⟩ | ⟨h1,h2,h3,h4,h5,h6,h⟩ | ⟨h1,h2,h3,h4,h5,h6,h7,h⟩
 all_goals
  go_enter Tryz.func126,Tryz.ntmps126
  go_wp2_with (go_at_call 184;refine (yU C3.out HB.out (by rw [<-HNB.out];assumption)).mono ?_;rintro e w1 ⟨rfl,hb1⟩;have HB1:=h! hb1;clear hb1;rw [HSF.out])
  go_ret
  first | exact ⟨rfl,HB1.out⟩ | exact ⟨rfl,Below.refl _ _⟩
theorem IMap.alloc {w:World} {b:Nat} {m:List (Int × Value)} (h:IMap w b m) (o:Obj):IMap (w.alloc o) b m:=h.later ((Below.refl _ _).alloc (aF _) o)
theorem Turn.later {bs:List Nat} {a w w' : World} (h:Turn bs a w) (hb:Below w.heap.size w w'):Turn bs a w':=h.trans (Turn.of_below hb bs)
theorem Turn.alloc {bs:List Nat} {a w:World} (h:Turn bs a w) (o:Obj):Turn bs a (w.alloc o):=h.later ((Below.refl _ _).alloc (aF _) o)
theorem wU {np nb:Nat} {ar ce:Int} {T T1 T2:List (Int × Int)} {x:BlockD} {j:Nat} (h0:¬ (j=0/\0 < x.phis.length)) (h1:x.phis.foldlM (phiM np nb) T=some T1) (h2:x.code.foldlM (jT np ar ce) T1=some T2) :
  iY np nb ar ce T (x,j)=if gS nb x.term then some T2 else none:=by
 unfold iY;rw [if_neg h0,h1,dK,h2];rfl
theorem wV {np nb:Nat} {ar ce:Int} {T:List (Int × Int)} {x:BlockD} {j:Nat} (h0:j=0/\0 < x.phis.length):iY np nb ar ce T (x,j)=none:=by unfold iY;rw [if_pos h0]
theorem wW {np nb:Nat} {ar ce:Int} {T:List (Int × Int)} {x:BlockD} {j:Nat} (h1:x.phis.foldlM (phiM np nb) T=none):iY np nb ar ce T (x,j)=none:=by
 unfold iY;rw [h1];split <;> rfl
theorem wX {np nb:Nat} {ar ce:Int} {T T1:List (Int × Int)} {x:BlockD} {j:Nat} (h1:x.phis.foldlM (phiM np nb) T=some T1) (h2:x.code.foldlM (jT np ar ce) T1=none):iY np nb ar ce T (x,j)=none:=by
 unfold iY;rw [h1,dK,h2];split <;> rfl
theorem qM {α β : Type} (g : β -> α -> Option β) (l:List α) (s t : β) (j:Nat) (x : α) (h:l[j]? = some x) (ht:(l.take j).foldlM g s=some t):(l.take (j+1)).foldlM g s=g t x:=by
 rw [xN g l s j x h,ht];rfl
set_option maxRecDepth 100000 in
theorem wY {w wc : World} {ps : List Int} {ar ce : Int} {bs : List BlockD} {bc bm : Nat} {ap ab : Option Addr} {cp cb np nb : Nat} {r : Option (List (Int × Int))} (hW : Below w.heap.size w wc) (hm0 : w.heap.size ≤ bm) (hne : bc ≠ bm)
    (hb : Box wc bc (chk (.slice ap np cp) (.slice ab nb cb) ar ce bm)) (hm : IMap wc bm []) (hnp : np = ps.length) (hnb : nb = bs.length) (hp : Ints w (.slice ap np cp) ps) (hB : eQ gF 6 w (.slice ab nb cb) bs)
    (h1 : np ≤ 16) (h2 : 0 ≤ ar ∧ ar ≤ 8) (h3 : 0 ≤ ce ∧ ce ≤ 64) (h4 : 1 ≤ nb ∧ nb ≤ 512) (h5 : (bs.map gD).sum ≤ 4096)
    (hr : r = if ps.all kH then bs.zipIdx.foldlM (iY np nb ar ce) (parT ps) else none) :
    Calls Tryz.prog 126 #[.pointer (some ⟨bc, 0, none⟩)] wc (iA r bm wc) := by
  have HR := h! hr
  have HW0 := h! hW
  have HM0 := h! hm0
  have HNE := h! hne
  have HBC := h! hb
  have HM := h! hm
  have HNP := h! hnp
  have HNB := h! hnb
  have HBS := h! (hB.below gF.lasting hW)
  obtain ⟨a1, c1, pb, po, hpe, hpc, hpm, hpa, hpx⟩ := hp.parts
  rw [← hnp] at hpe hpc hpa hpx
  cases hpe
  obtain ⟨a2, c2, bb, bo, hbe, hbc, hbm, hbl, hba, hbx⟩ := eW hB
  rw [← hnb] at hbe hbc hba
  cases hbe
  obtain ⟨rfl, hbw⟩ := hba (by omega)
  have HPA := h! hpa
  have HPX := h! hpx
  have HBW := h! hbw
  have HBX := h! hbx
  have HSZ := h! h5
  have HAR := h! h2
  have HCE := h! h3
  have HN4 := h! h4.2
  have d0 := hb.at 0 (v := .slice ap np cp) rfl
  have d1 := hb.at 1 (v := .int .i64 ar) rfl
  have d2 := hb.at 2 (v := .int .i64 ce) rfl
  have d3 := hb.at 3 (v := .slice (some ⟨bb, bo, none⟩) nb cb) rfl
  have D3 := h! d3
  have g1 : decide (16 < (np : Int)) = false := by simp; omega
  have g2 : decide (ar < 0) = false := by simp; omega
  have g3 : decide (8 < ar) = false := by simp; omega
  have g4 : decide (ce < 0) = false := by simp; omega
  have g5 : decide (64 < ce) = false := by simp; omega
  have g6 : decide ((nb : Int) < 1) = false := by simp; omega
  have g7 : decide (512 < (nb : Int)) = false := by simp; omega
  have g8 : decide (4096 < (bs.map gD).sum) = false := by simp; omega
  have HL : Hid (bc < wc.heap.size ∧ bm < wc.heap.size) := h! ⟨hb.lt, hm.lt⟩
  clear hr hW hm0 hne hb hm hnp hnb hB hpa hpx hba hbx hp hbl hbw
  have HN16 : Hid (np ≤ 16) := h! h1
  clear h1 h2 h3 h4 h5
  have HKEEP : Hid (∀ wr, Turn [bm] wc wr → Below w.heap.size w wr ∧ Box wr bc (chk (.slice ap np cp) (.slice (some ⟨bb, bo, none⟩) nb cb) ar ce bm)) := h! (fun wr ht => ⟨HW0.out.trans (ht.below HW0.out.size (fun x hx => by simp at hx; subst hx; exact HM0.out)), HBC.out.turn ht (by simpa using HNE.out)⟩)
  go_enter Tryz.func126, Tryz.ntmps126
  go_upto_region 3 with (go_at_call 184; refine (yU D3.out HBS.out (by rw [← HNB.out]; exact HN4.out)).mono ?_; rintro e w1 ⟨rfl, hb1⟩; have HB1 := h! hb1; clear hb1)
  clear d0 d1 d2 d3 g1 g2 g3 g4 g5 g6 g7 g8
  have HT := h! (Turn.of_below HB1.out [bm])
  have HMR := h! (HM.out.later HB1.out)
  have e0 := (HKEEP.out w1 HT.out).2.at 0 (v := .slice ap np cp) rfl
  have hnp16 := HN16.out
  have hnb16 : nb ≤ 512 := HN4.out
  go_wp2_with fail
  go_loopw [79] (fun i wr => ∃ j : Nat, j ≤ np ∧ i = .int .i64 j ∧ (ps.take j).all kH = true ∧ IMap wr bm (encT (parT (ps.take j))) ∧ Turn [bm] wc wr) (fun i _ => np - (intOf i).toNat)
  case atStart => exact ⟨0, aP _, rfl, rfl, HMR.out, HT.out⟩
  case round =>
    obtain ⟨j, hj, rfl, hok, hI, hT⟩ := hrel
    have HOK := h! hok
    have HI := h! hI
    replace HT := h! hT
    obtain ⟨hk1, hk2⟩ := HKEEP.out wr hT
    have HWR := h! hk1
    have HBR := h! hk2
    clear hok hI hT hk1 hk2 e0 HMR
    by_cases hlt : j < np
    · have hne : 0 < np := by omega
      obtain ⟨rfl, hbw⟩ := HPA.out hne
      have hjx : ps[j]? = some (ps.getD j 0) := by rw [aH, aB (by have := HNP.out; omega)]; rfl
      have hx0 := (HWR.out.cell hbw).trans (HPX.out j hlt)
      have f4 := HBR.out.at 4 (v := .map (some bm)) rfl
      have HSN := h! (rL ps j _ hjx)
      have HNEW := h! (aBX ps j)
      have HALL := h! (show (ps.take (j + 1)).all kH = ((ps.take j).all kH && kH (ps.getD j 0)) by rw [bU, hjx]; simp)
      have HMEM := h! (aG hjx)
      clear hjx
      generalize ps.getD j 0 = t at *
      cases ht1 : (t != 1) <;> cases ht2 : (t != 2)
      all_goals
        have HT1 := h! ht1
        have HT2 := h! ht2
        go_wp2_with (at_mapUpdate; refine fC (q := .i64) (b := bm) (mm := encT (parT (ps.take j))) (y := j) rfl _ _ _ _ (.inl rfl) Tryz.underlying74 Tryz.underlying3 rfl HI.out rfl ?_; intro w2 hm2 hz2 ht2; have HP := h! hm2; have HTT := h! ht2; clear hm2 hz2 ht2)
        first
          | (go_ret
             refine iA.no ?_ HT.out
             have hno : kH t = false := by unfold kH; have e1 := HT1.out; have e2 := HT2.out; simp at e1 e2 ⊢; exact ⟨e1, e2⟩
             rw [HR.out, show ps.all kH = false by rw [bZ]; exact ⟨t, HMEM.out, by rw [hno]; simp⟩]
             rfl)
          | (go_roundw
             case rel => exact ⟨j + 1, hlt, by go_num, by rw [HALL.out, HOK.out]; unfold kH; have e1 := HT1.out; have e2 := HT2.out; simp at e1 e2 ⊢; first | exact .inl e1 | exact .inr e2 | (exact .inl (by omega)), by rw [HSN.out, ← vJ HNEW.out]; exact HP.out, HT.out.trans HTT.out⟩
             case measure => simp [intOf]; omega)
    · obtain rfl : j = np := by omega
      rw [aI (by have := HNP.out; omega)] at HOK HI
      replace HR : Hid (r = bs.zipIdx.foldlM (iY j nb ar ce) (parT ps)) := h! (by rw [HR.out, HOK.out]; rfl)
      have f3 := HBR.out.at 3 (v := .slice (some ⟨bb, bo, none⟩) nb cb) rfl
      go_wp2_with fail
      obtain ⟨np, hnp⟩ : ∃ np, np = j := ⟨_, rfl⟩
      obtain rfl := hnp
      go_loopw [103] (fun i wr => ∃ (j : Nat) (T : List (Int × Int)), j ≤ nb ∧ i = .int .i64 j ∧ (bs.zipIdx.take j).foldlM (iY np nb ar ce) (parT ps) = some T ∧ IMap wr bm (encT T) ∧ Turn [bm] wc wr) (fun i _ => nb - (intOf i).toNat)
      case atStart => exact ⟨0, _, aP _, rfl, rfl, HI.out, HT.out⟩
      case round =>
        obtain ⟨j, T, hj, rfl, hfo, hI, hT⟩ := hrel
        have HFO := h! hfo
        replace HI := h! hI
        replace HT := h! hT
        obtain ⟨hk1, hk2⟩ := HKEEP.out wr hT
        have HW := h! hk1
        have BC : Hid (Box wr bc #[.slice ap np cp, .int .i64 ar, .int .i64 ce, .slice (some ⟨bb, bo, none⟩) nb cb, .map (some bm)]) := h! hk2
        clear hfo hI hT hk1 hk2 f3 HOK HWR HBR
        generalize wr = wb at *
        by_cases hltb : j < nb
        · have hbw := HBW.out
          obtain ⟨x, hjx⟩ : ∃ x, bs[j]? = some x := ⟨_, aB (by have := HNB.out; omega)⟩
          obtain ⟨api, aii, ati, cpi, cii, cti, hC⟩ := HBX.out j x hjx
          have HFS := h! (qM (iY np nb ar ce) bs.zipIdx (parT ps) T j (x, j) (by simp [cN, hjx]) HFO.out)
          have HNO : Hid (iY np nb ar ce T (x, j) = none → r = none) := h! (fun h => by rw [HR.out]; exact nK _ _ _ (j + 1) (by rw [HFS.out]; exact h))
          have HC := h! (hC.below HW.out hbw)
          obtain ⟨k0, k1, k2, k3, k4, k5, q1, q2, q3, q4, q5, q6⟩ := HC.out
          have HC0 := (⟨hC.phis, hC.code, hC.to⟩ : eQ PhiR 4 w _ x.phis ∧ eQ kY 4 w _ x.code ∧ Ints w _ x.term.to)
          have HT6 : bm < wb.heap.size := HI.out.lt
          clear q1 q2 q3 q4 q5 q6 hC hjx
          obtain ⟨lBC, cBC, fBC⟩ := BC.out
          go_upto_region 13 with (fail)
          have nB6BC : wb.heap.size ≠ bc := fun e => by have := lBC; omega
          have nBCB6 : bc ≠ wb.heap.size := fun e => nB6BC e.symm
          clear lBC cBC fBC
          have hA_ := (Below.refl wb.heap.size wb).alloc (aF _) (.cells #[.slice api x.phis.length cpi, .slice aii x.code.length cii, .int .i64 x.term.op, .int .i64 x.term.val, .slice ati x.term.to.length cti, .int .i64 x.term.n] 50)
          replace BC := h! (BC.out.later hA_)
          replace HI := h! (HI.out.later hA_)
          replace HT := h! (HT.out.later hA_)
          replace HW := h! (HW.out.trans (hA_.mono HW.out.size))
          clear hA_
          have B6 := h! (Box.new wb #[.slice api x.phis.length cpi, .slice aii x.code.length cii, .int .i64 x.term.op, .int .i64 x.term.val, .slice ati x.term.to.length cti, .int .i64 x.term.n] 50)
          generalize wb.alloc (.cells #[.slice api x.phis.length cpi, .slice aii x.code.length cii, .int .i64 x.term.op, .int .i64 x.term.val, .slice ati x.term.to.length cti, .int .i64 x.term.n] 50) = w6 at *
          obtain ⟨lBC, cBC, fBC⟩ := BC.out
          obtain ⟨lB6, cB6, fB6⟩ := B6.out
          have HB6M : Hid (wb.heap.size ≠ bm) := h! (fun e => by have h1 := HT6; rw [e] at h1; omega)
          have HPS := h! (HC.out.phis)
          have HCS := h! (HC.out.code)
          have HX2 : Hid (eQ PhiR 4 w (.slice api x.phis.length cpi) x.phis ∧ eQ kY 4 w (.slice aii x.code.length cii) x.code ∧ Ints w (.slice ati x.term.to.length cti) x.term.to) := h! HC0
          clear HC HPS HCS k0 k1 k2 k3 k4 k5
          by_cases hz : j = 0 ∧ 0 < x.phis.length
          · obtain ⟨rfl, hz⟩ := hz
            have HZ := h! hz
            go_wp2
            go_ret
            exact iA.no (HNO.out (wV ⟨rfl, HZ.out⟩)) HT.out
          · have HZ := h! hz
            have HBK : Hid (∀ T1 T2, x.phis.foldlM (phiM np nb) T = some T1 → x.code.foldlM (jT np ar ce) T1 = some T2 → iY np nb ar ce T (x, j) = if gS nb x.term then some T2 else none) := h! (fun _ _ h1 h2 => wU hz h1 h2)
            obtain ⟨pl, hpl⟩ : ∃ pl, pl = x.phis.length := ⟨_, rfl⟩
            obtain ⟨cl, hcl⟩ : ∃ cl, cl = x.code.length := ⟨_, rfl⟩
            obtain ⟨ac, capc, bcd, ocd, hce1, hcc, hcm, hcl16, hca, hcx⟩ := gC HX2.out.2.1
            obtain ⟨apx, capp, bph, oph, hpe1, hppc, hppm, hpl16, hpa2, hpx2⟩ := fV HX2.out.1
            rw [← hpl] at hpe1 hppc hpl16 hpa2 B6
            rw [← hcl] at hce1 hcc hcl16 hca B6
            cases hpe1
            cases hce1
            have HPL := h! hpl
            have HCL := h! hcl
            have HPA2 := h! hpa2
            have HPX2 := h! hpx2
            have HCA2 := h! hca
            have HCX2 := h! hcx
            have HJ : Hid (((j : Int) == 0) = false ∨ (j = 0 ∧ pl ≤ 0)) := h! (by
              by_cases h : j = 0
              · exact .inr ⟨h, by omega⟩
              · exact .inl (by simp; omega))
            clear hpl hcl hpa2 hpx2 hca hcx hz
            obtain ⟨b6, hb6⟩ : ∃ b6, b6 = wb.heap.size := ⟨_, rfl⟩
            rw [← hb6] at B6 HB6M
            have HB6 := h! hb6
            clear lBC cBC fBC lB6 cB6 fB6
            obtain ⟨lBC, cBC, fBC⟩ := BC.out
            obtain ⟨lB6, cB6, fB6⟩ := B6.out
            simp only [← hb6]
            clear hb6
            have HZP : Hid (j = 0 → pl = 0) := h! (fun h => by rcases HJ.out with h1 | ⟨_, h1⟩; (subst h; simp at h1); omega)
            rcases HJ.out with hz1 | ⟨rfl, hz1⟩
            all_goals
              go_wp2_with fail
              clear hz1
              go_loopw [119] (fun i wr => ∃ (k : Nat) (T1 : List (Int × Int)), k ≤ pl ∧ i = .int .i64 k ∧ (x.phis.take k).foldlM (phiM np nb) T = some T1 ∧ IMap wr bm (encT T1) ∧ Turn [bm] wc wr ∧ Box wr b6 #[.slice api pl cpi, .slice aii cl cii, .int .i64 x.term.op, .int .i64 x.term.val, .slice ati x.term.to.length cti, .int .i64 x.term.n]) (fun i _ => pl - (intOf i).toNat)
              case atStart => exact ⟨0, T, aP _, rfl, rfl, HI.out, HT.out, B6.out⟩
              case round =>
                obtain ⟨k, T1, hk, rfl, hfp, hI, hT, hB6⟩ := hrel
                clear lBC cBC fBC lB6 cB6 fB6
                have HFP := h! hfp
                replace HI := h! hI
                replace HT := h! hT
                replace B6 := h! hB6
                replace HW := h! (HKEEP.out _ hT).1
                replace BC : Hid (Box wr bc #[.slice ap np cp, .int .i64 ar, .int .i64 ce, .slice (some ⟨bb, bo, none⟩) nb cb, .map (some bm)]) := h! (HKEEP.out _ hT).2
                clear hfp hI hT hB6
                generalize wr = w7 at *
                obtain ⟨lBC, cBC, fBC⟩ := BC.out
                obtain ⟨lB6, cB6, fB6⟩ := B6.out
                by_cases hlt : k < pl
                · first
                    | (exfalso; have h1 := HZP.out (by first | rfl | trivial); omega)
                    | (have hne : 0 < pl := by omega
                       obtain ⟨rfl, hbp⟩ := HPA2.out hne
                       obtain ⟨p, hkp⟩ : ∃ p, x.phis[k]? = some p := ⟨_, aB (by have := HPL.out; omega)⟩
                       obtain ⟨af, av, cf, cv, hP⟩ := HPX2.out k p hkp
                       have HFS2 := h! (qM (phiM np nb) x.phis T T1 k p hkp HFP.out)
                       obtain ⟨m0, m1, m2, m3, q1, q2, q3, q4⟩ := hP.below HW.out hbp
                       have HSRC := h! hP.src
                       clear q1 q2 q3 q4 hP hkp
                       go_upto_region 18 with (fail)
                       have nB8BC : w7.heap.size ≠ bc := fun e => by have := lBC; omega
                       have nBCB8 : bc ≠ w7.heap.size := fun e => nB8BC e.symm
                       have nB8B6 : w7.heap.size ≠ b6 := fun e => by have := lB6; omega
                       have nB6B8 : b6 ≠ w7.heap.size := fun e => nB8B6 e.symm
                       clear lBC cBC fBC lB6 cB6 fB6
                       have hA_ := (Below.refl w7.heap.size w7).alloc (aF _) (.cells #[.int .i64 p.id, .int .i64 p.typ, .slice af p.src.length cf, .slice av p.vals.length cv] 113)
                       replace BC := h! (BC.out.later hA_)
                       replace B6 := h! (B6.out.later hA_)
                       replace HI := h! (HI.out.later hA_)
                       replace HT := h! (HT.out.later hA_)
                       replace HW := h! (HW.out.trans (hA_.mono HW.out.size))
                       clear hA_
                       have B8 := h! (Box.new w7 #[.int .i64 p.id, .int .i64 p.typ, .slice af p.src.length cf, .slice av p.vals.length cv] 113)
                       generalize w7.alloc (.cells #[.int .i64 p.id, .int .i64 p.typ, .slice af p.src.length cf, .slice av p.vals.length cv] 113) = w8 at *
                       obtain ⟨lBC, cBC, fBC⟩ := BC.out
                       obtain ⟨lB6, cB6, fB6⟩ := B6.out
                       obtain ⟨lB8, cB8, fB8⟩ := B8.out
                       clear m0 m1 m2 m3
                       have HCP := h! (aF9 (x := p) (af := af) (av := av) (cf := cf) (cv := cv) (ap := ap) (np := np) (cp := cp) (ab := some ⟨bb, bo, none⟩) (nb := nb) (cb := cb) (ar := ar) (ce := ce) BC.out HI.out (HSRC.out.below HW.out))
                       cases hph : phiM np nb T1 p with
                       | none =>
                         rw [hph] at HCP HFS2
                         clear hph
                         go_wp2_with fail
                         refine HCP.out.mono ?_
                         rintro e w3 ⟨rfl, h3, t3⟩
                         have T3 := h! t3
                         clear h3 t3
                         go_wp2
                         go_ret
                         exact iA.no (HNO.out (wW (nK _ _ _ (k + 1) HFS2.out))) (HT.out.trans T3.out)
                       | some T2 =>
                         rw [hph] at HCP HFS2
                         clear hph
                         go_wp2_with fail
                         refine HCP.out.mono ?_
                         rintro e w3 ⟨rfl, h3, t3⟩
                         have T3 := h! t3
                         replace HI := h! (h3 T2 rfl)
                         clear h3 t3
                         clear lBC cBC fBC lB6 cB6 fB6 lB8 cB8 fB8
                         replace HT := h! (HT.out.trans T3.out)
                         replace HW := h! (HKEEP.out _ HT.out).1
                         replace BC : Hid (Box w3 bc #[.slice ap np cp, .int .i64 ar, .int .i64 ce, .slice (some ⟨bb, bo, none⟩) nb cb, .map (some bm)]) := h! (HKEEP.out _ HT.out).2
                         replace B6 := h! (B6.out.turn T3.out (by simpa using HB6M.out))
                         go_wp2
                         go_roundw
                         case rel => exact ⟨k + 1, T2, hlt, by go_num, HFS2.out, HI.out, HT.out, B6.out⟩
                         case measure => simp [intOf]; omega)
                · obtain rfl : k = pl := by omega
                  rw [aI (by have := HPL.out; omega)] at HFP
                  go_wp2_with fail
                  go_loopw [131] (fun i wr => ∃ (q : Nat) (T2 : List (Int × Int)), q ≤ cl ∧ i = .int .i64 q ∧ (x.code.take q).foldlM (jT np ar ce) T1 = some T2 ∧ IMap wr bm (encT T2) ∧ Turn [bm] wc wr ∧ Box wr b6 #[.slice api k cpi, .slice aii cl cii, .int .i64 x.term.op, .int .i64 x.term.val, .slice ati x.term.to.length cti, .int .i64 x.term.n]) (fun i _ => cl - (intOf i).toNat)
                  case atStart => exact ⟨0, T1, aP _, rfl, rfl, HI.out, HT.out, B6.out⟩
                  case round =>
                    obtain ⟨q, T2, hq, rfl, hfq, hI, hT, hB6⟩ := hrel
                    clear lBC cBC fBC lB6 cB6 fB6
                    have HFQ := h! hfq
                    replace HI := h! hI
                    replace HT := h! hT
                    replace B6 := h! hB6
                    replace HW := h! (HKEEP.out _ hT).1
                    replace BC : Hid (Box wr bc #[.slice ap np cp, .int .i64 ar, .int .i64 ce, .slice (some ⟨bb, bo, none⟩) nb cb, .map (some bm)]) := h! (HKEEP.out _ hT).2
                    clear hfq hI hT hB6
                    generalize wr = w9 at *
                    obtain ⟨lBC, cBC, fBC⟩ := BC.out
                    obtain ⟨lB6, cB6, fB6⟩ := B6.out
                    by_cases hltq : q < cl
                    · have hne : 0 < cl := by omega
                      obtain ⟨rfl, hbp⟩ := HCA2.out hne
                      obtain ⟨y, hky⟩ : ∃ y, x.code[q]? = some y := ⟨_, aB (by have := HCL.out; omega)⟩
                      obtain ⟨aa, ca, hP⟩ := HCX2.out q y hky
                      have HFS2 := h! (qM (jT np ar ce) x.code T1 T2 q y hky HFQ.out)
                      obtain ⟨m0, m1, m2, m3, r1, r2, r3, r4⟩ := hP.below HW.out hbp
                      clear r1 r2 r3 r4 hP hky
                      go_upto_region 24 with (fail)
                      have nB8BC : w9.heap.size ≠ bc := fun e => by have := lBC; omega
                      have nBCB8 : bc ≠ w9.heap.size := fun e => nB8BC e.symm
                      have nB8B6 : w9.heap.size ≠ b6 := fun e => by have := lB6; omega
                      have nB6B8 : b6 ≠ w9.heap.size := fun e => nB8B6 e.symm
                      clear lBC cBC fBC lB6 cB6 fB6
                      have hA_ := (Below.refl w9.heap.size w9).alloc (aF _) (.cells #[.int .i64 y.op, .int .i64 y.id, .slice aa y.args.length ca, .int .i64 y.n] 69)
                      replace BC := h! (BC.out.later hA_)
                      replace B6 := h! (B6.out.later hA_)
                      replace HI := h! (HI.out.later hA_)
                      replace HT := h! (HT.out.later hA_)
                      replace HW := h! (HW.out.trans (hA_.mono HW.out.size))
                      clear hA_
                      have B8 := h! (Box.new w9 #[.int .i64 y.op, .int .i64 y.id, .slice aa y.args.length ca, .int .i64 y.n] 69)
                      generalize w9.alloc (.cells #[.int .i64 y.op, .int .i64 y.id, .slice aa y.args.length ca, .int .i64 y.n] 69) = w8 at *
                      obtain ⟨lBC, cBC, fBC⟩ := BC.out
                      obtain ⟨lB6, cB6, fB6⟩ := B6.out
                      obtain ⟨lB8, cB8, fB8⟩ := B8.out
                      clear m0 m1 m2 m3
                      have HCP := h! (aCS (x := y) (aa := aa) (ca := ca) (ap := ap) (np := np) (cp := cp) HAR.out HCE.out BC.out HI.out)
                      cases hph : jT np ar ce T2 y with
                      | none =>
                        rw [hph] at HCP HFS2
                        clear hph
                        go_wp2_with fail
                        refine HCP.out.mono ?_
                        rintro e w3 ⟨rfl, h3, t3⟩
                        have T3 := h! t3
                        clear h3 t3
                        go_wp2
                        go_ret
                        exact iA.no (HNO.out (wX HFP.out (nK _ _ _ (q + 1) HFS2.out))) (HT.out.trans T3.out)
                      | some T4 =>
                        rw [hph] at HCP HFS2
                        clear hph
                        go_wp2_with fail
                        refine HCP.out.mono ?_
                        rintro e w3 ⟨rfl, h3, t3⟩
                        have T3 := h! t3
                        replace HI := h! (h3 T4 rfl)
                        clear h3 t3
                        clear lBC cBC fBC lB6 cB6 fB6 lB8 cB8 fB8
                        replace HT := h! (HT.out.trans T3.out)
                        replace HW := h! (HKEEP.out _ HT.out).1
                        replace BC : Hid (Box w3 bc #[.slice ap np cp, .int .i64 ar, .int .i64 ce, .slice (some ⟨bb, bo, none⟩) nb cb, .map (some bm)]) := h! (HKEEP.out _ HT.out).2
                        replace B6 := h! (B6.out.turn T3.out (by simpa using HB6M.out))
                        go_wp2
                        go_roundw
                        case rel => exact ⟨q + 1, T4, hltq, by go_num, HFS2.out, HI.out, HT.out, B6.out⟩
                        case measure => simp [intOf]; omega
                    · obtain rfl : q = cl := by omega
                      rw [aI (by have := HCL.out; omega)] at HFQ
                      have HBR := h! (HBK.out _ _ HFP.out HFQ.out)
                      have HCP := h! (aF8 (t := x.term) (at_ := ati) (ct := cti) (vp := .slice ap np cp) (ab := some ⟨bb, bo, none⟩) (nb := nb) (cb := cb) (ar := ar) (ce := ce) (bm := bm) BC.out (HX2.out.2.2.below HW.out))
                      cases hen : gS nb x.term
                      · rw [hen] at HCP HBR
                        clear hen
                        go_wp2_with fail
                        refine HCP.out.mono ?_
                        rintro e w3 ⟨rfl, h3⟩
                        have T3 := h! (HT.out.later h3)
                        clear h3
                        go_wp2
                        go_ret
                        exact iA.no (HNO.out (by rw [HBR.out]; rfl)) T3.out
                      · rw [hen] at HCP HBR
                        clear hen
                        go_wp2_with fail
                        refine HCP.out.mono ?_
                        rintro e w3 ⟨rfl, h3⟩
                        have T3 := h! (HT.out.later h3)
                        replace HI := h! (HI.out.later h3)
                        clear lBC cBC fBC lB6 cB6 fB6
                        clear h3
                        go_wp2
                        go_roundw
                        case rel => exact ⟨_, T2, hltb, by first | go_num | rfl, by rw [HFS.out, HBR.out]; rfl, HI.out, T3.out⟩
                        case measure => simp [intOf]; omega
        · obtain rfl : j = nb := by omega
          rw [aI (by rw [dU]; have := HNB.out; omega)] at HFO
          go_wp2
          go_ret
          exact iA.yes (by rw [HR.out, HFO.out]) HI.out HT.out
end Go.Proofs.YtcmflfkpeodicaaGreat
