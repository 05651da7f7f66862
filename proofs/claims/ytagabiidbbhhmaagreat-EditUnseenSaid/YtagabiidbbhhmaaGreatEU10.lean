/- Part 10. -/
import Derived.Test.YtagabiidbbhhmaaGreatEU9
namespace Go.Proofs.YtagabiidbbhhmaaGreat
set_option maxHeartbeats 12800000
set_option linter.all false
open Go.RowKit
theorem rX (ps:List Int) (j:Nat) (t:Int) (h:ps[j]? = some t):parT (ps.take (j+1))=parT (ps.take j) ++ [((j:Int),t)]:=by
 have hj:=(aD.1 h).1
 unfold parT
 rw [cW,h,Option.toList_some,List.zipIdx_append,bD]
 simp [aV,dT (cD hj)]
theorem aCO (ps:List Int) (j:Nat):tyOf (parT (ps.take j)) j=none:=by
 rw [iI,nA]
 simp only [bB,cT,not_exists,not_and,aV]
 intro i hi e;omega
theorem xH {f:FuncD} (h:jI f=true):sA f=if f.params.all kK then f.blocks.zipIdx.foldlM (jA f.params.length f.blocks.length f.arrays f.cells) (parT f.params) else none:=by
 unfold sA;rw [h,bL]
theorem rY {f:FuncD} (h:jI f=false):sA f=none:=by
 unfold sA;rw [h];rfl
set_option maxRecDepth 100000 in
theorem aCP {w:World} {f:FuncD} {bc bm:Nat} {ap ab:Option Addr} {cp cb np nb:Nat} (hb:Box w bc (chk (.slice ap np cp) (.slice ab nb cb) f.arrays f.cells bm)) (hnp:np=f.params.length) (hnb:nb=f.blocks.length)
  (hB:eU gI 6 w (.slice ab nb cb) f.blocks) (hno:jI f=false) :
  Calls Tryz.prog 136 #[.pointer (some ⟨bc,0,none⟩)] w fun e w'=>e = .returned (.bool false)/\Below w.heap.size w w':=by
 have c0:=hb.at 0 (v:=.slice ap np cp) rfl
 have c1:=hb.at 1 (v:=.int .i64 f.arrays) rfl
 have c2:=hb.at 2 (v:=.int .i64 f.cells) rfl
 have c3:=hb.at 3 (v:=.slice ab nb cb) rfl
 have HB:=h! hB
 have ad:=uH hB
 have aa:16 < np \/ (np <= 16/\f.arrays < 0) \/ (np <= 16/\0 <= f.arrays/\8 < f.arrays) \/ (np <= 16/\0 <= f.arrays/\f.arrays <= 8/\f.cells < 0) \/ (np <= 16/\0 <= f.arrays/\f.arrays <= 8/\0 <= f.cells/\64 < f.cells) \/
   (np <= 16/\0 <= f.arrays/\f.arrays <= 8/\0 <= f.cells/\f.cells <= 64/\nb < 1) \/ (np <= 16/\0 <= f.arrays/\f.arrays <= 8/\0 <= f.cells/\f.cells <= 64/\1 <= nb/\512 < nb) \/
   (np <= 16/\0 <= f.arrays/\f.arrays <= 8/\0 <= f.cells/\f.cells <= 64/\1 <= nb/\nb <= 512/\4096 < kY f):=by
  rw [hnp,hnb]
  by_cases h1:16 < f.params.length
  ·exact .inl h1
  ·by_cases h2:f.arrays < 0
   ·exact .inr (.inl ⟨by omega,h2⟩)
   by_cases h3:8 < f.arrays
   ·exact .inr (.inr (.inl ⟨by omega,by omega,h3⟩))
   by_cases h4:f.cells < 0
   ·exact .inr (.inr (.inr (.inl ⟨by omega,by omega,by omega,h4⟩)))
   by_cases h5:64 < f.cells
   ·exact .inr (.inr (.inr (.inr (.inl ⟨by omega,by omega,by omega,by omega,h5⟩))))
   by_cases h6:f.blocks.length < 1
   ·exact .inr (.inr (.inr (.inr (.inr (.inl ⟨by omega,by omega,by omega,by omega,by omega,h6⟩)))))
   by_cases h7:512 < f.blocks.length
   ·exact .inr (.inr (.inr (.inr (.inr (.inr (.inl ⟨by omega,by omega,by omega,by omega,by omega,by omega,h7⟩))))))
   refine .inr (.inr (.inr (.inr (.inr (.inr (.inr ⟨by omega,by omega,by omega,by omega,by omega,by omega,by omega, ?_⟩))))))
   unfold jI at hno
   simp at hno
   have:=hno (by omega) (by omega) (by omega) (by omega) (by omega) (by omega) (by omega)
   omega
 have C3:=h! c3
 clear hno hb ad hB
 have ae:=h! hnb
 clear hnb hnp
 have af:Hid ((f.blocks.map gU).sum=kY f):=h! rfl
 generalize f.arrays=ar at *
 generalize f.cells=ce at *
 generalize kY f=sz at *
 rcases aa with h | ⟨h1,h⟩ | ⟨h1,h2,h⟩ | ⟨h1,h2,h3,h⟩ | ⟨h1,h2,h3,h4,h⟩ | ⟨h1,h2,h3,h4,h5,h⟩ | ⟨h1,h2,h3,h4,h5,h6,h⟩ | ⟨h1,h2,h3,h4,h5,h6,h7,h⟩
 all_goals
  go_enter Tryz.func136,Tryz.ntmps136
  go_wp2_with (go_at_call 179;refine (zA C3.out HB.out (by rw [<-ae.out];assumption)).mono ?_;rintro e w1 ⟨rfl,ac⟩;have ag:=h! ac;clear ac;rw [af.out])
  go_ret
  first | exact ⟨rfl,ag.out⟩ | exact ⟨rfl,Below.refl _ _⟩
theorem IMap.alloc {w:World} {b:Nat} {m:List (Int × Value)} (h:IMap w b m) (o:Obj):IMap (w.alloc o) b m:=h.later ((Below.refl _ _).alloc (aC _) o)
theorem Turn.later {bs:List Nat} {a w w' : World} (h:Turn bs a w) (hb:Below w.heap.size w w'):Turn bs a w':=h.trans (Turn.of_below hb bs)
theorem Turn.alloc {bs:List Nat} {a w:World} (h:Turn bs a w) (o:Obj):Turn bs a (w.alloc o):=h.later ((Below.refl _ _).alloc (aC _) o)
theorem xJ {np nb:Nat} {ar ce:Int} {T T1 T2:List (Int × Int)} {x:BlockD} {j:Nat} (h0:¬ (j=0/\0 < x.phis.length)) (h1:x.phis.foldlM (phiM np nb) T=some T1) (h2:x.code.foldlM (jT np ar ce) T1=some T2) :
  jA np nb ar ce T (x,j)=if iR nb x.term then some T2 else none:=by
 unfold jA;rw [if_neg h0,h1,dO,h2];rfl
theorem xK {np nb:Nat} {ar ce:Int} {T:List (Int × Int)} {x:BlockD} {j:Nat} (h0:j=0/\0 < x.phis.length):jA np nb ar ce T (x,j)=none:=by unfold jA;rw [if_pos h0]
theorem xL {np nb:Nat} {ar ce:Int} {T:List (Int × Int)} {x:BlockD} {j:Nat} (h1:x.phis.foldlM (phiM np nb) T=none):jA np nb ar ce T (x,j)=none:=by
 unfold jA;rw [h1];split <;> rfl
theorem xM {np nb:Nat} {ar ce:Int} {T T1:List (Int × Int)} {x:BlockD} {j:Nat} (h1:x.phis.foldlM (phiM np nb) T=some T1) (h2:x.code.foldlM (jT np ar ce) T1=none):jA np nb ar ce T (x,j)=none:=by
 unfold jA;rw [h1,dO,h2];split <;> rfl
theorem qV {α β : Type} (g : β -> α -> Option β) (l:List α) (s t : β) (j:Nat) (x : α) (h:l[j]? = some x) (ht:(l.take j).foldlM g s=some t):(l.take (j+1)).foldlM g s=g t x:=by
 rw [xP g l s j x h,ht];rfl
set_option maxRecDepth 100000 in
theorem xN {w wc : World} {ps : List Int} {ar ce : Int} {bs : List BlockD} {bc bm : Nat} {ap ab : Option Addr} {cp cb np nb : Nat} {r : Option (List (Int × Int))} (hW : Below w.heap.size w wc) (hm0 : w.heap.size ≤ bm) (hne : bc ≠ bm)
    (hb : Box wc bc (chk (.slice ap np cp) (.slice ab nb cb) ar ce bm)) (hm : IMap wc bm []) (hnp : np = ps.length) (hnb : nb = bs.length) (hp : Ints w (.slice ap np cp) ps) (hB : eU gI 6 w (.slice ab nb cb) bs)
    (h1 : np ≤ 16) (h2 : 0 ≤ ar ∧ ar ≤ 8) (h3 : 0 ≤ ce ∧ ce ≤ 64) (h4 : 1 ≤ nb ∧ nb ≤ 512) (h5 : (bs.map gU).sum ≤ 4096)
    (hr : r = if ps.all kK then bs.zipIdx.foldlM (jA np nb ar ce) (parT ps) else none) :
    Calls Tryz.prog 136 #[.pointer (some ⟨bc, 0, none⟩)] wc (iN r bm wc) := by
  have HR := h! hr
  have dm := h! hW
  have ez := h! hm0
  have en := h! hne
  have ek := h! hb
  have HM := h! hm
  have ec := h! hnp
  have dc := h! hnb
  have fc := h! (hB.below gI.lasting hW)
  obtain ⟨a1, c1, pb, po, ds, et, hpm, cz, cL⟩ := hp.parts
  rw [← hnp] at ds et cz cL
  cases ds
  obtain ⟨a2, c2, bb, bo, ed, er, hbm, fb, da, ea⟩ := eW hB
  rw [← hnb] at ed er da
  cases ed
  obtain ⟨rfl, be⟩ := da (by omega)
  have fa := h! cz
  have ev := h! cL
  have ex := h! be
  have eo := h! ea
  have HSZ := h! h5
  have ew := h! h2
  have ej := h! h3
  have dy := h! h4.2
  have d0 := hb.at 0 (v := .slice ap np cp) rfl
  have d1 := hb.at 1 (v := .int .i64 ar) rfl
  have d2 := hb.at 2 (v := .int .i64 ce) rfl
  have d3 := hb.at 3 (v := .slice (some ⟨bb, bo, none⟩) nb cb) rfl
  have D3 := h! d3
  have g1 : decide (16 < (np : Int)) = false := by simp; omega
  have g2 : decide (ar < 0) = false := by simp; omega
  have g3 : decide (8 < ar) = false := by simp; omega
  have g4 : decide (ce < 0) = false := by simp; omega
  have g5 : decide (64 < ce) = false := by simp; omega
  have g6 : decide ((nb : Int) < 1) = false := by simp; omega
  have g7 : decide (512 < (nb : Int)) = false := by simp; omega
  have g8 : decide (4096 < (bs.map gU).sum) = false := by simp; omega
  have HL : Hid (bc < wc.heap.size ∧ bm < wc.heap.size) := h! ⟨hb.lt, hm.lt⟩
  clear hr hW hm0 hne hb hm hnp hnb hB cz cL da ea hp fb be
  have cG : Hid (np ≤ 16) := h! h1
  clear h1 h2 h3 h4 h5
  have ad : Hid (∀ wr, Turn [bm] wc wr → Below w.heap.size w wr ∧ Box wr bc (chk (.slice ap np cp) (.slice (some ⟨bb, bo, none⟩) nb cb) ar ce bm)) := h! (fun wr ht => ⟨dm.out.trans (ht.below dm.out.size (fun x hx => by simp at hx; subst hx; exact ez.out)), ek.out.turn ht (by simpa using en.out)⟩)
  go_enter Tryz.func136, Tryz.ntmps136
  go_upto_region 3 with (go_at_call 179; refine (zA D3.out fc.out (by rw [← dc.out]; exact dy.out)).mono ?_; rintro e w1 ⟨rfl, dh⟩; have dp := h! dh; clear dh)
  clear d0 d1 d2 d3 g1 g2 g3 g4 g5 g6 g7 g8
  have HT := h! (Turn.of_below dp.out [bm])
  have dq := h! (HM.out.later dp.out)
  have e0 := (ad.out w1 HT.out).2.at 0 (v := .slice ap np cp) rfl
  have hnp16 := cG.out
  have hnb16 : nb ≤ 512 := dy.out
  go_wp2_with fail
  go_loopw [79] (fun i wr => ∃ j : Nat, j ≤ np ∧ i = .int .i64 j ∧ (ps.take j).all kK = true ∧ IMap wr bm (encT (parT (ps.take j))) ∧ Turn [bm] wc wr) (fun i _ => np - (intOf i).toNat)
  case atStart => exact ⟨0, aH _, rfl, rfl, dq.out, HT.out⟩
  case round =>
    obtain ⟨j, hj, rfl, dr, hI, hT⟩ := hrel
    have cc := h! dr
    have HI := h! hI
    replace HT := h! hT
    obtain ⟨bw, bp⟩ := ad.out wr hT
    have dk := h! bw
    have ax := h! bp
    clear dr hI hT bw bp e0 dq
    by_cases hlt : j < np
    · have hne : 0 < np := by omega
      obtain ⟨rfl, be⟩ := fa.out hne
      have aw : ps[j]? = some (ps.getD j 0) := by rw [aN, aB (by have := ec.out; omega)]; rfl
      have hx0 := (dk.out.cell be).trans (ev.out j hlt)
      have f4 := ax.out.at 4 (v := .map (some bm)) rfl
      have ey := h! (rX ps j _ aw)
      have cM := h! (aCO ps j)
      have cy := h! (show (ps.take (j + 1)).all kK = ((ps.take j).all kK && kK (ps.getD j 0)) by rw [cW, aw]; simp)
      have df := h! (aG aw)
      clear aw
      generalize ps.getD j 0 = t at *
      cases ht1 : (t != 1) <;> cases cg : (t != 2)
      all_goals
        have dv := h! ht1
        have eb := h! cg
        go_wp2_with (at_mapUpdate; refine fJ (q := .i64) (b := bm) (mm := encT (parT (ps.take j))) (y := j) rfl _ _ _ _ (.inl rfl) Tryz.underlying93 Tryz.underlying3 rfl HI.out rfl ?_; intro w2 dn es cg; have HP := h! dn; have fd := h! cg; clear dn es cg)
        first
          | (go_ret
             refine iN.no ?_ HT.out
             have hno : kK t = false := by unfold kK; have e1 := dv.out; have e2 := eb.out; simp at e1 e2 ⊢; exact ⟨e1, e2⟩
             rw [HR.out, show ps.all kK = false by rw [cE]; exact ⟨t, df.out, by rw [hno]; simp⟩]
             rfl)
          | (go_roundw
             case rel => exact ⟨j + 1, hlt, by go_num, by rw [cy.out, cc.out]; unfold kK; have e1 := dv.out; have e2 := eb.out; simp at e1 e2 ⊢; first | exact .inl e1 | exact .inr e2 | (exact .inl (by omega)), by rw [ey.out, ← mZ cM.out]; exact HP.out, HT.out.trans fd.out⟩
             case measure => simp [intOf]; omega)
    · obtain rfl : j = np := by omega
      rw [aJ (by have := ec.out; omega)] at cc HI
      replace HR : Hid (r = bs.zipIdx.foldlM (jA j nb ar ce) (parT ps)) := h! (by rw [HR.out, cc.out]; rfl)
      have f3 := ax.out.at 3 (v := .slice (some ⟨bb, bo, none⟩) nb cb) rfl
      go_wp2_with fail
      obtain ⟨np, hnp⟩ : ∃ np, np = j := ⟨_, rfl⟩
      obtain rfl := hnp
      go_loopw [103] (fun i wr => ∃ (j : Nat) (T : List (Int × Int)), j ≤ nb ∧ i = .int .i64 j ∧ (bs.zipIdx.take j).foldlM (jA np nb ar ce) (parT ps) = some T ∧ IMap wr bm (encT T) ∧ Turn [bm] wc wr) (fun i _ => nb - (intOf i).toNat)
      case atStart => exact ⟨0, _, aH _, rfl, rfl, HI.out, HT.out⟩
      case round =>
        obtain ⟨j, T, hj, rfl, dl, hI, hT⟩ := hrel
        have cj := h! dl
        replace HI := h! hI
        replace HT := h! hT
        obtain ⟨bw, bp⟩ := ad.out wr hT
        have HW := h! bw
        have BC : Hid (Box wr bc #[.slice ap np cp, .int .i64 ar, .int .i64 ce, .slice (some ⟨bb, bo, none⟩) nb cb, .map (some bm)]) := h! bp
        clear dl hI hT bw bp f3 cc dk ax
        generalize wr = wb at *
        by_cases hltb : j < nb
        · have be := ex.out
          obtain ⟨x, aw⟩ : ∃ x, bs[j]? = some x := ⟨_, aB (by have := dc.out; omega)⟩
          obtain ⟨bf, bi, bd, bg, bh, az, hC⟩ := eo.out j x aw
          have dw := h! (qV (jA np nb ar ce) bs.zipIdx (parT ps) T j (x, j) (by simp [cQ, aw]) cj.out)
          have bz : Hid (jA np nb ar ce T (x, j) = none → r = none) := h! (fun h => by rw [HR.out]; exact nO _ _ _ (j + 1) (by rw [dw.out]; exact h))
          have HC := h! (hC.below HW.out be)
          obtain ⟨k0, k1, k2, k3, k4, k5, q1, q2, q3, q4, q5, q6⟩ := HC.out
          have ei := (⟨hC.phis, hC.code, hC.to⟩ : eU PhiR 4 w _ x.phis ∧ eU gZ 4 w _ x.code ∧ Ints w _ x.term.to)
          have ep : bm < wb.heap.size := HI.out.lt
          clear q1 q2 q3 q4 q5 q6 hC aw
          obtain ⟨ah, aj, ai⟩ := BC.out
          go_upto_region 13 with (fail)
          have bk : wb.heap.size ≠ bc := fun e => by have := ah; omega
          have nBCB6 : bc ≠ wb.heap.size := fun e => bk e.symm
          clear ah aj ai
          have ag := (Below.refl wb.heap.size wb).alloc (aC _) (.cells #[.slice bf x.phis.length bg, .slice bi x.code.length bh, .int .i64 x.term.op, .int .i64 x.term.val, .slice bd x.term.to.length az, .int .i64 x.term.n] 63)
          replace BC := h! (BC.out.later ag)
          replace HI := h! (HI.out.later ag)
          replace HT := h! (HT.out.later ag)
          replace HW := h! (HW.out.trans (ag.mono HW.out.size))
          clear ag
          have B6 := h! (Box.new wb #[.slice bf x.phis.length bg, .slice bi x.code.length bh, .int .i64 x.term.op, .int .i64 x.term.val, .slice bd x.term.to.length az, .int .i64 x.term.n] 63)
          generalize wb.alloc (.cells #[.slice bf x.phis.length bg, .slice bi x.code.length bh, .int .i64 x.term.op, .int .i64 x.term.val, .slice bd x.term.to.length az, .int .i64 x.term.n] 63) = w6 at *
          obtain ⟨ah, aj, ai⟩ := BC.out
          obtain ⟨ak, am, an⟩ := B6.out
          have ay : Hid (wb.heap.size ≠ bm) := h! (fun e => by have h1 := ep; rw [e] at h1; omega)
          have eh := h! (HC.out.phis)
          have em := h! (HC.out.code)
          have cw : Hid (eU PhiR 4 w (.slice bf x.phis.length bg) x.phis ∧ eU gZ 4 w (.slice bi x.code.length bh) x.code ∧ Ints w (.slice bd x.term.to.length az) x.term.to) := h! ei
          clear HC eh em k0 k1 k2 k3 k4 k5
          by_cases hz : j = 0 ∧ 0 < x.phis.length
          · obtain ⟨rfl, hz⟩ := hz
            have HZ := h! hz
            go_wp2
            go_ret
            exact iN.no (bz.out (xK ⟨rfl, HZ.out⟩)) HT.out
          · have HZ := h! hz
            have eg : Hid (∀ T1 T2, x.phis.foldlM (phiM np nb) T = some T1 → x.code.foldlM (jT np ar ce) T1 = some T2 → jA np nb ar ce T (x, j) = if iR nb x.term then some T2 else none) := h! (fun _ _ h1 h2 => xJ hz h1 h2)
            obtain ⟨pl, cq⟩ : ∃ pl, pl = x.phis.length := ⟨_, rfl⟩
            obtain ⟨cl, ck⟩ : ∃ cl, cl = x.code.length := ⟨_, rfl⟩
            obtain ⟨ac, capc, bcd, ocd, bv, ef, hcm, bq, dg, dj⟩ := fS cw.out.2.1
            obtain ⟨apx, capp, bph, oph, bj, de, hppm, bx, ba, bn⟩ := fH cw.out.1
            rw [← cq] at bj de bx ba B6
            rw [← ck] at bv ef bq dg B6
            cases bj
            cases bv
            have dt := h! cq
            have ee := h! ck
            have cm := h! ba
            have cx := h! bn
            have co := h! dg
            have cr := h! dj
            have HJ : Hid (((j : Int) == 0) = false ∨ (j = 0 ∧ pl ≤ 0)) := h! (by
              by_cases h : j = 0
              · exact .inr ⟨h, by omega⟩
              · exact .inl (by simp; omega))
            clear cq ck ba bn dg dj hz
            obtain ⟨b6, cd⟩ : ∃ b6, b6 = wb.heap.size := ⟨_, rfl⟩
            rw [← cd] at B6 ay
            have HB6 := h! cd
            clear ah aj ai ak am an
            obtain ⟨ah, aj, ai⟩ := BC.out
            obtain ⟨ak, am, an⟩ := B6.out
            simp only [← cd]
            clear cd
            have fe : Hid (j = 0 → pl = 0) := h! (fun h => by rcases HJ.out with h1 | ⟨_, h1⟩; (subst h; simp at h1); omega)
            rcases HJ.out with di | ⟨rfl, di⟩
            all_goals
              go_wp2_with fail
              clear di
              go_loopw [119] (fun i wr => ∃ (k : Nat) (T1 : List (Int × Int)), k ≤ pl ∧ i = .int .i64 k ∧ (x.phis.take k).foldlM (phiM np nb) T = some T1 ∧ IMap wr bm (encT T1) ∧ Turn [bm] wc wr ∧ Box wr b6 #[.slice bf pl bg, .slice bi cl bh, .int .i64 x.term.op, .int .i64 x.term.val, .slice bd x.term.to.length az, .int .i64 x.term.n]) (fun i _ => pl - (intOf i).toNat)
              case atStart => exact ⟨0, T, aH _, rfl, rfl, HI.out, HT.out, B6.out⟩
              case round =>
                obtain ⟨k, T1, hk, rfl, dx, hI, hT, bl⟩ := hrel
                clear ah aj ai ak am an
                have bO := h! dx
                replace HI := h! hI
                replace HT := h! hT
                replace B6 := h! bl
                replace HW := h! (ad.out _ hT).1
                replace BC : Hid (Box wr bc #[.slice ap np cp, .int .i64 ar, .int .i64 ce, .slice (some ⟨bb, bo, none⟩) nb cb, .map (some bm)]) := h! (ad.out _ hT).2
                clear dx hI hT bl
                generalize wr = w7 at *
                obtain ⟨ah, aj, ai⟩ := BC.out
                obtain ⟨ak, am, an⟩ := B6.out
                by_cases hlt : k < pl
                · first
                    | (exfalso; have h1 := fe.out (by first | rfl | trivial); omega)
                    | (have hne : 0 < pl := by omega
                       obtain ⟨rfl, ci⟩ := cm.out hne
                       obtain ⟨p, cB⟩ : ∃ p, x.phis[k]? = some p := ⟨_, aB (by have := dt.out; omega)⟩
                       obtain ⟨af, av, cf, cv, hP⟩ := cx.out k p cB
                       have ae := h! (qV (phiM np nb) x.phis T T1 k p cB bO.out)
                       obtain ⟨m0, m1, m2, m3, q1, q2, q3, q4⟩ := hP.below HW.out ci
                       have cn := h! hP.src
                       clear q1 q2 q3 q4 hP cB
                       go_upto_region 18 with (fail)
                       have aq : w7.heap.size ≠ bc := fun e => by have := ah; omega
                       have bt : bc ≠ w7.heap.size := fun e => aq e.symm
                       have ao : w7.heap.size ≠ b6 := fun e => by have := ak; omega
                       have br : b6 ≠ w7.heap.size := fun e => ao e.symm
                       clear ah aj ai ak am an
                       have ag := (Below.refl w7.heap.size w7).alloc (aC _) (.cells #[.int .i64 p.id, .int .i64 p.typ, .slice af p.src.length cf, .slice av p.vals.length cv] 78)
                       replace BC := h! (BC.out.later ag)
                       replace B6 := h! (B6.out.later ag)
                       replace HI := h! (HI.out.later ag)
                       replace HT := h! (HT.out.later ag)
                       replace HW := h! (HW.out.trans (ag.mono HW.out.size))
                       clear ag
                       have B8 := h! (Box.new w7 #[.int .i64 p.id, .int .i64 p.typ, .slice af p.src.length cf, .slice av p.vals.length cv] 78)
                       generalize w7.alloc (.cells #[.int .i64 p.id, .int .i64 p.typ, .slice af p.src.length cf, .slice av p.vals.length cv] 78) = w8 at *
                       obtain ⟨ah, aj, ai⟩ := BC.out
                       obtain ⟨ak, am, an⟩ := B6.out
                       obtain ⟨cs, dd, cF⟩ := B8.out
                       clear m0 m1 m2 m3
                       have al := h! (aF8 (x := p) (af := af) (av := av) (cf := cf) (cv := cv) (ap := ap) (np := np) (cp := cp) (ab := some ⟨bb, bo, none⟩) (nb := nb) (cb := cb) (ar := ar) (ce := ce) BC.out HI.out (cn.out.below HW.out))
                       cases hph : phiM np nb T1 p with
                       | none =>
                         rw [hph] at al ae
                         clear hph
                         go_wp2_with fail
                         refine al.out.mono ?_
                         rintro e w3 ⟨rfl, h3, t3⟩
                         have T3 := h! t3
                         clear h3 t3
                         go_wp2
                         go_ret
                         exact iN.no (bz.out (xL (nO _ _ _ (k + 1) ae.out))) (HT.out.trans T3.out)
                       | some T2 =>
                         rw [hph] at al ae
                         clear hph
                         go_wp2_with fail
                         refine al.out.mono ?_
                         rintro e w3 ⟨rfl, h3, t3⟩
                         have T3 := h! t3
                         replace HI := h! (h3 T2 rfl)
                         clear h3 t3
                         clear ah aj ai ak am an cs dd cF
                         replace HT := h! (HT.out.trans T3.out)
                         replace HW := h! (ad.out _ HT.out).1
                         replace BC : Hid (Box w3 bc #[.slice ap np cp, .int .i64 ar, .int .i64 ce, .slice (some ⟨bb, bo, none⟩) nb cb, .map (some bm)]) := h! (ad.out _ HT.out).2
                         replace B6 := h! (B6.out.turn T3.out (by simpa using ay.out))
                         go_wp2
                         go_roundw
                         case rel => exact ⟨k + 1, T2, hlt, by go_num, ae.out, HI.out, HT.out, B6.out⟩
                         case measure => simp [intOf]; omega)
                · obtain rfl : k = pl := by omega
                  rw [aJ (by have := dt.out; omega)] at bO
                  go_wp2_with fail
                  go_loopw [131] (fun i wr => ∃ (q : Nat) (T2 : List (Int × Int)), q ≤ cl ∧ i = .int .i64 q ∧ (x.code.take q).foldlM (jT np ar ce) T1 = some T2 ∧ IMap wr bm (encT T2) ∧ Turn [bm] wc wr ∧ Box wr b6 #[.slice bf k bg, .slice bi cl bh, .int .i64 x.term.op, .int .i64 x.term.val, .slice bd x.term.to.length az, .int .i64 x.term.n]) (fun i _ => cl - (intOf i).toNat)
                  case atStart => exact ⟨0, T1, aH _, rfl, rfl, HI.out, HT.out, B6.out⟩
                  case round =>
                    obtain ⟨q, T2, hq, rfl, dz, hI, hT, bl⟩ := hrel
                    clear ah aj ai ak am an
                    have db := h! dz
                    replace HI := h! hI
                    replace HT := h! hT
                    replace B6 := h! bl
                    replace HW := h! (ad.out _ hT).1
                    replace BC : Hid (Box wr bc #[.slice ap np cp, .int .i64 ar, .int .i64 ce, .slice (some ⟨bb, bo, none⟩) nb cb, .map (some bm)]) := h! (ad.out _ hT).2
                    clear dz hI hT bl
                    generalize wr = w9 at *
                    obtain ⟨ah, aj, ai⟩ := BC.out
                    obtain ⟨ak, am, an⟩ := B6.out
                    by_cases hltq : q < cl
                    · have hne : 0 < cl := by omega
                      obtain ⟨rfl, ci⟩ := co.out hne
                      obtain ⟨y, ch⟩ : ∃ y, x.code[q]? = some y := ⟨_, aB (by have := ee.out; omega)⟩
                      obtain ⟨aa, ca, hP⟩ := cr.out q y ch
                      have ae := h! (qV (jT np ar ce) x.code T1 T2 q y ch db.out)
                      obtain ⟨m0, m1, m2, m3, r1, r2, r3, r4⟩ := hP.below HW.out ci
                      clear r1 r2 r3 r4 hP ch
                      go_upto_region 24 with (fail)
                      have aq : w9.heap.size ≠ bc := fun e => by have := ah; omega
                      have bt : bc ≠ w9.heap.size := fun e => aq e.symm
                      have ao : w9.heap.size ≠ b6 := fun e => by have := ak; omega
                      have br : b6 ≠ w9.heap.size := fun e => ao e.symm
                      clear ah aj ai ak am an
                      have ag := (Below.refl w9.heap.size w9).alloc (aC _) (.cells #[.int .i64 y.op, .int .i64 y.id, .slice aa y.args.length ca, .int .i64 y.n] 82)
                      replace BC := h! (BC.out.later ag)
                      replace B6 := h! (B6.out.later ag)
                      replace HI := h! (HI.out.later ag)
                      replace HT := h! (HT.out.later ag)
                      replace HW := h! (HW.out.trans (ag.mono HW.out.size))
                      clear ag
                      have B8 := h! (Box.new w9 #[.int .i64 y.op, .int .i64 y.id, .slice aa y.args.length ca, .int .i64 y.n] 82)
                      generalize w9.alloc (.cells #[.int .i64 y.op, .int .i64 y.id, .slice aa y.args.length ca, .int .i64 y.n] 82) = w8 at *
                      obtain ⟨ah, aj, ai⟩ := BC.out
                      obtain ⟨ak, am, an⟩ := B6.out
                      obtain ⟨cs, dd, cF⟩ := B8.out
                      clear m0 m1 m2 m3
                      have al := h! (aCI (x := y) (aa := aa) (ca := ca) (ap := ap) (np := np) (cp := cp) ew.out ej.out BC.out HI.out)
                      cases hph : jT np ar ce T2 y with
                      | none =>
                        rw [hph] at al ae
                        clear hph
                        go_wp2_with fail
                        refine al.out.mono ?_
                        rintro e w3 ⟨rfl, h3, t3⟩
                        have T3 := h! t3
                        clear h3 t3
                        go_wp2
                        go_ret
                        exact iN.no (bz.out (xM bO.out (nO _ _ _ (q + 1) ae.out))) (HT.out.trans T3.out)
                      | some T4 =>
                        rw [hph] at al ae
                        clear hph
                        go_wp2_with fail
                        refine al.out.mono ?_
                        rintro e w3 ⟨rfl, h3, t3⟩
                        have T3 := h! t3
                        replace HI := h! (h3 T4 rfl)
                        clear h3 t3
                        clear ah aj ai ak am an cs dd cF
                        replace HT := h! (HT.out.trans T3.out)
                        replace HW := h! (ad.out _ HT.out).1
                        replace BC : Hid (Box w3 bc #[.slice ap np cp, .int .i64 ar, .int .i64 ce, .slice (some ⟨bb, bo, none⟩) nb cb, .map (some bm)]) := h! (ad.out _ HT.out).2
                        replace B6 := h! (B6.out.turn T3.out (by simpa using ay.out))
                        go_wp2
                        go_roundw
                        case rel => exact ⟨q + 1, T4, hltq, by go_num, ae.out, HI.out, HT.out, B6.out⟩
                        case measure => simp [intOf]; omega
                    · obtain rfl : q = cl := by omega
                      rw [aJ (by have := ee.out; omega)] at db
                      have ax := h! (eg.out _ _ bO.out db.out)
                      have al := h! (aFC (t := x.term) (at_ := bd) (ct := az) (vp := .slice ap np cp) (ab := some ⟨bb, bo, none⟩) (nb := nb) (cb := cb) (ar := ar) (ce := ce) (bm := bm) BC.out (cw.out.2.2.below HW.out))
                      cases hen : iR nb x.term
                      · rw [hen] at al ax
                        clear hen
                        go_wp2_with fail
                        refine al.out.mono ?_
                        rintro e w3 ⟨rfl, h3⟩
                        have T3 := h! (HT.out.later h3)
                        clear h3
                        go_wp2
                        go_ret
                        exact iN.no (bz.out (by rw [ax.out]; rfl)) T3.out
                      · rw [hen] at al ax
                        clear hen
                        go_wp2_with fail
                        refine al.out.mono ?_
                        rintro e w3 ⟨rfl, h3⟩
                        have T3 := h! (HT.out.later h3)
                        replace HI := h! (HI.out.later h3)
                        clear ah aj ai ak am an
                        clear h3
                        go_wp2
                        go_roundw
                        case rel => exact ⟨_, T2, hltb, by first | go_num | rfl, by rw [dw.out, ax.out]; rfl, HI.out, T3.out⟩
                        case measure => simp [intOf]; omega
        · obtain rfl : j = nb := by omega
          rw [aJ (by rw [dY]; have := dc.out; omega)] at cj
          go_wp2
          go_ret
          exact iN.yes (by rw [HR.out, cj.out]) HI.out HT.out
end Go.Proofs.YtagabiidbbhhmaaGreat
