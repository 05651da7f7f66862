/- Part 10. -/
import Derived.Test.YtagabiidbbhhmaaGreatER9
namespace Go.Proofs.YtagabiidbbhhmaaGreat
set_option maxHeartbeats 12800000
set_option linter.all false
open Go.RowKit
theorem rS (ps:List Int) (j:Nat) (t:Int) (h:ps[j]? = some t):parT (ps.take (j+1))=parT (ps.take j) ++ [((j:Int),t)]:=by
 have hj:=(aF.1 h).1
 unfold parT
 rw [cZ,h,Option.toList_some,List.zipIdx_append,aZ]
 simp [aV,dW (cH hj)]
theorem aCC (ps:List Int) (j:Nat):tyOf (parT (ps.take j)) j=none:=by
 rw [gK,nN]
 simp only [aX,cS,not_exists,not_and,aV]
 intro i hi e;omega
theorem wG {f:FuncD} (h:jG f=true):tB f=if f.params.all kH then f.blocks.zipIdx.foldlM (jF f.params.length f.blocks.length f.arrays f.cells) (parT f.params) else none:=by
 unfold tB;rw [h,bN]
theorem rT {f:FuncD} (h:jG f=false):tB f=none:=by
 unfold tB;rw [h];rfl
set_option maxRecDepth 100000 in
theorem aCD {w:World} {f:FuncD} {bc bm:Nat} {ap ab:Option Addr} {cp cb np nb:Nat} (hb:Box w bc (chk (.slice ap np cp) (.slice ab nb cb) f.arrays f.cells bm)) (hnp:np=f.params.length) (hnb:nb=f.blocks.length)
  (hB:eX gR 6 w (.slice ab nb cb) f.blocks) (hno:jG f=false) :
  Calls Tryz.prog 136 #[.pointer (some ⟨bc,0,none⟩)] w fun e w'=>e = .returned (.bool false)/\Below w.heap.size w w':=by
 have c0:=hb.at 0 (v:=.slice ap np cp) rfl
 have c1:=hb.at 1 (v:=.int .i64 f.arrays) rfl
 have c2:=hb.at 2 (v:=.int .i64 f.cells) rfl
 have c3:=hb.at 3 (v:=.slice ab nb cb) rfl
 have HB:=h! hB
 have ag:=vR hB
 have aa:16 < np \/ (np <= 16/\f.arrays < 0) \/ (np <= 16/\0 <= f.arrays/\8 < f.arrays) \/ (np <= 16/\0 <= f.arrays/\f.arrays <= 8/\f.cells < 0) \/ (np <= 16/\0 <= f.arrays/\f.arrays <= 8/\0 <= f.cells/\64 < f.cells) \/
   (np <= 16/\0 <= f.arrays/\f.arrays <= 8/\0 <= f.cells/\f.cells <= 64/\nb < 1) \/ (np <= 16/\0 <= f.arrays/\f.arrays <= 8/\0 <= f.cells/\f.cells <= 64/\1 <= nb/\512 < nb) \/
   (np <= 16/\0 <= f.arrays/\f.arrays <= 8/\0 <= f.cells/\f.cells <= 64/\1 <= nb/\nb <= 512/\4096 < lJ f):=by
  rw [hnp,hnb]
  by_cases h1:16 < f.params.length
  ·exact .inl h1
  ·by_cases h2:f.arrays < 0
   ·exact .inr (.inl ⟨by omega,h2⟩)
   by_cases h3:8 < f.arrays
   ·exact .inr (.inr (.inl ⟨by omega,by omega,h3⟩))
   by_cases h4:f.cells < 0
   ·exact .inr (.inr (.inr (.inl ⟨by omega,by omega,by omega,h4⟩)))
   by_cases h5:64 < f.cells
   ·exact .inr (.inr (.inr (.inr (.inl ⟨by omega,by omega,by omega,by omega,h5⟩))))
   by_cases h6:f.blocks.length < 1
   ·exact .inr (.inr (.inr (.inr (.inr (.inl ⟨by omega,by omega,by omega,by omega,by omega,h6⟩)))))
   by_cases h7:512 < f.blocks.length
   ·exact .inr (.inr (.inr (.inr (.inr (.inr (.inl ⟨by omega,by omega,by omega,by omega,by omega,by omega,h7⟩))))))
   refine .inr (.inr (.inr (.inr (.inr (.inr (.inr ⟨by omega,by omega,by omega,by omega,by omega,by omega,by omega, ?_⟩))))))
   unfold jG at hno
   simp at hno
   have:=hno (by omega) (by omega) (by omega) (by omega) (by omega) (by omega) (by omega)
   omega
 have C3:=h! c3
 clear hno hb ag hB
 have af:=h! hnb
 clear hnb hnp
 have ae:Hid ((f.blocks.map hJ).sum=lJ f):=h! rfl
 generalize f.arrays=ar at *
 generalize f.cells=ce at *
 generalize lJ f=sz at *
 rcases aa with h | ⟨h1,h⟩ | ⟨h1,h2,h⟩ | ⟨h1,h2,h3,h⟩ | ⟨h1,h2,h3,h4,h⟩ | ⟨h1,h2,h3,h4,h5,h⟩ | ⟨h1,h2,h3,h4,h5,h6,h⟩ | ⟨h1,h2,h3,h4,h5,h6,h7,h⟩
 all_goals
  go_enter Tryz.func136,Tryz.ntmps136
  go_wp2_with (go_at_call 179;refine (aBA C3.out HB.out (by rw [<-af.out];assumption)).mono ?_;rintro e w1 ⟨rfl,ac⟩;have ad:=h! ac;clear ac;rw [ae.out])
  go_ret
  first | exact ⟨rfl,ad.out⟩ | exact ⟨rfl,Below.refl _ _⟩
theorem IMap.alloc {w:World} {b:Nat} {m:List (Int × Value)} (h:IMap w b m) (o:Obj):IMap (w.alloc o) b m:=h.later ((Below.refl _ _).alloc (aB _) o)
theorem Turn.later {bs:List Nat} {a w w' : World} (h:Turn bs a w) (hb:Below w.heap.size w w'):Turn bs a w':=h.trans (Turn.of_below hb bs)
theorem Turn.alloc {bs:List Nat} {a w:World} (h:Turn bs a w) (o:Obj):Turn bs a (w.alloc o):=h.later ((Below.refl _ _).alloc (aB _) o)
theorem wH {np nb:Nat} {ar ce:Int} {T T1 T2:List (Int × Int)} {x:BlockD} {j:Nat} (h0:¬ (j=0/\0 < x.phis.length)) (h1:x.phis.foldlM (phiM np nb) T=some T1) (h2:x.code.foldlM (jX np ar ce) T1=some T2) :
  jF np nb ar ce T (x,j)=if iT nb x.term then some T2 else none:=by
 unfold jF;rw [if_neg h0,h1,dR,h2];rfl
theorem wI {np nb:Nat} {ar ce:Int} {T:List (Int × Int)} {x:BlockD} {j:Nat} (h0:j=0/\0 < x.phis.length):jF np nb ar ce T (x,j)=none:=by unfold jF;rw [if_pos h0]
theorem wJ {np nb:Nat} {ar ce:Int} {T:List (Int × Int)} {x:BlockD} {j:Nat} (h1:x.phis.foldlM (phiM np nb) T=none):jF np nb ar ce T (x,j)=none:=by
 unfold jF;rw [h1];split <;> rfl
theorem wK {np nb:Nat} {ar ce:Int} {T T1:List (Int × Int)} {x:BlockD} {j:Nat} (h1:x.phis.foldlM (phiM np nb) T=some T1) (h2:x.code.foldlM (jX np ar ce) T1=none):jF np nb ar ce T (x,j)=none:=by
 unfold jF;rw [h1,dR,h2];split <;> rfl
theorem qM {α β : Type} (g : β -> α -> Option β) (l:List α) (s t : β) (j:Nat) (x : α) (h:l[j]? = some x) (ht:(l.take j).foldlM g s=some t):(l.take (j+1)).foldlM g s=g t x:=by
 rw [yC g l s j x h,ht];rfl
set_option maxRecDepth 100000 in
theorem wL {w wc : World} {ps : List Int} {ar ce : Int} {bs : List BlockD} {bc bm : Nat} {ap ab : Option Addr} {cp cb np nb : Nat} {r : Option (List (Int × Int))} (hW : Below w.heap.size w wc) (hm0 : w.heap.size ≤ bm) (hne : bc ≠ bm)
    (hb : Box wc bc (chk (.slice ap np cp) (.slice ab nb cb) ar ce bm)) (hm : IMap wc bm []) (hnp : np = ps.length) (hnb : nb = bs.length) (hp : Ints w (.slice ap np cp) ps) (hB : eX gR 6 w (.slice ab nb cb) bs)
    (h1 : np ≤ 16) (h2 : 0 ≤ ar ∧ ar ≤ 8) (h3 : 0 ≤ ce ∧ ce ≤ 64) (h4 : 1 ≤ nb ∧ nb ≤ 512) (h5 : (bs.map hJ).sum ≤ 4096)
    (hr : r = if ps.all kH then bs.zipIdx.foldlM (jF np nb ar ce) (parT ps) else none) :
    Calls Tryz.prog 136 #[.pointer (some ⟨bc, 0, none⟩)] wc (iP r bm wc) := by
  have HR := h! hr
  have dz := h! hW
  have ev := h! hm0
  have fc := h! hne
  have ek := h! hb
  have HM := h! hm
  have dl := h! hnp
  have cw := h! hnb
  have ey := h! (hB.below gR.lasting hW)
  obtain ⟨a1, c1, pb, po, dt, ew, hpm, cz, ck⟩ := hp.parts
  rw [← hnp] at dt ew cz ck
  cases dt
  obtain ⟨a2, c2, bb, bo, ds, em, hbm, er, cq, dk⟩ := eY hB
  rw [← hnb] at ds em cq
  cases ds
  obtain ⟨rfl, bh⟩ := cq (by omega)
  have fa := h! cz
  have eh := h! ck
  have ez := h! bh
  have fe := h! dk
  have HSZ := h! h5
  have es := h! h2
  have ef := h! h3
  have ed := h! h4.2
  have d0 := hb.at 0 (v := .slice ap np cp) rfl
  have d1 := hb.at 1 (v := .int .i64 ar) rfl
  have d2 := hb.at 2 (v := .int .i64 ce) rfl
  have d3 := hb.at 3 (v := .slice (some ⟨bb, bo, none⟩) nb cb) rfl
  have D3 := h! d3
  have g1 : decide (16 < (np : Int)) = false := by simp; omega
  have g2 : decide (ar < 0) = false := by simp; omega
  have g3 : decide (8 < ar) = false := by simp; omega
  have g4 : decide (ce < 0) = false := by simp; omega
  have g5 : decide (64 < ce) = false := by simp; omega
  have g6 : decide ((nb : Int) < 1) = false := by simp; omega
  have g7 : decide (512 < (nb : Int)) = false := by simp; omega
  have g8 : decide (4096 < (bs.map hJ).sum) = false := by simp; omega
  have HL : Hid (bc < wc.heap.size ∧ bm < wc.heap.size) := h! ⟨hb.lt, hm.lt⟩
  clear hr hW hm0 hne hb hm hnp hnb hB cz ck cq dk hp er bh
  have cM : Hid (np ≤ 16) := h! h1
  clear h1 h2 h3 h4 h5
  have ad : Hid (∀ wr, Turn [bm] wc wr → Below w.heap.size w wr ∧ Box wr bc (chk (.slice ap np cp) (.slice (some ⟨bb, bo, none⟩) nb cb) ar ce bm)) := h! (fun wr ht => ⟨dz.out.trans (ht.below dz.out.size (fun x hx => by simp at hx; subst hx; exact ev.out)), ek.out.turn ht (by simpa using fc.out)⟩)
  go_enter Tryz.func136, Tryz.ntmps136
  go_upto_region 3 with (go_at_call 179; refine (aBA D3.out ey.out (by rw [← cw.out]; exact ed.out)).mono ?_; rintro e w1 ⟨rfl, ea⟩; have ec := h! ea; clear ea)
  clear d0 d1 d2 d3 g1 g2 g3 g4 g5 g6 g7 g8
  have HT := h! (Turn.of_below ec.out [bm])
  have dp := h! (HM.out.later ec.out)
  have e0 := (ad.out w1 HT.out).2.at 0 (v := .slice ap np cp) rfl
  have hnp16 := cM.out
  have hnb16 : nb ≤ 512 := ed.out
  go_wp2_with fail
  go_loopw [79] (fun i wr => ∃ j : Nat, j ≤ np ∧ i = .int .i64 j ∧ (ps.take j).all kH = true ∧ IMap wr bm (encT (parT (ps.take j))) ∧ Turn [bm] wc wr) (fun i _ => np - (intOf i).toNat)
  case atStart => exact ⟨0, aJ _, rfl, rfl, dp.out, HT.out⟩
  case round =>
    obtain ⟨j, hj, rfl, dn, hI, hT⟩ := hrel
    have cc := h! dn
    have HI := h! hI
    replace HT := h! hT
    obtain ⟨bt, bp⟩ := ad.out wr hT
    have eb := h! bt
    have ax := h! bp
    clear dn hI hT bt bp e0 dp
    by_cases hlt : j < np
    · have hne : 0 < np := by omega
      obtain ⟨rfl, bh⟩ := fa.out hne
      have aw : ps[j]? = some (ps.getD j 0) := by rw [aK, aC (by have := dl.out; omega)]; rfl
      have hx0 := (eb.out.cell bh).trans (eh.out j hlt)
      have f4 := ax.out.at 4 (v := .map (some bm)) rfl
      have ej := h! (rS ps j _ aw)
      have cs := h! (aCC ps j)
      have ch := h! (show (ps.take (j + 1)).all kH = ((ps.take j).all kH && kH (ps.getD j 0)) by rw [cZ, aw]; simp)
      have cm := h! (aG aw)
      clear aw
      generalize ps.getD j 0 = t at *
      cases ht1 : (t != 1) <;> cases bz : (t != 2)
      all_goals
        have dq := h! ht1
        have dh := h! bz
        go_wp2_with (at_mapUpdate; refine gE (q := .i64) (b := bm) (mm := encT (parT (ps.take j))) (y := j) rfl _ _ _ _ (.inl rfl) Tryz.underlying93 Tryz.underlying3 rfl HI.out rfl ?_; intro w2 dw ep bz; have HP := h! dw; have eg := h! bz; clear dw ep bz)
        first
          | (go_ret
             refine iP.no ?_ HT.out
             have hno : kH t = false := by unfold kH; have e1 := dq.out; have e2 := dh.out; simp at e1 e2 ⊢; exact ⟨e1, e2⟩
             rw [HR.out, show ps.all kH = false by rw [cI]; exact ⟨t, cm.out, by rw [hno]; simp⟩]
             rfl)
          | (go_roundw
             case rel => exact ⟨j + 1, hlt, by go_num, by rw [ch.out, cc.out]; unfold kH; have e1 := dq.out; have e2 := dh.out; simp at e1 e2 ⊢; first | exact .inl e1 | exact .inr e2 | (exact .inl (by omega)), by rw [ej.out, ← nK cs.out]; exact HP.out, HT.out.trans eg.out⟩
             case measure => simp [intOf]; omega)
    · obtain rfl : j = np := by omega
      rw [aH (by have := dl.out; omega)] at cc HI
      replace HR : Hid (r = bs.zipIdx.foldlM (jF j nb ar ce) (parT ps)) := h! (by rw [HR.out, cc.out]; rfl)
      have f3 := ax.out.at 3 (v := .slice (some ⟨bb, bo, none⟩) nb cb) rfl
      go_wp2_with fail
      obtain ⟨np, hnp⟩ : ∃ np, np = j := ⟨_, rfl⟩
      obtain rfl := hnp
      go_loopw [103] (fun i wr => ∃ (j : Nat) (T : List (Int × Int)), j ≤ nb ∧ i = .int .i64 j ∧ (bs.zipIdx.take j).foldlM (jF np nb ar ce) (parT ps) = some T ∧ IMap wr bm (encT T) ∧ Turn [bm] wc wr) (fun i _ => nb - (intOf i).toNat)
      case atStart => exact ⟨0, _, aJ _, rfl, rfl, HI.out, HT.out⟩
      case round =>
        obtain ⟨j, T, hj, rfl, ee, hI, hT⟩ := hrel
        have cy := h! ee
        replace HI := h! hI
        replace HT := h! hT
        obtain ⟨bt, bp⟩ := ad.out wr hT
        have HW := h! bt
        have BC : Hid (Box wr bc #[.slice ap np cp, .int .i64 ar, .int .i64 ce, .slice (some ⟨bb, bo, none⟩) nb cb, .map (some bm)]) := h! bp
        clear ee hI hT bt bp f3 cc eb ax
        generalize wr = wb at *
        by_cases hltb : j < nb
        · have bh := ez.out
          obtain ⟨x, aw⟩ : ∃ x, bs[j]? = some x := ⟨_, aC (by have := cw.out; omega)⟩
          obtain ⟨bf, be, ba, bi, bg, bd, hC⟩ := fe.out j x aw
          have dr := h! (qM (jF np nb ar ce) bs.zipIdx (parT ps) T j (x, j) (by simp [cT, aw]) cy.out)
          have bO : Hid (jF np nb ar ce T (x, j) = none → r = none) := h! (fun h => by rw [HR.out]; exact nS _ _ _ (j + 1) (by rw [dr.out]; exact h))
          have HC := h! (hC.below HW.out bh)
          obtain ⟨k0, k1, k2, k3, k4, k5, q1, q2, q3, q4, q5, q6⟩ := HC.out
          have fd := (⟨hC.phis, hC.code, hC.to⟩ : eX PhiR 4 w _ x.phis ∧ eX iB 4 w _ x.code ∧ Ints w _ x.term.to)
          have eo : bm < wb.heap.size := HI.out.lt
          clear q1 q2 q3 q4 q5 q6 hC aw
          obtain ⟨ah, ai, ak⟩ := BC.out
          go_upto_region 13 with (fail)
          have br : wb.heap.size ≠ bc := fun e => by have := ah; omega
          have nBCB6 : bc ≠ wb.heap.size := fun e => br e.symm
          clear ah ai ak
          have ae := (Below.refl wb.heap.size wb).alloc (aB _) (.cells #[.slice bf x.phis.length bi, .slice be x.code.length bg, .int .i64 x.term.op, .int .i64 x.term.val, .slice ba x.term.to.length bd, .int .i64 x.term.n] 63)
          replace BC := h! (BC.out.later ae)
          replace HI := h! (HI.out.later ae)
          replace HT := h! (HT.out.later ae)
          replace HW := h! (HW.out.trans (ae.mono HW.out.size))
          clear ae
          have B6 := h! (Box.new wb #[.slice bf x.phis.length bi, .slice be x.code.length bg, .int .i64 x.term.op, .int .i64 x.term.val, .slice ba x.term.to.length bd, .int .i64 x.term.n] 63)
          generalize wb.alloc (.cells #[.slice bf x.phis.length bi, .slice be x.code.length bg, .int .i64 x.term.op, .int .i64 x.term.val, .slice ba x.term.to.length bd, .int .i64 x.term.n] 63) = w6 at *
          obtain ⟨ah, ai, ak⟩ := BC.out
          obtain ⟨aj, an, am⟩ := B6.out
          have az : Hid (wb.heap.size ≠ bm) := h! (fun e => by have h1 := eo; rw [e] at h1; omega)
          have et := h! (HC.out.phis)
          have ex := h! (HC.out.code)
          have da : Hid (eX PhiR 4 w (.slice bf x.phis.length bi) x.phis ∧ eX iB 4 w (.slice be x.code.length bg) x.code ∧ Ints w (.slice ba x.term.to.length bd) x.term.to) := h! fd
          clear HC et ex k0 k1 k2 k3 k4 k5
          by_cases hz : j = 0 ∧ 0 < x.phis.length
          · obtain ⟨rfl, hz⟩ := hz
            have HZ := h! hz
            go_wp2
            go_ret
            exact iP.no (bO.out (wI ⟨rfl, HZ.out⟩)) HT.out
          · have HZ := h! hz
            have ei : Hid (∀ T1 T2, x.phis.foldlM (phiM np nb) T = some T1 → x.code.foldlM (jX np ar ce) T1 = some T2 → jF np nb ar ce T (x, j) = if iT nb x.term then some T2 else none) := h! (fun _ _ h1 h2 => wH hz h1 h2)
            obtain ⟨pl, de⟩ : ∃ pl, pl = x.phis.length := ⟨_, rfl⟩
            obtain ⟨cl, cj⟩ : ∃ cl, cl = x.code.length := ⟨_, rfl⟩
            obtain ⟨ac, capc, bcd, ocd, bx, en, hcm, bw, cx, dv⟩ := fZ da.out.2.1
            obtain ⟨apx, capp, bph, oph, bl, cL, hppm, bq, ay, bj⟩ := fQ da.out.1
            rw [← de] at bl cL bq ay B6
            rw [← cj] at bx en bw cx B6
            cases bl
            cases bx
            have di := h! de
            have dy := h! cj
            have dg := h! ay
            have df := h! bj
            have cn := h! cx
            have cr := h! dv
            have HJ : Hid (((j : Int) == 0) = false ∨ (j = 0 ∧ pl ≤ 0)) := h! (by
              by_cases h : j = 0
              · exact .inr ⟨h, by omega⟩
              · exact .inl (by simp; omega))
            clear de cj ay bj cx dv hz
            obtain ⟨b6, cd⟩ : ∃ b6, b6 = wb.heap.size := ⟨_, rfl⟩
            rw [← cd] at B6 az
            have HB6 := h! cd
            clear ah ai ak aj an am
            obtain ⟨ah, ai, ak⟩ := BC.out
            obtain ⟨aj, an, am⟩ := B6.out
            simp only [← cd]
            clear cd
            have fb : Hid (j = 0 → pl = 0) := h! (fun h => by rcases HJ.out with h1 | ⟨_, h1⟩; (subst h; simp at h1); omega)
            rcases HJ.out with dj | ⟨rfl, dj⟩
            all_goals
              go_wp2_with fail
              clear dj
              go_loopw [119] (fun i wr => ∃ (k : Nat) (T1 : List (Int × Int)), k ≤ pl ∧ i = .int .i64 k ∧ (x.phis.take k).foldlM (phiM np nb) T = some T1 ∧ IMap wr bm (encT T1) ∧ Turn [bm] wc wr ∧ Box wr b6 #[.slice bf pl bi, .slice be cl bg, .int .i64 x.term.op, .int .i64 x.term.val, .slice ba x.term.to.length bd, .int .i64 x.term.n]) (fun i _ => pl - (intOf i).toNat)
              case atStart => exact ⟨0, T, aJ _, rfl, rfl, HI.out, HT.out, B6.out⟩
              case round =>
                obtain ⟨k, T1, hk, rfl, dx, hI, hT, bv⟩ := hrel
                clear ah ai ak aj an am
                have cg := h! dx
                replace HI := h! hI
                replace HT := h! hT
                replace B6 := h! bv
                replace HW := h! (ad.out _ hT).1
                replace BC : Hid (Box wr bc #[.slice ap np cp, .int .i64 ar, .int .i64 ce, .slice (some ⟨bb, bo, none⟩) nb cb, .map (some bm)]) := h! (ad.out _ hT).2
                clear dx hI hT bv
                generalize wr = w7 at *
                obtain ⟨ah, ai, ak⟩ := BC.out
                obtain ⟨aj, an, am⟩ := B6.out
                by_cases hlt : k < pl
                · first
                    | (exfalso; have h1 := fb.out (by first | rfl | trivial); omega)
                    | (have hne : 0 < pl := by omega
                       obtain ⟨rfl, dd⟩ := dg.out hne
                       obtain ⟨p, dc⟩ : ∃ p, x.phis[k]? = some p := ⟨_, aC (by have := di.out; omega)⟩
                       obtain ⟨af, av, cf, cv, hP⟩ := df.out k p dc
                       have ag := h! (qM (phiM np nb) x.phis T T1 k p dc cg.out)
                       obtain ⟨m0, m1, m2, m3, q1, q2, q3, q4⟩ := hP.below HW.out dd
                       have cG := h! hP.src
                       clear q1 q2 q3 q4 hP dc
                       go_upto_region 18 with (fail)
                       have ao : w7.heap.size ≠ bc := fun e => by have := ah; omega
                       have bk : bc ≠ w7.heap.size := fun e => ao e.symm
                       have aq : w7.heap.size ≠ b6 := fun e => by have := aj; omega
                       have bn : b6 ≠ w7.heap.size := fun e => aq e.symm
                       clear ah ai ak aj an am
                       have ae := (Below.refl w7.heap.size w7).alloc (aB _) (.cells #[.int .i64 p.id, .int .i64 p.typ, .slice af p.src.length cf, .slice av p.vals.length cv] 78)
                       replace BC := h! (BC.out.later ae)
                       replace B6 := h! (B6.out.later ae)
                       replace HI := h! (HI.out.later ae)
                       replace HT := h! (HT.out.later ae)
                       replace HW := h! (HW.out.trans (ae.mono HW.out.size))
                       clear ae
                       have B8 := h! (Box.new w7 #[.int .i64 p.id, .int .i64 p.typ, .slice af p.src.length cf, .slice av p.vals.length cv] 78)
                       generalize w7.alloc (.cells #[.int .i64 p.id, .int .i64 p.typ, .slice af p.src.length cf, .slice av p.vals.length cv] 78) = w8 at *
                       obtain ⟨ah, ai, ak⟩ := BC.out
                       obtain ⟨aj, an, am⟩ := B6.out
                       obtain ⟨cF, co, db⟩ := B8.out
                       clear m0 m1 m2 m3
                       have al := h! (aFF (x := p) (af := af) (av := av) (cf := cf) (cv := cv) (ap := ap) (np := np) (cp := cp) (ab := some ⟨bb, bo, none⟩) (nb := nb) (cb := cb) (ar := ar) (ce := ce) BC.out HI.out (cG.out.below HW.out))
                       cases hph : phiM np nb T1 p with
                       | none =>
                         rw [hph] at al ag
                         clear hph
                         go_wp2_with fail
                         refine al.out.mono ?_
                         rintro e w3 ⟨rfl, h3, t3⟩
                         have T3 := h! t3
                         clear h3 t3
                         go_wp2
                         go_ret
                         exact iP.no (bO.out (wJ (nS _ _ _ (k + 1) ag.out))) (HT.out.trans T3.out)
                       | some T2 =>
                         rw [hph] at al ag
                         clear hph
                         go_wp2_with fail
                         refine al.out.mono ?_
                         rintro e w3 ⟨rfl, h3, t3⟩
                         have T3 := h! t3
                         replace HI := h! (h3 T2 rfl)
                         clear h3 t3
                         clear ah ai ak aj an am cF co db
                         replace HT := h! (HT.out.trans T3.out)
                         replace HW := h! (ad.out _ HT.out).1
                         replace BC : Hid (Box w3 bc #[.slice ap np cp, .int .i64 ar, .int .i64 ce, .slice (some ⟨bb, bo, none⟩) nb cb, .map (some bm)]) := h! (ad.out _ HT.out).2
                         replace B6 := h! (B6.out.turn T3.out (by simpa using az.out))
                         go_wp2
                         go_roundw
                         case rel => exact ⟨k + 1, T2, hlt, by go_num, ag.out, HI.out, HT.out, B6.out⟩
                         case measure => simp [intOf]; omega)
                · obtain rfl : k = pl := by omega
                  rw [aH (by have := di.out; omega)] at cg
                  go_wp2_with fail
                  go_loopw [131] (fun i wr => ∃ (q : Nat) (T2 : List (Int × Int)), q ≤ cl ∧ i = .int .i64 q ∧ (x.code.take q).foldlM (jX np ar ce) T1 = some T2 ∧ IMap wr bm (encT T2) ∧ Turn [bm] wc wr ∧ Box wr b6 #[.slice bf k bi, .slice be cl bg, .int .i64 x.term.op, .int .i64 x.term.val, .slice ba x.term.to.length bd, .int .i64 x.term.n]) (fun i _ => cl - (intOf i).toNat)
                  case atStart => exact ⟨0, T1, aJ _, rfl, rfl, HI.out, HT.out, B6.out⟩
                  case round =>
                    obtain ⟨q, T2, hq, rfl, dm, hI, hT, bv⟩ := hrel
                    clear ah ai ak aj an am
                    have cB := h! dm
                    replace HI := h! hI
                    replace HT := h! hT
                    replace B6 := h! bv
                    replace HW := h! (ad.out _ hT).1
                    replace BC : Hid (Box wr bc #[.slice ap np cp, .int .i64 ar, .int .i64 ce, .slice (some ⟨bb, bo, none⟩) nb cb, .map (some bm)]) := h! (ad.out _ hT).2
                    clear dm hI hT bv
                    generalize wr = w9 at *
                    obtain ⟨ah, ai, ak⟩ := BC.out
                    obtain ⟨aj, an, am⟩ := B6.out
                    by_cases hltq : q < cl
                    · have hne : 0 < cl := by omega
                      obtain ⟨rfl, dd⟩ := cn.out hne
                      obtain ⟨y, ci⟩ : ∃ y, x.code[q]? = some y := ⟨_, aC (by have := dy.out; omega)⟩
                      obtain ⟨aa, ca, hP⟩ := cr.out q y ci
                      have ag := h! (qM (jX np ar ce) x.code T1 T2 q y ci cB.out)
                      obtain ⟨m0, m1, m2, m3, r1, r2, r3, r4⟩ := hP.below HW.out dd
                      clear r1 r2 r3 r4 hP ci
                      go_upto_region 24 with (fail)
                      have ao : w9.heap.size ≠ bc := fun e => by have := ah; omega
                      have bk : bc ≠ w9.heap.size := fun e => ao e.symm
                      have aq : w9.heap.size ≠ b6 := fun e => by have := aj; omega
                      have bn : b6 ≠ w9.heap.size := fun e => aq e.symm
                      clear ah ai ak aj an am
                      have ae := (Below.refl w9.heap.size w9).alloc (aB _) (.cells #[.int .i64 y.op, .int .i64 y.id, .slice aa y.args.length ca, .int .i64 y.n] 82)
                      replace BC := h! (BC.out.later ae)
                      replace B6 := h! (B6.out.later ae)
                      replace HI := h! (HI.out.later ae)
                      replace HT := h! (HT.out.later ae)
                      replace HW := h! (HW.out.trans (ae.mono HW.out.size))
                      clear ae
                      have B8 := h! (Box.new w9 #[.int .i64 y.op, .int .i64 y.id, .slice aa y.args.length ca, .int .i64 y.n] 82)
                      generalize w9.alloc (.cells #[.int .i64 y.op, .int .i64 y.id, .slice aa y.args.length ca, .int .i64 y.n] 82) = w8 at *
                      obtain ⟨ah, ai, ak⟩ := BC.out
                      obtain ⟨aj, an, am⟩ := B6.out
                      obtain ⟨cF, co, db⟩ := B8.out
                      clear m0 m1 m2 m3
                      have al := h! (aC6 (x := y) (aa := aa) (ca := ca) (ap := ap) (np := np) (cp := cp) es.out ef.out BC.out HI.out)
                      cases hph : jX np ar ce T2 y with
                      | none =>
                        rw [hph] at al ag
                        clear hph
                        go_wp2_with fail
                        refine al.out.mono ?_
                        rintro e w3 ⟨rfl, h3, t3⟩
                        have T3 := h! t3
                        clear h3 t3
                        go_wp2
                        go_ret
                        exact iP.no (bO.out (wK cg.out (nS _ _ _ (q + 1) ag.out))) (HT.out.trans T3.out)
                      | some T4 =>
                        rw [hph] at al ag
                        clear hph
                        go_wp2_with fail
                        refine al.out.mono ?_
                        rintro e w3 ⟨rfl, h3, t3⟩
                        have T3 := h! t3
                        replace HI := h! (h3 T4 rfl)
                        clear h3 t3
                        clear ah ai ak aj an am cF co db
                        replace HT := h! (HT.out.trans T3.out)
                        replace HW := h! (ad.out _ HT.out).1
                        replace BC : Hid (Box w3 bc #[.slice ap np cp, .int .i64 ar, .int .i64 ce, .slice (some ⟨bb, bo, none⟩) nb cb, .map (some bm)]) := h! (ad.out _ HT.out).2
                        replace B6 := h! (B6.out.turn T3.out (by simpa using az.out))
                        go_wp2
                        go_roundw
                        case rel => exact ⟨q + 1, T4, hltq, by go_num, ag.out, HI.out, HT.out, B6.out⟩
                        case measure => simp [intOf]; omega
                    · obtain rfl : q = cl := by omega
                      rw [aH (by have := dy.out; omega)] at cB
                      have ax := h! (ei.out _ _ cg.out cB.out)
                      have al := h! (aF2 (t := x.term) (at_ := ba) (ct := bd) (vp := .slice ap np cp) (ab := some ⟨bb, bo, none⟩) (nb := nb) (cb := cb) (ar := ar) (ce := ce) (bm := bm) BC.out (da.out.2.2.below HW.out))
                      cases hen : iT nb x.term
                      · rw [hen] at al ax
                        clear hen
                        go_wp2_with fail
                        refine al.out.mono ?_
                        rintro e w3 ⟨rfl, h3⟩
                        have T3 := h! (HT.out.later h3)
                        clear h3
                        go_wp2
                        go_ret
                        exact iP.no (bO.out (by rw [ax.out]; rfl)) T3.out
                      · rw [hen] at al ax
                        clear hen
                        go_wp2_with fail
                        refine al.out.mono ?_
                        rintro e w3 ⟨rfl, h3⟩
                        have T3 := h! (HT.out.later h3)
                        replace HI := h! (HI.out.later h3)
                        clear ah ai ak aj an am
                        clear h3
                        go_wp2
                        go_roundw
                        case rel => exact ⟨_, T2, hltb, by first | go_num | rfl, by rw [dr.out, ax.out]; rfl, HI.out, T3.out⟩
                        case measure => simp [intOf]; omega
        · obtain rfl : j = nb := by omega
          rw [aH (by rw [eD]; have := cw.out; omega)] at cy
          go_wp2
          go_ret
          exact iP.yes (by rw [HR.out, cy.out]) HI.out HT.out
end Go.Proofs.YtagabiidbbhhmaaGreat
