/- Part 10. -/
import Derived.Test.YtagabiidbbhhmaaGreatET9
namespace Go.Proofs.YtagabiidbbhhmaaGreat
set_option maxHeartbeats 12800000
set_option linter.all false
set_option maxRecDepth 100000
open Go.RowKit
theorem wD(ps:List Int)(j:Nat)(t:Int)(h:ps[j]? =some t):parT (ps.take (j+1))=parT (ps.take j)++[((j:Int),t)]:=by have hj:=(aD.1 h).1;unfold parT;rw[cX,h,Option.toList_some,List.zipIdx_append,bG];simp[bB,dZ (cE hj)]
theorem aHN(ps:List Int)(j:Nat):tyOf (parT (ps.take j)) j=none:=by rw[iA,pP];simp only[aN,bQ,not_exists,not_and,bB];intro i hi e;omega
theorem aBL{f:FuncD}(h:kA f=true):wG f=if f.params.all mP then f.blocks.zipIdx.foldlM (kX f.params.length f.blocks.length f.arrays f.cells) (parT f.params) else none:=by unfold wG;rw[h,bY]
theorem wE{f:FuncD}(h:kA f=false):wG f=none:=by unfold wG;rw[h];rfl
theorem aHO{w:World}{f:FuncD}{bc bm:Nat}{ap ab:Option Addr}{cp cb np nb:Nat}(hb:Box w bc (chk (.slice ap np cp) (.slice ab nb cb) f.arrays f.cells bm))(hnp:np=f.params.length)(hnb:nb=f.blocks.length)
  (hB:fV iI 6 w (.slice ab nb cb) f.blocks) (hno:kA f=false):
  Calls Tryz.prog 136 #[.pointer (some ⟨bc,0,none⟩)] w fun e w'=>e=.returned (.bool false)/\Below w.heap.size w w':=by
 have c0:=hb.at 0 (v:=.slice ap np cp) rfl;have c1:=hb.at 1 (v:=.int .i64 f.arrays) rfl;have c2:=hb.at 2 (v:=.int .i64 f.cells) rfl;have c3:=hb.at 3 (v:=.slice ab nb cb) rfl;have HB:=h! hB;have ag:=zU hB;have aa:16<np\/(np<=16/\f.arrays<0)\/(np<=16/\0<=f.arrays/\8<f.arrays)\/(np<=16/\0<=f.arrays/\f.arrays<=8/\f.cells<0)\/(np<=16/\0<=f.arrays/\f.arrays<=8/\0<=f.cells/\64<f.cells)\/
   (np<=16/\0<=f.arrays/\f.arrays<=8/\0<=f.cells/\f.cells<=64/\nb<1)\/(np<=16/\0<=f.arrays/\f.arrays<=8/\0<=f.cells/\f.cells<=64/\1<=nb/\512<nb)\/
   (np<=16/\0<=f.arrays/\f.arrays<=8/\0<=f.cells/\f.cells<=64/\1<=nb/\nb<=512/\4096<mE f):=by
  rw[hnp,hnb];by_cases h1:16<f.params.length
  ·exact .inl h1
  ·by_cases h2:f.arrays<0
   ·exact .inr (.inl ⟨by omega,h2⟩)
   by_cases h3:8<f.arrays
   ·exact .inr (.inr (.inl ⟨by omega,by omega,h3⟩))
   by_cases h4:f.cells<0
   ·exact .inr (.inr (.inr (.inl ⟨by omega,by omega,by omega,h4⟩)))
   by_cases h5:64<f.cells
   ·exact .inr (.inr (.inr (.inr (.inl ⟨by omega,by omega,by omega,by omega,h5⟩))))
   by_cases h6:f.blocks.length<1
   ·exact .inr (.inr (.inr (.inr (.inr (.inl ⟨by omega,by omega,by omega,by omega,by omega,h6⟩)))))
   by_cases h7:512<f.blocks.length
   ·exact .inr (.inr (.inr (.inr (.inr (.inr (.inl ⟨by omega,by omega,by omega,by omega,by omega,by omega,h7⟩))))))
   refine .inr (.inr (.inr (.inr (.inr (.inr (.inr ⟨by omega,by omega,by omega,by omega,by omega,by omega,by omega, ?_⟩))))));unfold kA at hno;simp at hno;have:=hno (by omega) (by omega) (by omega) (by omega) (by omega) (by omega) (by omega);omega
 have C3:=h! c3;clear hno hb ag hB;have ae:=h! hnb;clear hnb hnp;have ad:Hid ((f.blocks.map iB).sum=mE f):=h! rfl;generalize f.arrays=ar at*;generalize f.cells=ce at*;generalize mE f=sz at*;rcases aa with h|⟨h1,h⟩|⟨h1,h2,h⟩|⟨h1,h2,h3,h⟩|⟨h1,h2,h3,h4,h⟩|⟨h1,h2,h3,h4,h5,h⟩|⟨h1,h2,h3,h4,h5,h6,h⟩|⟨h1,h2,h3,h4,h5,h6,h7,h⟩;all_goals
  go_enter Tryz.func136,Tryz.ntmps136;go_wp2_with (go_at_call 179;refine(aFP C3.out HB.out (by rw[<-ae.out];assumption)).mono ?_;rintro e w1 ⟨rfl,ac⟩;have af:=h! ac;clear ac;rw[ad.out]);go_ret;first|exact⟨rfl,af.out⟩|exact⟨rfl,Below.refl _ _⟩
theorem IMap.alloc{w:World}{b:Nat}{m:List (Int×Value)}(h:IMap w b m)(o:Obj):IMap (w.alloc o) b m:=h.later ((Below.refl _ _).alloc (aC _) o)
theorem Turn.later{bs:List Nat}{a w w':World}(h:Turn bs a w)(hb:Below w.heap.size w w'):Turn bs a w':=h.trans (Turn.of_below hb bs)
theorem Turn.alloc{bs:List Nat}{a w:World}(h:Turn bs a w)(o:Obj):Turn bs a (w.alloc o):=h.later ((Below.refl _ _).alloc (aC _) o)
theorem aBM{np nb:Nat}{ar ce:Int}{T T1 T2:List (Int×Int)}{x:BlockD}{j:Nat}(h0:¬(j=0/\0<x.phis.length))(h1:x.phis.foldlM (phiM np nb) T=some T1)(h2:x.code.foldlM (mA np ar ce) T1=some T2):
  kX np nb ar ce T (x,j)=if jB nb x.term then some T2 else none:=by
 unfold kX;rw[if_neg h0,h1,eB,h2];rfl
theorem aBN{np nb:Nat}{ar ce:Int}{T:List (Int×Int)}{x:BlockD}{j:Nat}(h0:j=0/\0<x.phis.length):kX np nb ar ce T (x,j)=none:=by unfold kX;rw[if_pos h0]
theorem aBO{np nb:Nat}{ar ce:Int}{T:List (Int×Int)}{x:BlockD}{j:Nat}(h1:x.phis.foldlM (phiM np nb) T=none):kX np nb ar ce T (x,j)=none:=by unfold kX;rw[h1];split<;>rfl
theorem aBP{np nb:Nat}{ar ce:Int}{T T1:List (Int×Int)}{x:BlockD}{j:Nat}(h1:x.phis.foldlM (phiM np nb) T=some T1)(h2:x.code.foldlM (mA np ar ce) T1=none):kX np nb ar ce T (x,j)=none:=by unfold kX;rw[h1,eB,h2];split<;>rfl
theorem uL{α β:Type}(g:β->α->Option β)(l:List α)(s t:β)(j:Nat)(x:α)(h:l[j]? =some x)(ht:(l.take j).foldlM g s=some t):(l.take (j+1)).foldlM g s=g t x:=by rw[aBV g l s j x h,ht];rfl
theorem aBQ{w wc:World}{ps:List Int}{ar ce:Int}{bs:List BlockD}{bc bm:Nat}{ap ab:Option Addr}{cp cb np nb:Nat}{r:Option (List (Int×Int))}(hW:Below w.heap.size w wc)(hm0:w.heap.size≤bm)(hne:bc≠bm)
    (hb:Box wc bc (chk (.slice ap np cp) (.slice ab nb cb) ar ce bm)) (hm:IMap wc bm []) (hnp:np=ps.length) (hnb:nb=bs.length) (hp:Ints w (.slice ap np cp) ps) (hB:fV iI 6 w (.slice ab nb cb) bs)
    (h1:np≤16) (h2:0≤ar∧ar≤8) (h3:0≤ce∧ce≤64) (h4:1≤nb∧nb≤512) (h5:(bs.map iB).sum≤4096)
    (hr:r=if ps.all mP then bs.zipIdx.foldlM (kX np nb ar ce) (parT ps) else none):
    Calls Tryz.prog 136 #[.pointer (some ⟨bc,0,none⟩)] wc (kB r bm wc):=by
  have HR:=h! hr;have dw:=h! hW;have fa:=h! hm0;have ez:=h! hne;have ek:=h! hb;have HM:=h! hm;have dm:=h! hnp;have ck:=h! hnb;have es:=h! (hB.below iI.lasting hW);obtain⟨a1,c1,pb,po,dv,eg,hpm,de,db⟩:=hp.parts;rw[← hnp]at dv eg de db
  cases dv;obtain⟨a2,c2,bb,bo,dj,fb,hbm,fd,da,dp⟩:=fW hB;rw[← hnb]at dj fb da
  cases dj;obtain⟨rfl,bi⟩:=da (by omega);have eh:=h! de;have ex:=h! db;have et:=h! bi;have ei:=h! dp;have HSZ:=h! h5;have er:=h! h2;have fc:=h! h3;have dz:=h! h4.2;have d0:=hb.at 0 (v:=.slice ap np cp) rfl;have d1:=hb.at 1 (v:=.int .i64 ar) rfl;have d2:=hb.at 2 (v:=.int .i64 ce) rfl;have d3:=hb.at 3 (v:=.slice (some ⟨bb,bo,none⟩) nb cb) rfl;have D3:=h! d3;have g1:decide (16<(np:Int))=false:=by simp;omega
  have g2:decide (ar<0)=false:=by simp;omega
  have g3:decide (8<ar)=false:=by simp;omega
  have g4:decide (ce<0)=false:=by simp;omega
  have g5:decide (64<ce)=false:=by simp;omega
  have g6:decide ((nb:Int)<1)=false:=by simp;omega
  have g7:decide (512<(nb:Int))=false:=by simp;omega
  have g8:decide (4096<(bs.map iB).sum)=false:=by simp;omega
  have HL:Hid (bc<wc.heap.size∧bm<wc.heap.size):=h! ⟨hb.lt,hm.lt⟩;clear hr hW hm0 hne hb hm hnp hnb hB de db da dp hp fd bi;have df:Hid (np≤16):=h! h1;clear h1 h2 h3 h4 h5;have ad:Hid (∀wr,Turn [bm] wc wr→Below w.heap.size w wr∧Box wr bc (chk (.slice ap np cp) (.slice (some ⟨bb,bo,none⟩) nb cb) ar ce bm)):=h! (fun wr ht=>⟨dw.trans (ht.below dw.size (fun x hx=>by simp at hx;subst hx;exact fa)),ek.turn ht (by simpa using ez.out)⟩);go_enter Tryz.func136,Tryz.ntmps136;go_upto_region 3 with(go_at_call 179;refine(aFP D3.out es.out (by rw[← ck.out];exact dz)).mono ?_;rintro e w1 ⟨rfl,dt⟩;have eb:=h! dt;clear dt);clear d0 d1 d2 d3 g1 g2 g3 g4 g5 g6 g7 g8;have HT:=h! (Turn.of_below eb.out [bm]);have ee:=h! (HM.later eb.out);have e0:=(ad w1 HT.out).2.at 0 (v:=.slice ap np cp) rfl;have hnp16:=df.out;have hnb16:nb≤512:=dz.out;go_wp2_with fail;go_loopw [79] (fun i wr=>∃j:Nat,j≤np∧i=.int .i64 j∧(ps.take j).all mP=true∧IMap wr bm (encT (parT (ps.take j)))∧Turn [bm] wc wr) (fun i _=>np - (intOf i).toNat)
  case atStart=>exact⟨0,aL _,rfl,rfl,ee.out,HT.out⟩
  case round=>
    obtain⟨j,hj,rfl,ed,hI,hT⟩:=hrel;have bz:=h! ed;have HI:=h! hI;replace HT:=h! hT;obtain⟨bp,bq⟩:=ad.out wr hT;have di:=h! bp;have aw:=h! bq;clear ed hI hT bp bq e0 ee;by_cases hlt:j<np
    · have hne:0<np:=by omega
      obtain⟨rfl,bi⟩:=eh.out hne
      have ax:ps[j]? =some (ps.getD j 0):=by rw[aH,aA (by have:=dm.out;omega)];rfl
      have hx0:=(di.cell bi).trans (ex j hlt)
      have f4:=aw.at 4 (v:=.map (some bm)) rfl
      have ew:=h! (wD ps j _ ax)
      have cL:=h! (aHN ps j)
      have cn:=h! (show(ps.take (j+1)).all mP=((ps.take j).all mP&&mP (ps.getD j 0)) by rw[cX,ax];simp)
      have cF:=h! (aG ax)
      clear ax
      generalize ps.getD j 0=t at*
      cases ht1:(t != 1)<;>cases cg:(t != 2)
      all_goals
        have dx:=h! ht1;have ds:=h! cg;go_wp2_with (at_mapUpdate;refine gC (q:=.i64) (b:=bm) (mm:=encT (parT (ps.take j))) (y:=j) rfl _ _ _ _ (.inl rfl) Tryz.underlying93 Tryz.underlying3 rfl HI.out rfl ?_;intro w2 dl ej cg;have HP:=h! dl;have ef:=h! cg;clear dl ej cg);first
          | (go_ret
             refine kB.no ?_ HT.out
             have hno:mP t=false:=by unfold mP;have e1:=dx.out;have e2:=ds.out;simp at e1 e2⊢;exact⟨e1,e2⟩
             rw[HR.out,show ps.all mP=false by rw[cW];exact⟨t,cF.out,by rw[hno];simp⟩]
             rfl)
          | (go_roundw
             case rel=>exact⟨j+1,hlt,by go_num,by rw[cn.out,bz.out];unfold mP;have e1:=dx.out;have e2:=ds.out;simp at e1 e2⊢;first|exact .inl e1|exact .inr e2|(exact .inl (by omega)),by rw[ew.out, ← pO cL.out];exact HP,HT.trans ef.out⟩
             case measure=>simp[intOf];omega)
    · obtain rfl:j=np:=by omega
      rw[aI (by have:=dm.out;omega)]at bz HI
      replace HR:Hid (r=bs.zipIdx.foldlM (kX j nb ar ce) (parT ps)):=h! (by rw[HR.out,bz.out];rfl)
      have f3:=aw.at 3 (v:=.slice (some ⟨bb,bo,none⟩) nb cb) rfl
      go_wp2_with fail
      obtain⟨np,hnp⟩:∃np,np=j:=⟨_,rfl⟩
      obtain rfl:=hnp
      go_loopw [103] (fun i wr=>∃(j:Nat) (T:List (Int×Int)),j≤nb∧i=.int .i64 j∧(bs.zipIdx.take j).foldlM (kX np nb ar ce) (parT ps)=some T∧IMap wr bm (encT T)∧Turn [bm] wc wr) (fun i _=>nb - (intOf i).toNat)
      case atStart=>exact⟨0,_,aL _,rfl,rfl,HI.out,HT.out⟩
      case round=>
        obtain⟨j,T,hj,rfl,dq,hI,hT⟩:=hrel;have cr:=h! dq;replace HI:=h! hI;replace HT:=h! hT;obtain⟨bp,bq⟩:=ad.out wr hT;have HW:=h! bp;have BC:Hid (Box wr bc #[.slice ap np cp,.int .i64 ar,.int .i64 ce,.slice (some ⟨bb,bo,none⟩) nb cb,.map (some bm)]):=h! bq;clear dq hI hT bp bq f3 bz di aw;generalize wr=wb at*;by_cases hltb:j<nb
        · have bi:=et.out
          obtain⟨x,ax⟩:∃x,bs[j]? =some x:=⟨_,aA (by have:=ck.out;omega)⟩
          obtain⟨bg,bh,bd,be,bf,ba,hC⟩:=ei.out j x ax
          have dn:=h! (uL (kX np nb ar ce) bs.zipIdx (parT ps) T j (x,j) (by simp[dG,ax]) cr.out)
          have cd:Hid (kX np nb ar ce T (x,j)=none→r=none):=h! (fun h=>by rw[HR.out];exact qD _ _ _ (j+1) (by rw[dn.out];exact h))
          have HC:=h! (hC.below HW.out bi)
          obtain⟨k0,k1,k2,k3,k4,k5,q1,q2,q3,q4,q5,q6⟩:=HC.out
          have ep:=(⟨hC.phis,hC.code,hC.to⟩:fV PhiR 4 w _ x.phis∧fV jD 4 w _ x.code∧Ints w _ x.term.to)
          have ev:bm<wb.heap.size:=HI.lt
          clear q1 q2 q3 q4 q5 q6 hC ax
          obtain⟨ah,aj,ai⟩:=BC.out
          go_upto_region 13 with(fail)
          have bk:wb.heap.size≠bc:=fun e=>by have:=ah;omega
          have nBCB6:bc≠wb.heap.size:=fun e=>bk e.symm
          clear ah aj ai
          have ag:=(Below.refl wb.heap.size wb).alloc (aC _) (.cells #[.slice bg x.phis.length be,.slice bh x.code.length bf,.int .i64 x.term.op,.int .i64 x.term.val,.slice bd x.term.to.length ba,.int .i64 x.term.n] 63)
          replace BC:=h! (BC.later ag)
          replace HI:=h! (HI.later ag)
          replace HT:=h! (HT.later ag)
          replace HW:=w! HW ag
          clear ag
          have B6:=h! (Box.new wb #[.slice bg x.phis.length be,.slice bh x.code.length bf,.int .i64 x.term.op,.int .i64 x.term.val,.slice bd x.term.to.length ba,.int .i64 x.term.n] 63)
          generalize wb.alloc (.cells #[.slice bg x.phis.length be,.slice bh x.code.length bf,.int .i64 x.term.op,.int .i64 x.term.val,.slice bd x.term.to.length ba,.int .i64 x.term.n] 63)=w6 at*
          obtain⟨ah,aj,ai⟩:=BC.out
          obtain⟨ak,an,am⟩:=B6.out
          have az:Hid (wb.heap.size≠bm):=h! (fun e=>by have h1:=ev;rw[e]at h1;omega)
          have ey:=h! (HC.phis)
          have em:=h! (HC.code)
          have cy:Hid (fV PhiR 4 w (.slice bg x.phis.length be) x.phis∧fV jD 4 w (.slice bh x.code.length bf) x.code∧Ints w (.slice bd x.term.to.length ba) x.term.to):=h! ep
          clear HC ey em k0 k1 k2 k3 k4 k5
          by_cases hz:j=0∧0<x.phis.length
          · obtain⟨rfl,hz⟩:=hz
            have HZ:=h! hz
            go_wp2
            go_ret
            exact kB.no (cd (aBN ⟨rfl,HZ.out⟩)) HT.out
          · have HZ:=h! hz
            have eo:Hid (∀T1 T2,x.phis.foldlM (phiM np nb) T=some T1→x.code.foldlM (mA np ar ce) T1=some T2→kX np nb ar ce T (x,j)=if jB nb x.term then some T2 else none):=h! (fun _ _ h1 h2=>aBM hz h1 h2)
            obtain⟨pl,cq⟩:∃pl,pl=x.phis.length:=⟨_,rfl⟩
            obtain⟨cl,cz⟩:∃cl,cl=x.code.length:=⟨_,rfl⟩
            obtain⟨ac,capc,bcd,ocd,bv,en,hcm,bx,cm,ea⟩:=gU cy.2.1
            obtain⟨apx,capp,bph,oph,br,ci,hppm,bj,ay,bw⟩:=gL cy.1
            rw[← cq]at br ci bj ay B6
            rw[← cz]at bv en bx cm B6
            cases br
            cases bv
            have dh:=h! cq
            have dy:=h! cz
            have co:=h! ay
            have cw:=h! bw
            have dg:=h! cm
            have dc:=h! ea
            have HJ:Hid (((j:Int) == 0)=false∨(j=0∧pl≤0)):=h! (by
              by_cases h:j=0
              · exact .inr ⟨h,by omega⟩
              · exact .inl (by simp;omega))
            clear cq cz ay bw cm ea hz
            obtain⟨b6,cc⟩:∃b6,b6=wb.heap.size:=⟨_,rfl⟩
            rw[← cc]at B6 az
            have HB6:=h! cc
            clear ah aj ai ak an am
            obtain⟨ah,aj,ai⟩:=BC.out
            obtain⟨ak,an,am⟩:=B6.out
            simp only[← cc]
            clear cc
            have fe:Hid (j=0→pl=0):=h! (fun h=>by rcases HJ.out with h1|⟨_,h1⟩;(subst h;simp at h1);omega)
            rcases HJ.out with dr|⟨rfl,dr⟩
            all_goals
              go_wp2_with fail;clear dr;go_loopw [119] (fun i wr=>∃(k:Nat) (T1:List (Int×Int)),k≤pl∧i=.int .i64 k∧(x.phis.take k).foldlM (phiM np nb) T=some T1∧IMap wr bm (encT T1)∧Turn [bm] wc wr∧Box wr b6 #[.slice bg pl be,.slice bh cl bf,.int .i64 x.term.op,.int .i64 x.term.val,.slice bd x.term.to.length ba,.int .i64 x.term.n]) (fun i _=>pl - (intOf i).toNat)
              case atStart=>exact⟨0,T,aL _,rfl,rfl,HI.out,HT.out,B6.out⟩
              case round=>
                obtain⟨k,T1,hk,rfl,ec,hI,hT,bn⟩:=hrel;clear ah aj ai ak an am;have bO:=h! ec;replace HI:=h! hI;replace HT:=h! hT;replace B6:=h! bn;replace HW:=h! (ad _ hT).1;replace BC:Hid (Box wr bc #[.slice ap np cp,.int .i64 ar,.int .i64 ce,.slice (some ⟨bb,bo,none⟩) nb cb,.map (some bm)]):=h! (ad _ hT).2;clear ec hI hT bn;generalize wr=w7 at*;obtain⟨ah,aj,ai⟩:=BC.out;obtain⟨ak,an,am⟩:=B6.out;by_cases hlt:k<pl
                · first
                    | (exfalso;have h1:=fe.out (by first|rfl|trivial);omega)
                    | (have hne:0<pl:=by omega
                       obtain⟨rfl,cB⟩:=co.out hne
                       obtain⟨p,cM⟩:∃p,x.phis[k]? =some p:=⟨_,aA (by have:=dh.out;omega)⟩
                       obtain⟨af,av,cf,cv,hP⟩:=cw.out k p cM
                       have ae:=h! (uL (phiM np nb) x.phis T T1 k p cM bO.out)
                       obtain⟨m0,m1,m2,m3,q1,q2,q3,q4⟩:=hP.below HW.out cB
                       have dd:=h! hP.src
                       clear q1 q2 q3 q4 hP cM
                       go_upto_region 18 with(fail)
                       have ao:w7.heap.size≠bc:=fun e=>by have:=ah;omega
                       have bl:bc≠w7.heap.size:=fun e=>ao e.symm
                       have aq:w7.heap.size≠b6:=fun e=>by have:=ak;omega
                       have bt:b6≠w7.heap.size:=fun e=>aq e.symm
                       clear ah aj ai ak an am
                       have ag:=(Below.refl w7.heap.size w7).alloc (aC _) (.cells #[.int .i64 p.id,.int .i64 p.typ,.slice af p.src.length cf,.slice av p.vals.length cv] 78)
                       replace BC:=h! (BC.later ag)
                       replace B6:=h! (B6.later ag)
                       replace HI:=h! (HI.later ag)
                       replace HT:=h! (HT.later ag)
                       replace HW:=w! HW ag
                       clear ag
                       have B8:=h! (Box.new w7 #[.int .i64 p.id,.int .i64 p.typ,.slice af p.src.length cf,.slice av p.vals.length cv] 78)
                       generalize w7.alloc (.cells #[.int .i64 p.id,.int .i64 p.typ,.slice af p.src.length cf,.slice av p.vals.length cv] 78)=w8 at*
                       obtain⟨ah,aj,ai⟩:=BC.out
                       obtain⟨ak,an,am⟩:=B6.out
                       obtain⟨cj,cx,cs⟩:=B8.out
                       clear m0 m1 m2 m3
                       have al:=h! (aL8 (x:=p) (af:=af) (av:=av) (cf:=cf) (cv:=cv) (ap:=ap) (np:=np) (cp:=cp) (ab:=some ⟨bb,bo,none⟩) (nb:=nb) (cb:=cb) (ar:=ar) (ce:=ce) BC.out HI.out (dd.below HW.out))
                       cases hph:phiM np nb T1 p with
                       | none=>
                         rw[hph]at al ae
                         clear hph
                         go_wp2_with fail
                         refine al.mono ?_
                         rintro e w3 ⟨rfl,h3,t3⟩
                         have T3:=h! t3
                         clear h3 t3
                         go_wp2
                         go_ret
                         exact kB.no (cd (aBO (qD _ _ _ (k+1) ae.out))) (HT.trans T3.out)
                       | some T2=>
                         rw[hph]at al ae
                         clear hph
                         go_wp2_with fail
                         refine al.mono ?_
                         rintro e w3 ⟨rfl,h3,t3⟩
                         have T3:=h! t3
                         replace HI:=h! (h3 T2 rfl)
                         clear h3 t3
                         clear ah aj ai ak an am cj cx cs
                         replace HT:=h! (HT.trans T3.out)
                         replace HW:=h! (ad _ HT.out).1
                         replace BC:Hid (Box w3 bc #[.slice ap np cp,.int .i64 ar,.int .i64 ce,.slice (some ⟨bb,bo,none⟩) nb cb,.map (some bm)]):=h! (ad _ HT.out).2
                         replace B6:=h! (B6.turn T3.out (by simpa using az.out))
                         go_wp2
                         go_roundw
                         case rel=>exact⟨k+1,T2,hlt,by go_num,ae.out,HI.out,HT.out,B6.out⟩
                         case measure=>simp[intOf];omega)
                · obtain rfl:k=pl:=by omega
                  rw[aI (by have:=dh.out;omega)]at bO
                  go_wp2_with fail
                  go_loopw [131] (fun i wr=>∃(q:Nat) (T2:List (Int×Int)),q≤cl∧i=.int .i64 q∧(x.code.take q).foldlM (mA np ar ce) T1=some T2∧IMap wr bm (encT T2)∧Turn [bm] wc wr∧Box wr b6 #[.slice bg k be,.slice bh cl bf,.int .i64 x.term.op,.int .i64 x.term.val,.slice bd x.term.to.length ba,.int .i64 x.term.n]) (fun i _=>cl - (intOf i).toNat)
                  case atStart=>exact⟨0,T1,aL _,rfl,rfl,HI.out,HT.out,B6.out⟩
                  case round=>
                    obtain⟨q,T2,hq,rfl,dk,hI,hT,bn⟩:=hrel;clear ah aj ai ak an am;have ch:=h! dk;replace HI:=h! hI;replace HT:=h! hT;replace B6:=h! bn;replace HW:=h! (ad _ hT).1;replace BC:Hid (Box wr bc #[.slice ap np cp,.int .i64 ar,.int .i64 ce,.slice (some ⟨bb,bo,none⟩) nb cb,.map (some bm)]):=h! (ad _ hT).2;clear dk hI hT bn;generalize wr=w9 at*;obtain⟨ah,aj,ai⟩:=BC.out;obtain⟨ak,an,am⟩:=B6.out;by_cases hltq:q<cl
                    · have hne:0<cl:=by omega
                      obtain⟨rfl,cB⟩:=dg.out hne
                      obtain⟨y,cG⟩:∃y,x.code[q]? =some y:=⟨_,aA (by have:=dy.out;omega)⟩
                      obtain⟨aa,ca,hP⟩:=dc.out q y cG
                      have ae:=h! (uL (mA np ar ce) x.code T1 T2 q y cG ch.out)
                      obtain⟨m0,m1,m2,m3,r1,r2,r3,r4⟩:=hP.below HW.out cB
                      clear r1 r2 r3 r4 hP cG
                      go_upto_region 24 with(fail)
                      have ao:w9.heap.size≠bc:=fun e=>by have:=ah;omega
                      have bl:bc≠w9.heap.size:=fun e=>ao e.symm
                      have aq:w9.heap.size≠b6:=fun e=>by have:=ak;omega
                      have bt:b6≠w9.heap.size:=fun e=>aq e.symm
                      clear ah aj ai ak an am
                      have ag:=(Below.refl w9.heap.size w9).alloc (aC _) (.cells #[.int .i64 y.op,.int .i64 y.id,.slice aa y.args.length ca,.int .i64 y.n] 82)
                      replace BC:=h! (BC.later ag)
                      replace B6:=h! (B6.later ag)
                      replace HI:=h! (HI.later ag)
                      replace HT:=h! (HT.later ag)
                      replace HW:=w! HW ag
                      clear ag
                      have B8:=h! (Box.new w9 #[.int .i64 y.op,.int .i64 y.id,.slice aa y.args.length ca,.int .i64 y.n] 82)
                      generalize w9.alloc (.cells #[.int .i64 y.op,.int .i64 y.id,.slice aa y.args.length ca,.int .i64 y.n] 82)=w8 at*
                      obtain⟨ah,aj,ai⟩:=BC.out
                      obtain⟨ak,an,am⟩:=B6.out
                      obtain⟨cj,cx,cs⟩:=B8.out
                      clear m0 m1 m2 m3
                      have al:=h! (aGW (x:=y) (aa:=aa) (ca:=ca) (ap:=ap) (np:=np) (cp:=cp) er.out fc.out BC.out HI.out)
                      cases hph:mA np ar ce T2 y with
                      | none=>
                        rw[hph]at al ae
                        clear hph
                        go_wp2_with fail
                        refine al.mono ?_
                        rintro e w3 ⟨rfl,h3,t3⟩
                        have T3:=h! t3
                        clear h3 t3
                        go_wp2
                        go_ret
                        exact kB.no (cd (aBP bO.out (qD _ _ _ (q+1) ae.out))) (HT.trans T3.out)
                      | some T4=>
                        rw[hph]at al ae
                        clear hph
                        go_wp2_with fail
                        refine al.mono ?_
                        rintro e w3 ⟨rfl,h3,t3⟩
                        have T3:=h! t3
                        replace HI:=h! (h3 T4 rfl)
                        clear h3 t3
                        clear ah aj ai ak an am cj cx cs
                        replace HT:=h! (HT.trans T3.out)
                        replace HW:=h! (ad _ HT.out).1
                        replace BC:Hid (Box w3 bc #[.slice ap np cp,.int .i64 ar,.int .i64 ce,.slice (some ⟨bb,bo,none⟩) nb cb,.map (some bm)]):=h! (ad _ HT.out).2
                        replace B6:=h! (B6.turn T3.out (by simpa using az.out))
                        go_wp2
                        go_roundw
                        case rel=>exact⟨q+1,T4,hltq,by go_num,ae.out,HI.out,HT.out,B6.out⟩
                        case measure=>simp[intOf];omega
                    · obtain rfl:q=cl:=by omega
                      rw[aI (by have:=dy.out;omega)]at ch
                      have aw:=h! (eo _ _ bO.out ch.out)
                      have al:=h! (aMU (t:=x.term) (at_:=bd) (ct:=ba) (vp:=.slice ap np cp) (ab:=some ⟨bb,bo,none⟩) (nb:=nb) (cb:=cb) (ar:=ar) (ce:=ce) (bm:=bm) BC.out (cy.2.2.below HW.out))
                      cases hen:jB nb x.term
                      · rw[hen]at al aw
                        clear hen
                        go_wp2_with fail
                        refine al.mono ?_
                        rintro e w3 ⟨rfl,h3⟩
                        have T3:=h! (HT.later h3)
                        clear h3
                        go_wp2
                        go_ret
                        exact kB.no (cd (by rw[aw.out];rfl)) T3.out
                      · rw[hen]at al aw
                        clear hen
                        go_wp2_with fail
                        refine al.mono ?_
                        rintro e w3 ⟨rfl,h3⟩
                        have T3:=h! (HT.later h3)
                        replace HI:=h! (HI.later h3)
                        clear ah aj ai ak an am
                        clear h3
                        go_wp2
                        go_roundw
                        case rel=>exact⟨_,T2,hltb,by first|go_num|rfl,by rw[dn.out,aw.out];rfl,HI.out,T3.out⟩
                        case measure=>simp[intOf];omega
        · obtain rfl:j=nb:=by omega
          rw[aI (by rw[eQ];have:=ck.out;omega)]at cr
          go_wp2
          go_ret
          exact kB.yes (by rw[HR.out,cr.out]) HI.out HT.out
end Go.Proofs.YtagabiidbbhhmaaGreat
