/- Part 15. -/
import Derived.Test.YtagabiidbbhhmaaGreatET14
namespace Go.Proofs.YtagabiidbbhhmaaGreat
set_option linter.all false
set_option maxRecDepth 100000
open Go.RowKit
set_option maxHeartbeats 12800000 in
theorem tS{w:World}{f:FuncD}{ap ab:Option Addr}{np cp nb cb:Nat}{ar ce:Int}{r:Bool}(hnp:np=f.params.length)(hnb:nb=f.blocks.length)(har:ar=f.arrays)(hce:ce=f.cells)(hp:Ints w (.slice ap np cp) f.params)(hB:fV iI 6 w (.slice ab nb cb) f.blocks)(ha64:In64 f.arrays)(hc64:In64 f.cells)
    (h1:np≤16) (h2:0≤ar∧ar≤8) (h3:0≤ce∧ce≤64) (h4:1≤nb∧nb≤512) (h5:mE f≤4096) (hr:r=(f.params.all mP&&f.blocks.zipIdx.all (gV nb ar ce))):
    Calls Tryz.prog 69 #[.agg #[.slice ap np cp,.int .i64 ar,.int .i64 ce,.slice ab nb cb]] w fun e w'=>e=.returned (.bool r)∧Below w.heap.size w w':=by
  have HV:Hid (gS w (.agg #[.slice ap np cp,.int .i64 ar,.int .i64 ce,.slice ab nb cb]) f):=h! ⟨_,_,by rw[har,hce],by rw[hnp]at hp;rw[hnp];exact hp,ha64,hc64,hB⟩;have HR:=h! hr;have df:=h! hnp;have cd:=h! hnb;obtain⟨a1,c1,pb,po,di,dr,hpm,cL,cz⟩:=hp.parts;rw[← hnp]at di dr cL cz
  cases di;obtain⟨a2,c2,bb,bo,de,ec,hbm,ee,cy,dg⟩:=fW hB;rw[← hnb]at de ec cy
  cases de;obtain⟨rfl,bz⟩:=cy (by omega);have ds:=h! cL;have ea:=h! cz;have dz:=h! bz;have dt:=h! dg;have dy:=h! h2;have ed:=h! h3;have dn:=h! h4.2;have cM:=h! h1;have g1:decide (16<(np:Int))=false:=by simp;omega
  have g2:decide (ar<0)=false:=by simp;omega
  have g3:decide (8<ar)=false:=by simp;omega
  have g4:decide (ce<0)=false:=by simp;omega
  have g5:decide (64<ce)=false:=by simp;omega
  have g6:decide ((nb:Int)<1)=false:=by simp;omega
  have g7:decide (512<(nb:Int))=false:=by simp;omega
  have g8:decide (4096<mE f)=false:=by simp;omega
  clear hr hnp hnb har hce hp hB ha64 hc64 cL cz bz cy dg h1 h2 h3 h4 h5 ee;go_enter Tryz.func69,Tryz.ntmps69;go_upto_region 1 with(fail);have bg:=(Below.refl w.heap.size w).alloc (aC _) (.cells #[.slice ap np cp,.int .i64 ar,.int .i64 ce,.slice (some ⟨bb,bo,none⟩) nb cb] 25);have HW:=h! bg;clear bg;have B1:=h! (Box.new w #[.slice ap np cp,.int .i64 ar,.int .i64 ce,.slice (some ⟨bb,bo,none⟩) nb cb] 25);generalize w.alloc (.cells #[.slice ap np cp,.int .i64 ar,.int .i64 ce,.slice (some ⟨bb,bo,none⟩) nb cb] 25)=wv at*;obtain⟨ad,ae,ag⟩:=B1.out;go_wp2_with fail;refine(aF4 (HV.below HW.out) (by rw[← cd.out];exact dn)).mono ?_;rintro e w1 ⟨rfl,cn⟩;clear ad ae ag;replace B1:=h! (B1.later cn);replace HW:=w! HW cn;clear cn;obtain⟨ad,ae,ag⟩:=B1.out;go_upto_region 3 with(fail);clear g1 g2 g3 g4 g5 g6 g7 g8;have hnp16:=cM.out;have hnb16:=dn.out;go_wp2_with fail;go_loopw [3] (fun i wr=>∃j:Nat,j≤np∧i=.int .i64 j∧(f.params.take j).all mP=true∧Below w.heap.size w wr∧Box wr w.heap.size #[.slice ap np cp,.int .i64 ar,.int .i64 ce,.slice (some ⟨bb,bo,none⟩) nb cb]) (fun i _=>np - (intOf i).toNat)
  case atStart=>exact⟨0,aL _,rfl,rfl,HW.out,B1.out⟩
  case round=>
    obtain⟨j,hj,rfl,bp,hW,ah⟩:=hrel;clear ad ae ag;have an:=h! bp;replace HW:=h! hW;replace B1:=h! ah;clear bp hW ah;obtain⟨ad,ae,ag⟩:=B1.out;by_cases hlt:j<np
    · obtain⟨rfl,ax⟩:=ds.out (by omega)
      have hx0:=(HW.cell ax).trans (ea j hlt)
      have ao:=gF f.params j (by have:=df.out;omega)
      have ci:=h! (fR f.params j _ ao)
      have HM:=h! (aG ao)
      clear ao
      generalize f.params.getD j 0=t at*
      cases ht1:(t != 1)<;>cases ht2:(t != 2)
      all_goals
        have dj:=h! ht1;have dh:=h! ht2;go_wp2;first
          | (go_ret
             have hno:mP t=false:=by unfold mP;have e1:=dj.out;have e2:=dh.out;simp at e1 e2⊢;exact⟨e1,e2⟩
             exact⟨by rw[HR.out,show f.params.all mP=false by(rw[cW];exact⟨t,HM.out,by rw[hno];simp⟩)];rfl,HW.out⟩)
          | (go_roundw
             case rel=>exact⟨j+1,hlt,by go_num,by rw[ci.out,dO,an.out];unfold mP;have e1:=dj.out;have e2:=dh.out;simp at e1 e2⊢;first|exact .inl e1|exact .inr e2|(exact .inl (by omega)),HW.out,B1.out⟩
             case measure=>simp[intOf];omega)
    · obtain rfl:j=np:=by omega
      rw[aI (by have:=df.out;omega)]at an
      replace HR:Hid (r=f.blocks.zipIdx.all (gV nb ar ce)):=h! (by rw[HR.out,an.out];rfl)
      go_wp2_with fail
      obtain⟨np,hnp⟩:∃np,np=j:=⟨_,rfl⟩
      obtain rfl:=hnp
      go_loopw [4] (fun i wr=>∃j:Nat,j≤nb∧i=.int .i64 j∧(f.blocks.zipIdx.take j).all (gV nb ar ce)=true∧Below w.heap.size w wr∧Box wr w.heap.size #[.slice ap np cp,.int .i64 ar,.int .i64 ce,.slice (some ⟨bb,bo,none⟩) nb cb]) (fun i _=>nb - (intOf i).toNat)
      case atStart=>exact⟨0,aL _,rfl,rfl,HW.out,B1.out⟩
      case round=>
        obtain⟨j,hj,rfl,bp,hW,ah⟩:=hrel;clear ad ae ag;replace an:=h! bp;replace HW:=h! hW;replace B1:=h! ah;clear bp hW ah;generalize wr=wb at*;obtain⟨ad,ae,ag⟩:=B1.out;by_cases hltb:j<nb
        · have bz:=dz.out
          obtain⟨x,ao⟩:∃x,f.blocks[j]? =some x:=⟨_,aA (by have:=cd.out;omega)⟩
          obtain⟨be,bf,ba,bc,bd,az,hC⟩:=dt.out j x ao
          have dd:f.blocks.zipIdx[j]? =some (x,j):=by simp[dG,ao]
          have ci:=h! (fR f.blocks.zipIdx j _ dd)
          have bw:Hid (gV nb ar ce (x,j)=false→r=false):=h! (fun h=>by rw[HR.out,cW];exact⟨_,aG dd,by rw[h];simp⟩)
          have cq:Hid (fV PhiR 4 w (.slice be x.phis.length bc) x.phis∧fV jD 4 w (.slice bf x.code.length bd) x.code∧Ints w (.slice ba x.term.to.length az) x.term.to):=h! ⟨hC.phis,hC.code,hC.to⟩
          obtain⟨k0,k1,k2,k3,k4,k5,q1,q2,q3,q4,q5,q6⟩:=hC.below HW.out bz
          clear q1 q2 q3 q4 q5 q6 hC ao dd
          obtain⟨pl,ck⟩:∃pl,pl=x.phis.length:=⟨_,rfl⟩
          obtain⟨cl,cr⟩:∃cl,cl=x.code.length:=⟨_,rfl⟩
          obtain⟨ac,capc,bcd,ocd,bm,dv,hcm,bs,cg,dp⟩:=gU cq.2.1
          obtain⟨apx,capp,bph,oph,bl,bO,hppm,bj,am,bq⟩:=gL cq.1
          rw[← ck]at bl bO bj am k0
          rw[← cr]at bm dv bs cg k1
          cases bl
          cases bm
          have bt:=h! ck
          have dl:=h! cr
          have cj:=h! am
          have cm:=h! bq
          have db:=h! cg
          have cB:=h! dp
          clear ck cr am bq cg dp
          go_upto_region 12 with(fail)
          have bn:wb.heap.size≠w.heap.size:=fun e=>by have:=ad;omega
          have nB1B5:w.heap.size≠wb.heap.size:=fun e=>bn e.symm
          clear ad ae ag
          have bg:=(Below.refl wb.heap.size wb).alloc (aC _) (.cells #[.slice be pl bc,.slice bf cl bd,.int .i64 x.term.op,.int .i64 x.term.val,.slice ba x.term.to.length az,.int .i64 x.term.n] 63)
          replace B1:=h! (B1.later bg)
          replace HW:=w! HW bg
          clear bg
          have B5:=h! (Box.new wb #[.slice be pl bc,.slice bf cl bd,.int .i64 x.term.op,.int .i64 x.term.val,.slice ba x.term.to.length az,.int .i64 x.term.n] 63)
          generalize wb.alloc (.cells #[.slice be pl bc,.slice bf cl bd,.int .i64 x.term.op,.int .i64 x.term.val,.slice ba x.term.to.length az,.int .i64 x.term.n] 63)=w5 at*
          obtain⟨ad,ae,ag⟩:=B1.out
          obtain⟨ai,ak,aj⟩:=B5.out
          clear k0 k1 k2 k3 k4 k5
          go_wp2_with fail
          go_loopw [6] (fun i wr=>∃k:Nat,k≤pl∧(k=0∨j≠0)∧i=.int .i64 k∧(x.phis.take k).all (jR nb)=true∧Below w.heap.size w wr∧Box wr w.heap.size #[.slice ap np cp,.int .i64 ar,.int .i64 ce,.slice (some ⟨bb,bo,none⟩) nb cb]∧Box wr wb.heap.size #[.slice be pl bc,.slice bf cl bd,.int .i64 x.term.op,.int .i64 x.term.val,.slice ba x.term.to.length az,.int .i64 x.term.n]) (fun i _=>pl - (intOf i).toNat)
          case atStart=>exact⟨0,aL _,.inl rfl,rfl,rfl,HW.out,B1.out,B5.out⟩
          case round=>
            obtain⟨k,hk,dq,rfl,bk,hW,ah,br⟩:=hrel;clear ad ae ag ai ak aj;have eb:=h! dq;have ay:=h! bk;replace HW:=h! hW;replace B1:=h! ah;replace B5:=h! br;clear bk hW ah br dq;generalize wr=w7 at*;obtain⟨ad,ae,ag⟩:=B1.out;obtain⟨ai,ak,aj⟩:=B5.out;by_cases hlt:k<pl
            · cases hj0:((j:Int) == 0)
              · obtain⟨rfl,ax⟩:=cj.out (by omega)
                obtain⟨p,bx⟩:∃p,x.phis[k]? =some p:=⟨_,aA (by have:=bt.out;omega)⟩
                obtain⟨af,av,cf,cv,hP⟩:=cm.out k p bx
                have cw:=h! (fR x.phis k p bx)
                have dx:=h! (aG bx)
                have HP:=h! hP
                have cc:=h! hj0
                clear hP bx
                have al:Hid (∀wg,Below w7.heap.size w7 wg→Calls Tryz.prog 124 #[.agg #[.slice ap np cp,.int .i64 ar,.int .i64 ce,.slice (some ⟨bb,bo,none⟩) nb cb],.agg #[.int .i64 p.id,.int .i64 p.typ,.slice af p.src.length cf,.slice av p.vals.length cv]] wg fun e w'=>e=.returned (.bool (jR nb p))∧Below wg.heap.size wg w'):=
                  h! (fun wg hbg=>aLZ (x:=p) (HP.src.below (w! HW hbg)))
                generalize hpo:jR nb p=aw at al
                have dm:=h! hpo
                clear hpo
                go_upto_region 15 with(fail)
                refine wp_region_grow 12 (fun kz=>match kz with|9=>.const (.bool aw)|_=>.plain) (by kernel_rfl) (by kernel_rfl) ?_ (fun ν=> ?_)
                · (intro k;(try dsimp only);split<;>first|exact True.intro|(intro u w1 w2 hu hb;exact hu.below hb))
                simp only[aP,aU,aR,aV]
                iterate 9 (refine Grow.val (v:= ?_) rfl rfl (fun wg hbg hdg=> ?_) ?_;rotate_left;(focus((obtain⟨da,cx,dc⟩:=B1.later hbg);(obtain⟨co,cs,ch⟩:=B5.later hbg);(obtain⟨m0,m1,m2,m3,r1,r2,r3,r4⟩:=HP.below (w! HW hbg) ax;clear r1 r2 r3 r4);clear hbg hdg;first|(go_simp;done)|(go_simp;with_reducible rfl)));simp only[Act.put,aB,aE,aF])
                refine Grow.call (f:= ?_) (args:= ?_) rfl (fun wg=> ?_) (fun wg hbg hdg=> ?_) ?_
                rotate_left 2
                focus(first|(go_simp;done)|(go_simp;refine And.intro ?_ ?_<;>with_reducible rfl)|(go_simp;with_reducible rfl))
                focus exact Calls.mono (al wg hbg) (fun e w2 ⟨he,hb2⟩=>⟨_,he,rfl,hb2⟩)
                simp only[Act.put,Known.val,aB,aE,aF]
                iterate 2 (refine Grow.val (v:= ?_) rfl rfl (fun wg hbg hdg=> ?_) ?_;rotate_left;(focus((obtain⟨da,cx,dc⟩:=B1.later hbg);(obtain⟨co,cs,ch⟩:=B5.later hbg);(obtain⟨m0,m1,m2,m3,r1,r2,r3,r4⟩:=HP.below (w! HW hbg) ax;clear r1 r2 r3 r4);clear hbg hdg;first|(go_simp;done)|(go_simp;with_reducible rfl)));simp only[Act.put,aB,aE,aF])
                intro wg hb hf cG
                clear cG
                clear ad ae ag ai ak aj
                replace B1:=h! (B1.later hb)
                replace B5:=h! (B5.later hb)
                replace HW:=w! HW hb
                clear hb
                obtain⟨ad,ae,ag⟩:=B1.out
                obtain⟨ai,ak,aj⟩:=B5.out
                clear hf
                cases aw
                · go_wp2
                  go_ret
                  exact⟨by rw[bw (by unfold gV;rw[show x.phis.all (jR nb)=false by(rw[cW];exact⟨p,dx.out,by rw[dm.out];simp⟩)];simp)];rfl,HW.out⟩
                · go_wp2
                  go_roundw
                  case rel=>exact⟨k+1,hlt,.inr (by have:=cc.out;simp at this;omega),by go_num,by rw[cw.out,dO,ay.out];simp[dm.out],HW.out,B1.out,B5.out⟩
                  case measure=>simp[intOf];omega
              · have cc:=h! hj0
                go_upto_region 15 with(fail)
                go_quiet (fail)
                go_wp2
                go_ret
                exact⟨by rw[bw (by unfold gV;have h1:=cc.out;have h2:=bt.out;simp at h1;simp[h1];intro h3;rw[h3]at h2;simp at h2;omega)];rfl,fS HW.out _⟩
            · obtain rfl:k=pl:=by omega
              rw[aI (by have:=bt.out;omega)]at ay
              have bh:Hid (gV nb ar ce (x,j)=(x.code.all (gR ar ce)&&jB nb x.term)):=h! (by
                have h1:=eb.out;have h2:=bt.out;unfold gV;rw[ay.out];have h3:(!(decide (j=0)&&decide (0<x.phis.length)))=true:=by
                  rcases h1 with h|h
                  · rw[show x.phis.length=0 by omega];simp
                  · simp[h]
                rw[h3];simp)
              go_wp2_with fail
              go_loopw [7] (fun i wr=>∃q:Nat,q≤cl∧i=.int .i64 q∧(x.code.take q).all (gR ar ce)=true∧Below w.heap.size w wr∧Box wr w.heap.size #[.slice ap np cp,.int .i64 ar,.int .i64 ce,.slice (some ⟨bb,bo,none⟩) nb cb]∧Box wr wb.heap.size #[.slice be k bc,.slice bf cl bd,.int .i64 x.term.op,.int .i64 x.term.val,.slice ba x.term.to.length az,.int .i64 x.term.n]) (fun i _=>cl - (intOf i).toNat)
              case atStart=>exact⟨0,aL _,rfl,rfl,HW.out,B1.out,B5.out⟩
              case round=>
                obtain⟨q,hq,rfl,bi,hW,ah,br⟩:=hrel;clear ad ae ag ai ak aj;have aq:=h! bi;replace HW:=h! hW;replace B1:=h! ah;replace B5:=h! br;clear bi hW ah br;generalize wr=w9 at*;obtain⟨ad,ae,ag⟩:=B1.out;obtain⟨ai,ak,aj⟩:=B5.out;by_cases hltq:q<cl
                · obtain⟨rfl,ax⟩:=db.out (by omega)
                  obtain⟨y,bv⟩:∃y,x.code[q]? =some y:=⟨_,aA (by have:=dl.out;omega)⟩
                  obtain⟨aa,ca,hP⟩:=cB.out q y bv
                  have cF:=h! (fR x.code q y bv)
                  have dw:=h! (aG bv)
                  have HP:=h! hP
                  clear hP bv
                  have al:Hid (∀wg,Below w9.heap.size w9 wg→Calls Tryz.prog 125 #[.agg #[.slice ap np cp,.int .i64 ar,.int .i64 ce,.slice (some ⟨bb,bo,none⟩) nb cb],.agg #[.int .i64 y.op,.int .i64 y.id,.slice aa y.args.length ca,.int .i64 y.n]] wg fun e w'=>e=.returned (.bool (gR ar ce y))∧Below wg.heap.size wg w'):=
                    h! (fun wg hbg=>aID (x:=y) dy.out ed.out)
                  generalize hio:gR ar ce y=aw at al
                  have dk:=h! hio
                  clear hio
                  go_upto_region 20 with(fail)
                  refine wp_region_grow 8 (fun kz=>match kz with|6=>.const (.bool aw)|_=>.plain) (by kernel_rfl) (by kernel_rfl) ?_ (fun ν=> ?_)
                  · (intro k;(try dsimp only);split<;>first|exact True.intro|(intro u w1 w2 hu hb;exact hu.below hb))
                  simp only[aP,aU,aR,aV]
                  iterate 6 (refine Grow.val (v:= ?_) rfl rfl (fun wg hbg hdg=> ?_) ?_;rotate_left;(focus((obtain⟨da,cx,dc⟩:=B1.later hbg);(obtain⟨co,cs,ch⟩:=B5.later hbg);(obtain⟨m0,m1,m2,m3,r1,r2,r3,r4⟩:=HP.below (w! HW hbg) ax;clear r1 r2 r3 r4);clear hbg hdg;first|(go_simp;done)|(go_simp;with_reducible rfl)));simp only[Act.put,aB,aE,aF])
                  refine Grow.call (f:= ?_) (args:= ?_) rfl (fun wg=> ?_) (fun wg hbg hdg=> ?_) ?_
                  rotate_left 2
                  focus(first|(go_simp;done)|(go_simp;refine And.intro ?_ ?_<;>with_reducible rfl)|(go_simp;with_reducible rfl))
                  focus exact Calls.mono (al wg hbg) (fun e w2 ⟨he,hb2⟩=>⟨_,he,rfl,hb2⟩)
                  simp only[Act.put,Known.val,aB,aE,aF]
                  refine Grow.val (v:= ?_) rfl rfl (fun wg hbg hdg=> ?_) ?_
                  rotate_left
                  focus((obtain⟨da,cx,dc⟩:=B1.later hbg);(obtain⟨co,cs,ch⟩:=B5.later hbg);(obtain⟨m0,m1,m2,m3,r1,r2,r3,r4⟩:=HP.below (w! HW hbg) ax;clear r1 r2 r3 r4);clear hbg hdg;first|(go_simp;done)|(go_simp;with_reducible rfl))
                  simp only[Act.put,aB,aE,aF]
                  intro wg hb hf cG
                  clear cG
                  clear ad ae ag ai ak aj
                  replace B1:=h! (B1.later hb)
                  replace B5:=h! (B5.later hb)
                  replace HW:=w! HW hb
                  clear hb
                  obtain⟨ad,ae,ag⟩:=B1.out
                  obtain⟨ai,ak,aj⟩:=B5.out
                  clear hf
                  cases aw
                  · go_wp2
                    go_ret
                    exact⟨by rw[bw (by rw[bh.out,show x.code.all (gR ar ce)=false by(rw[cW];exact⟨y,dw.out,by rw[dk.out];simp⟩)];rfl)];rfl,HW.out⟩
                  · go_wp2
                    go_roundw
                    case rel=>exact⟨q+1,hltq,by go_num,by rw[cF.out,dO,aq.out];simp[dk.out],HW.out,B1.out,B5.out⟩
                    case measure=>simp[intOf];omega
                · obtain rfl:q=cl:=by omega
                  rw[aI (by have:=dl.out;omega)]at aq
                  rw[aq.out,bY]at bh
                  have al:=h! (aLY (t:=x.term) (at_:=ba) (ct:=az) (ap:=ap) (np:=np) (cp:=cp) (ab:=some ⟨bb,bo,none⟩) (nb:=nb) (cb:=cb) (ar:=ar) (ce:=ce) (cq.2.2.below HW.out))
                  generalize hen:jB nb x.term=aw at al
                  rw[hen]at bh
                  clear hen
                  go_wp2_with fail
                  refine al.mono ?_
                  rintro e w3 ⟨rfl,h3⟩
                  clear ad ae ag ai ak aj
                  replace B1:=h! (B1.later h3)
                  replace B5:=h! (B5.later h3)
                  replace HW:=w! HW h3
                  clear h3
                  obtain⟨ad,ae,ag⟩:=B1.out
                  obtain⟨ai,ak,aj⟩:=B5.out
                  cases aw
                  · go_wp2
                    go_ret
                    exact⟨by rw[bw bh.out];rfl,HW.out⟩
                  · go_wp2
                    go_roundw
                    case rel=>exact⟨j+1,hltb,by go_num,by rw[ci.out,dO,an.out];simp[bh.out],HW.out,B1.out⟩
                    case measure=>simp[intOf];omega
        · obtain rfl:j=nb:=by omega
          rw[aI (by rw[eQ];have:=cd.out;omega)]at an
          go_wp2
          go_ret
          exact⟨by rw[HR.out,an.out];rfl,HW.out⟩
end Go.Proofs.YtagabiidbbhhmaaGreat
