/- Part 42. -/
import Derived.Test.YtagabiidbbhhmaaGreatET40
import Derived.Test.YtagabiidbbhhmaaGreatET41
namespace Go.Proofs.YtagabiidbbhhmaaGreat
set_option maxHeartbeats 25600000
set_option linter.all false
set_option maxRecDepth 100000
open Go.RowKit
private theorem iG.alloc{w0 W:World}(h:iG w0 W)(o:Obj):iG w0 (W.alloc o):=h.later ((Below.refl _ _).alloc (aC _) o)
def aLD(f:FuncD)(v:Value)(w:World)(e:Ending)(w':World):Prop:=
 Below w.heap.size w w'/\((fO f≠0/\e=.returned (.tuple #[.pointer none,.int .i64 0,.int .i64 (fO f)]))\/
  (fO f=0/\∃b k:Int,gE f b k/\k≠0/\e=.returned (.tuple #[.pointer none,.int .i64 b,.int .i64 k]))\/
  (fO f=0/\gE f 0 0/\∃(bs bt bg lg lcap bm tm:Nat) (g:Array Value) (pv ov lv:Value) (O:List Nat) (I:Nat->Option Nat),e=.returned (.tuple #[.pointer (some ⟨bs,0,none⟩),.int .i64 0,.int .i64 0])/\v=.agg g/\fQ f O/\DomI f O I/\
   StrM f w' bs bt bg lg lcap bm g pv ov lv (.map (some tm)) O I/\IMap w' tm (encT (fX f))))
theorem yT{α:Type}{x:α}:∀{xs:List α},x∈xs->∃k,xs[k]? =some x/\x∉xs.take k
 | y :: xs,h=>by
  by_cases e:y=x
  ·exact⟨0,by rw[e];rfl,by simp⟩
  rcases bZ.1 h with h|h
  ·exact absurd h.symm e
  obtain⟨k,h1,h2⟩:=yT h;refine⟨k+1,by simpa using h1, ?_⟩;rw[aP,bZ];rintro(h3|h3)
  ·exact e h3.symm
  exact h2 h3
theorem vK{α:Type}{P:α->Prop}:∀{xs:List α},(¬∀x∈xs,P x)->∃i u,xs[i]? =some u/\¬P u/\∀v∈xs.take i,P v
 | [],h=>absurd (by simp) h
 | y :: xs,h=>by
  by_cases e:P y
  ·obtain⟨i,u,h1,h2,h3⟩:=vK (xs:=xs) (P:=P) (fun h2=>h fun x hx=>by
    rcases bZ.1 hx with rfl|hx
    ·exact e
    ·exact h2 x hx)
   refine⟨i+1,u,by simpa using h1,h2,fun v hv=> ?_⟩;rw[aP,bZ]at hv;rcases hv with rfl|hv
   ·exact e
   ·exact h3 v hv
  exact⟨0,y,rfl,e,by simp⟩
theorem aA1{f:FuncD}{O:List Nat}(hO:fQ f O)(h:(-1:Int)∈jG f.blocks.length O O.length):∃c:Nat,c<f.blocks.length/\¬Way (toB f) (-1) c/\(∀d,d<c->Way (toB f) (-1) d)/\idxI (jG f.blocks.length O O.length) (-1)=c:=by
 obtain⟨k,h1,h2⟩:=yT h;have hk:=(aD.1 h1).1;rw[gP]at hk;refine⟨k,hk,fun hw=> ?_,fun d hd=> ?_,aD7 h1 h2⟩
 ·have:=rO (O:=O) hk ((hO.facts.2.1 k).2 hw);rw[h1]at this;injection this with this;omega
 refine Classical.byContradiction fun hno=>h2 ?_;have h3:=vQ (O:=O) (by omega:d<f.blocks.length) (fun hm=>hno ((hO.facts.2.1 d).1 hm));refine aG (i:=d) ?_;rw[bF,if_pos hd];exact h3
theorem aI9{x:BlockD}{k:Nat}{u:UseD}(hu:u∈uxB (x,k)):u.blk=(k:Int):=by
 unfold uxB at hu;rw[cD]at hu;rcases aJ.1 hu with hu|hu
 ·rw[bC]at hu;obtain⟨p,hp,hu⟩:=hu;unfold uxP at hu;rw[aN]at hu;obtain⟨vs,hvs,rfl⟩:=hu;rfl
 rcases aJ.1 hu with hu|hu
 ·rw[bC]at hu;obtain⟨yk,hy,hu⟩:=hu;unfold uxI at hu;rw[aN]at hu;obtain⟨a,ha,rfl⟩:=hu;rfl
 unfold uxT at hu;split at hu
 ·simp at hu;subst hu;rfl
 split at hu
 ·simp at hu;subst hu;rfl
 simp at hu
theorem aDT{f:FuncD}{k:Nat}{x:BlockD}(hx:f.blocks[k]? =some x)(hok:∀(d:Nat) (y:BlockD),d<k->f.blocks[d]? =some y->∀u∈uxB (y,d),iZ f u)(hno:¬∀u∈uxB (x,k),iZ f u):
  ∃(i:Nat) (u:UseD),(uxF f)[i]? =some u/\¬iZ f u/\(∀v∈(uxF f).take i,iZ f v)/\(k:Int)=u.blk/\(6:Int)=6:=by
 obtain⟨i,u,h1,h2,h3⟩:=vK hno;have hz:f.blocks.zipIdx[k]? =some (x,k):=by rw[dG,hx];simp
 have ab:f.blocks.zipIdx=f.blocks.zipIdx.take k++(x,k) :: f.blocks.zipIdx.drop (k+1):=by have h4:=dJ k f.blocks.zipIdx;rw[List.drop_eq_getElem_cons (aD.1 hz).1,(aD.1 hz).2]at h4;exact h4.symm
 have hu:uxF f=(f.blocks.zipIdx.take k).flatMap uxB++(uxB (x,k)++(f.blocks.zipIdx.drop (k+1)).flatMap uxB):=by
  unfold uxF;conv=>lhs;rw[ab]
  rw[List.flatMap_append,cK]
 have aa:=(aD.1 h1).1;refine⟨((f.blocks.zipIdx.take k).flatMap uxB).length+i,u, ?_,h2,fun v hv=> ?_,(aI9 (aG h1)).symm,rfl⟩
 ·rw[hu,cU (by omega),Nat.add_sub_cancel_left,dT aa];exact h1
 ·rw[hu,List.take_length_add_append,aJ]at hv;rcases hv with hv|hv
  ·rw[bC]at hv;obtain⟨⟨y,d⟩,hy,hv⟩:=hv;obtain⟨q,hq⟩:=bS.1 hy;rw[bF]at hq;split at hq
   ·rename_i hqk;rw[dG]at hq
    cases hb:f.blocks[q]? with
    | none=>rw[hb]at hq;cases hq
    | some z=>
     rw[hb]at hq
     simp at hq
     obtain⟨rfl,rfl⟩:=hq
     exact hok q z hqk hb v hv
   cases hq
  rw[List.take_append_of_le_length (by omega)]at hv;exact h3 v hv
theorem aLE{w:World}{v:Value}{f:FuncD}(hv:gS w v f):Calls Tryz.prog 47 #[v] w (aLD f v w):=by
 have HV:=h! hv;obtain⟨ap,cp,ab,cb,rfl,hp,ha,hc,hB⟩:=hv.form;obtain⟨np,bb⟩:∃np,np=f.params.length:=⟨_,rfl⟩;obtain⟨ar,bd⟩:∃ar,ar=f.arrays:=⟨_,rfl⟩;obtain⟨ce,az⟩:∃ce,ce=f.cells:=⟨_,rfl⟩;obtain⟨nb,an⟩:∃nb,nb=f.blocks.length:=⟨_,rfl⟩;have ak:=h! an;have bz:=hB.le;rw[<-an]at bz;rw[<-an,<-bb,<-bd,<-az]at HV;rw[<-an]at hB;rw[<-an,<-bb,<-bd,<-az];have bl:=h! hB;clear hp ha hc hB hv bb bd az an;go_enter Tryz.func47,Tryz.ntmps47;go_upto_region 1 with(fail);have ai:=(Below.refl w.heap.size w).alloc (aC _) (.cells #[.slice ap np cp,.int .i64 ar,.int .i64 ce,.slice ab nb cb] 25);have HW:=h! ai;clear ai;have B1:=h! (Box.new w #[.slice ap np cp,.int .i64 ar,.int .i64 ce,.slice ab nb cb] 25);generalize w.alloc (.cells #[.slice ap np cp,.int .i64 ar,.int .i64 ce,.slice ab nb cb] 25)=wv at*;obtain⟨aa,ac,ad⟩:=B1.out;go_wp2_with fail;refine(aJQ (HV.below HW.out)).mono ?_;rintro e w2 ⟨hb,⟨ao,rfl⟩|⟨ao,bt,bg,lg,ag,g,pv,ov,lv,O,I,rfl,bn,hO,hT,hD⟩⟩
 ·have be:(fO f != 0)=true:=by simpa using ao
  have ah:=h! ao;clear ao;clear aa ac ad;replace B1:=h! (B1.later hb);replace HW:=w! HW hb;clear hb;obtain⟨aa,ac,ad⟩:=B1.out;go_wp2;go_ret3;exact⟨HW.out,.inl ⟨ah.out,rfl⟩⟩
 have ah:=h! ao;have HO:=h! hO;have HD:=h! hD;have ba:=h! bn;have HT:=h! hT;obtain⟨S2,bc⟩:∃S2,S2=w2:=⟨_,rfl⟩;rw[<-bc]at HT;have HS:Hid (iG S2 w2):=h! (by rw[bc];exact Below.refl _ _);clear hO hD hT bn ao bc;clear aa ac ad;replace B1:=h! (B1.later hb);replace HW:=w! HW hb;clear hb;obtain⟨aa,ac,ad⟩:=B1.out;go_wp2_with fail;refine(aIW (HV.below HW.out)).mono ?_;rintro e w3 ⟨hb,m,rfl,hm,-⟩;rw[ah.out];obtain⟨tm,rfl,bk,-⟩:=hm ah.out;have af:=h! bk;clear hm bk;clear aa ac ad;replace B1:=h! (B1.later hb);replace HS:=h! (HS.later hb);replace HW:=w! HW hb;clear hb;obtain⟨aa,ac,ad⟩:=B1.out;go_wp2_with fail;refine(aBX (HV.below HW.out)).mono ?_;rintro e w4 ⟨bm,rfl,bp,-,hb⟩;have ay:=h! bp;clear bp;clear aa ac ad;replace B1:=h! (B1.later hb);replace HS:=h! (HS.later hb);replace af:=h! (af.later hb);replace HW:=w! HW hb;clear hb;obtain⟨aa,ac,ad⟩:=B1.out;go_upto_region 6 with(fail);have aw:w4.heap.size≠w.heap.size:=fun e=>by have:=aa;omega
 have nB1BS:w.heap.size≠w4.heap.size:=fun e=>aw e.symm;clear aa ac ad;have ai:=(Below.refl w4.heap.size w4).alloc (aC _) (.cells #[.pointer (some ⟨bt,0,none⟩),.map (some tm),.map (some bm)] 96);replace B1:=h! (B1.later ai);replace HS:=h! (HS.later ai);replace af:=h! (af.later ai);replace ay:=h! (ay.later ai);replace HW:=w! HW ai;clear ai;have BS:=h! (Box.new w4 #[.pointer (some ⟨bt,0,none⟩),.map (some tm),.map (some bm)] 96);generalize w4.alloc (.cells #[.pointer (some ⟨bt,0,none⟩),.map (some tm),.map (some bm)] 96)=w5 at*;obtain⟨aa,ac,ad⟩:=B1.out;obtain⟨bx,bw,bv⟩:=BS.out;have ae:Hid (StrM f w5 w4.heap.size bt bg lg ag bm g pv ov lv (.map (some tm)) O I):=h! ⟨BS.out,HT.later HS.out,ay.out⟩;obtain⟨bs,bq⟩:∃bs,bs=w4.heap.size:=⟨_,rfl⟩;simp only[<-bq]at*;clear bq;obtain⟨-,-,-,-,d6⟩:=ae.t.cells;have d0:=ae.t.cells.1;go_wp2_with fail;refine(rQ (x:= -1) (ae.t.place)).mono ?_;rintro e w6 ⟨rfl,rfl⟩;clear d0 d6;have HLT:Hid (∀c,c<nb->(c∈O↔Way (toB f) (-1) c)):=h! (fun c _=>(HO.facts.2.1 c));by_cases hdead:(-1:Int)∈jG f.blocks.length O O.length
 ·obtain⟨c,bO,be,br,bi⟩:=aA1 HO.out hdead;have am:Hid (gE f c 4):=h! (.inl ⟨c,bO,be,br,rfl,rfl⟩);rw[bi];clear hdead be br bi;go_wp2;go_ret3;exact⟨HW.out,.inr (.inl ⟨ah.out,_,_,am.out,by decide,rfl⟩)⟩
 have al:Hid (∀d,d<f.blocks.length->Way (toB f) (-1) d):=h! (by intro d hd;refine Classical.byContradiction fun hno=>hdead ?_;have h1:d∉O:=fun h=>hno ((HO.facts.2.1 d).1 h);have h2:=vQ (O:=O) hd h1;exact aG h2);rw[aD8 hdead];clear hdead;go_wp2_with fail;go_loopw [49] (fun i wr=>∃j:Nat,j<=nb/\i=.int .i64 j/\(∀(d:Nat) (y:BlockD),d<j->f.blocks[d]? =some y->y.phis.all (gJ (natI (gT f f.blocks.length 0 d)))=true)/\Below w.heap.size w wr/\Box wr w.heap.size #[.slice ap np cp,.int .i64 ar,.int .i64 ce,.slice ab nb cb]/\StrM f wr bs bt bg lg ag bm g pv ov lv (.map (some tm)) O I/\IMap wr tm (encT (fX f))) (fun i _=>nb - (intOf i).toNat)
 case atStart=>exact⟨0,by omega,rfl,(fun d y hd=>by omega),HW.out,B1.out,ae.out,af.out⟩
 obtain⟨j,hj,rfl,ax,hW,aq,hS,hT⟩:=hrel;clear bx bw bv BS;clear aa ac ad;have aj:=h! ax;replace HW:=h! hW;replace B1:=h! aq;replace ae:=h! hS;replace af:=h! hT;clear hW aq hS hT HS ay ax HT;generalize wr=w7 at*;obtain⟨aa,ac,ad⟩:=B1.out;by_cases hlt:j<nb
 ·obtain⟨x,hx⟩:∃x,f.blocks[j]? =some x:=⟨_,aA (by rw[<-ak.out];exact hlt)⟩;have HX:=h! hx;have bh:=h! (fun(hS:StrM f w7 bs bt bg lg ag bm g pv ov lv (.map (some tm)) O I)=>aNG (c:=j) (x:=x) (ap:=ap) (ab:=ab) (np:=np) (cp:=cp) (cb:=cb) (ar:=ar) (ce:=ce) (w:=w7) (by rw[<-ak.out];have h9:=ba.out;injection h9 with h9;rw[h9];exact hS) (by rw[<-ak.out];exact bl.below iI.lasting HW.out) ah.out hx);clear hx;go_wp2_with fail;refine(bh ae.out).mono ?_;rintro e w8 ⟨rfl,hb⟩;obtain⟨r,hr⟩:∃r,r=x.phis.all (gJ (natI (gT f f.blocks.length 0 j))):=⟨_,rfl⟩;rw[<-hr];have HR:=h! hr;clear hr bh;clear aa ac ad;replace B1:=h! (B1.later hb);replace ae:=h! (ae.later hb);replace af:=h! (af.later hb);replace HW:=w! HW hb;clear hb;obtain⟨aa,ac,ad⟩:=B1.out
  cases r
  ·have am:Hid (gE f j 5):=h! (.inr ⟨al.out,.inl ⟨j,x,HX.out,HR.symm,aj.out,rfl,rfl⟩⟩);go_wp2;go_ret3;exact⟨HW.out,.inr (.inl ⟨ah.out,_,_,am.out,by decide,rfl⟩)⟩
  have bf:Hid (∀(d:Nat) (y:BlockD),d<j+1->f.blocks[d]? =some y->y.phis.all (gJ (natI (gT f f.blocks.length 0 d)))=true):=h! (fun d y hd hy=>by
   by_cases e:d=j
   ·subst e;have h1:=HX.out;rw[hy]at h1
    cases h1;exact HR.symm
   exact aj d y (by omega) hy)
  go_wp2;go_roundw
  case rel=>exact⟨j+1,hlt,by go_num,bf.out,HW.out,B1.out,ae.out,af.out⟩
  simp[intOf];omega
 have bj:Hid (∀(d:Nat) (y:BlockD),f.blocks[d]? =some y->y.phis.all (gJ (natI (gT f f.blocks.length 0 d)))=true):=h! (fun d y hy=>aj d y (by have:=(aD.1 hy).1;have:=ak.out;omega) hy);clear aj;go_wp2_with fail;go_loopw [61] (fun i wr=>∃j:Nat,j<=nb/\i=.int .i64 j/\(∀(d:Nat) (y:BlockD),d<j->f.blocks[d]? =some y->∀u∈uxB (y,d),iZ f u)/\Below w.heap.size w wr/\Box wr w.heap.size #[.slice ap np cp,.int .i64 ar,.int .i64 ce,.slice ab nb cb]/\StrM f wr bs bt bg lg ag bm g pv ov lv (.map (some tm)) O I/\IMap wr tm (encT (fX f))) (fun i _=>nb - (intOf i).toNat)
 case atStart=>exact⟨0,by omega,rfl,(fun d y hd=>by omega),HW.out,B1.out,ae.out,af.out⟩
 obtain⟨k,hk,rfl,ax,hW,aq,hS,hT⟩:=hrel;clear aa ac ad;have aj:=h! ax;replace HW:=h! hW;replace B1:=h! aq;replace ae:=h! hS;replace af:=h! hT;clear hW aq hS hT ax;generalize wr=w9 at*;obtain⟨aa,ac,ad⟩:=B1.out;by_cases hltk:k<nb
 ·obtain⟨x,hx⟩:∃x,f.blocks[k]? =some x:=⟨_,aA (by rw[<-ak.out];exact hltk)⟩;have HX:=h! hx;have bo:=h! (fun(hS:StrM f w9 bs bt bg lg ag bm g pv ov lv (.map (some tm)) O I)=>aND (c:=k) (x:=x) (ap:=ap) (ab:=ab) (np:=np) (cp:=cp) (cb:=cb) (ar:=ar) (ce:=ce) (w:=w9) (by rw[<-ak.out];have h9:=ba.out;injection h9 with h9;rw[h9];exact hS) (by rw[<-ak.out];exact bl.below iI.lasting HW.out) HO.out HD.out ah.out hx);clear hx;go_wp2_with fail;refine(bo ae.out).mono ?_;rintro e w10 ⟨r,rfl,hr,hb⟩;have HR:=h! hr;clear hr bo;clear aa ac ad;replace B1:=h! (B1.later hb);replace ae:=h! (ae.later hb);replace af:=h! (af.later hb);replace HW:=w! HW hb;clear hb;obtain⟨aa,ac,ad⟩:=B1.out
  cases r
  ·have am:Hid (gE f k 6):=h! (.inr ⟨al.out,.inr ⟨bj.out,.inl (aDT HX.out aj.out (fun h=>by have:=HR.2 h;cases this))⟩⟩);go_wp2;go_ret3;exact⟨HW.out,.inr (.inl ⟨ah.out,_,_,am.out,by decide,rfl⟩)⟩
  have bf:Hid (∀(d:Nat) (y:BlockD),d<k+1->f.blocks[d]? =some y->∀u∈uxB (y,d),iZ f u):=h! (fun d y hd hy=>by
   by_cases e:d=k
   ·subst e;have h1:=HX.out;rw[hy]at h1
    cases h1;exact HR.1 rfl
   exact aj d y (by omega) hy)
  go_wp2;go_roundw
  case rel=>exact⟨k+1,hltk,by go_num,bf.out,HW.out,B1.out,ae.out,af.out⟩
  simp[intOf];omega
 have am:Hid (gE f 0 0):=h! (.inr ⟨al.out,.inr ⟨bj.out,.inr ⟨fun u hu=>by unfold uxF at hu;rw[bC]at hu;obtain⟨⟨y,d⟩,hy,hu⟩:=hu;rw[bA]at hy;exact aj d y (by have:=(aD.1 hy).1;have:=ak.out;simp only at*;omega) hy u hu,rfl,rfl⟩⟩⟩);go_wp2;go_ret3;exact⟨HW.out,.inr (.inr ⟨ah.out,am.out,bs,bt,bg,lg,ag,bm,tm,g,pv,ov,lv,O,I,rfl,ba.out,HO.out,HD.out,ae.out,af.out⟩)⟩
theorem aLF{w:World}{v:Value}{f:FuncD}(hv:gS w v f):Calls Tryz.prog 36 #[v] w (aFF f w):=by
 have HV:=h! hv;obtain⟨ap,cp,ab,cb,rfl,-,-,-,-⟩:=hv.form;clear hv;go_enter Tryz.func36,Tryz.ntmps36;go_upto_region 1 with(fail);have ag:=(Below.refl w.heap.size w).alloc (aC _) (.cells #[.slice ap f.params.length cp,.int .i64 f.arrays,.int .i64 f.cells,.slice ab f.blocks.length cb] 25);have HW:=h! ag;clear ag;have B1:=h! (Box.new w #[.slice ap f.params.length cp,.int .i64 f.arrays,.int .i64 f.cells,.slice ab f.blocks.length cb] 25);generalize w.alloc (.cells #[.slice ap f.params.length cp,.int .i64 f.arrays,.int .i64 f.cells,.slice ab f.blocks.length cb] 25)=wv at*;obtain⟨ae,ac,ad⟩:=B1.out;go_wp2_with fail;refine(aLE (HV.below HW.out)).mono ?_;rintro e w2 ⟨hb,⟨aa,rfl⟩|⟨aa,b,k,hF,hk,rfl⟩|⟨aa,hF,bs,bt,bg,lg,lcap,bm,tm,g,pv,ov,lv,O,I,rfl,-⟩⟩
 ·have af:=h! aa;clear aa;clear ae ac ad;replace B1:=h! (B1.later hb);replace HW:=w! HW hb;clear hb;obtain⟨ae,ac,ad⟩:=B1.out;go_wp2;go_ret2;exact⟨_,_,rfl,(fun _=>⟨rfl,rfl⟩),(fun h=>absurd h af.out),HW.out⟩
 ·have af:=h! aa;have HF:=h! hF;clear aa hF hk;clear ae ac ad;replace B1:=h! (B1.later hb);replace HW:=w! HW hb;clear hb;obtain⟨ae,ac,ad⟩:=B1.out;go_wp2;go_ret2;exact⟨_,_,rfl,(fun h=>absurd af.out h),(fun _=>HF.out),HW.out⟩
 have af:=h! aa;have HF:=h! hF;clear aa hF;clear ae ac ad;replace B1:=h! (B1.later hb);replace HW:=w! HW hb;clear hb;obtain⟨ae,ac,ad⟩:=B1.out;go_wp2;go_ret2;exact⟨_,_,rfl,(fun h=>absurd af.out h),(fun _=>HF.out),HW.out⟩
theorem rK{P:Nat->Prop}{c d:Nat}(h1:P c)(h2:∀i,i<c->¬P i)(k1:P d)(k2:∀i,i<d->¬P i):c=d:=by
 rcases Nat.lt_trichotomy c d with h|h|h
 ·exact absurd h1 (k2 c h)
 ·exact h
 exact absurd k1 (h2 d h)
theorem vL{f:FuncD}{b k b' k':Int}(h:gE f b k)(h':gE f b' k'):b=b'/\k=k':=by
 rcases h with⟨c,hc,hn,hl,rfl,rfl⟩|⟨ae,h⟩
 ·rcases h' with⟨c',ah,aa,ac,rfl,rfl⟩|⟨ab,-⟩
  ·have:=rK (P:=fun c=>¬Way (toB f) (-1) c) hn (fun i hi h=>h (hl i hi)) aa (fun i hi h=>h (ac i hi));subst this;exact⟨rfl,rfl⟩
  exact absurd (ab c hc) hn
 rcases h' with⟨c',ah,aa,ac,rfl,rfl⟩|⟨ab,h'⟩
 ·exact absurd (ae c' ah) aa
 rcases h with⟨c,x,hx,hn,hl,rfl,rfl⟩|⟨hp,h⟩
 ·rcases h' with⟨c',x',af,aa,ac,rfl,rfl⟩|⟨ag,-⟩
  ·have:=rK (P:=fun c=>∃x,f.blocks[c]? =some x/\x.phis.all (gJ (natI (gT f f.blocks.length 0 c)))=false) ⟨x,hx,hn⟩ (fun i hi ⟨y,hy,h⟩=>by rw[hl i y hi hy]at h;cases h) ⟨x',af,aa⟩ (fun i hi ⟨y,hy,h⟩=>by rw[ac i y hi hy]at h;cases h);subst this;exact⟨rfl,rfl⟩
  have:=ag c x hx;rw[hn]at this;cases this
 rcases h' with⟨c',x',af,aa,ac,rfl,rfl⟩|⟨ag,h'⟩
 ·have:=hp c' x' af;rw[aa]at this;cases this
 rcases h with⟨i,u,hu,hn,hl,rfl,rfl⟩|⟨ha,rfl,rfl⟩
 ·rcases h' with⟨i',u',ad,aa,ac,rfl,rfl⟩|⟨ai,rfl,rfl⟩
  ·have:=rK (P:=fun i=>∃u,(uxF f)[i]? =some u/\¬iZ f u) ⟨u,hu,hn⟩ (fun j hj ⟨y,hy,h⟩=>h (hl y (aG (i:=j) (by rw[bF,if_pos hj];exact hy)))) ⟨u',ad,aa⟩ (fun j hj ⟨y,hy,h⟩=>h (ac y (aG (i:=j) (by rw[bF,if_pos hj];exact hy))));subst this;rw[hu]at ad
   cases ad;exact⟨rfl,rfl⟩
  exact absurd (ai u (aG hu)) hn
 rcases h' with⟨i',u',ad,aa,ac,rfl,rfl⟩|⟨ai,rfl,rfl⟩
 ·exact absurd (ha u' (aG ad)) aa
 exact⟨rfl,rfl⟩
def yU(b n:Int)(still:Bool)(p:PhiD):PhiD:=
 if b∈p.src then
  if still then { p with src:=p.src++[n],vals:=p.vals++[p.vals.getD (p.src.idxOf b) 0] } else { p with src:=p.src.set (p.src.idxOf b) n }
 else p
theorem aJA{nb:Nat}{b:Int}{still:Bool}{p:PhiD}(h:jR nb p=true):jR (nb+1) (yU b nb still p)=true:=by
 unfold jR at h⊢;simp only[aK,aY,decide_eq_true_eq,beq_iff_eq]at h;obtain⟨⟨⟨h1,h2⟩,h3⟩,h4⟩:=h;have hm:∀x∈p.src,numB (nb+1) x=true:=fun x hx=>by have:=h3 x hx;unfold numB at this⊢;simp at this⊢;omega
 have aa:(nb:Int)∉p.src:=fun hx=>by have:=h3 _ hx;unfold numB at this;simp at this
 have ac:numB (nb+1) (nb:Int)=true:=by unfold numB;simp;omega
 simp only[aK,aY,decide_eq_true_eq,beq_iff_eq];unfold yU;split
 ·rename_i hb;split
  ·refine⟨⟨⟨h1,by simp[h2]⟩,fun x hx=> ?_⟩, ?_⟩
   ·rcases aJ.1 hx with hx|hx
    ·exact hm x hx
    rw[cC.1 hx];exact ac
   rw[cN];exact⟨h4,by simp,fun a ha c hc e=>by rw[cC]at hc;exact aa (by rw[<-hc,<-e];exact ha)⟩
  refine⟨⟨⟨h1,by simp[h2]⟩,fun x hx=> ?_⟩, ?_⟩
  ·rcases List.mem_or_eq_of_mem_set hx with hx|hx
   ·exact hm x hx
   rw[hx];exact ac
  rw[bX,List.pairwise_iff_getElem];intro i j hi hj ae;rw[List.getElem_set,List.getElem_set];have ab:i<p.src.length:=by simpa using hi
  have ad:j<p.src.length:=by simpa using hj
  split
  ·split
   ·omega
   intro e;exact aa (e ▸ dD ad)
  split
  ·intro e;exact aa (e ▸ dD ab)
  intro e;rw[bX,List.pairwise_iff_getElem]at h4;exact h4 i j ab ad ae e
 exact⟨⟨⟨h1,h2⟩,hm⟩,h4⟩
theorem tB(T us:List (Int×Int)):mQ T us=0↔∀u∈us,(tyOf T u.1).isSome=true/\mJ T u=false:=by
 unfold mQ;constructor
 ·intro h u hu;split at h
  ·cases h
  split at h
  ·cases h
  rename_i h1 h2;simp only[eA,List.any_eq_false]at h1 h2;exact⟨by simpa using h1 u hu,by simpa using h2 u hu⟩
 intro h;have h1:us.any (fun u=> !(tyOf T u.1).isSome)=false:=by rw[List.any_eq_false];intro u hu;simp[(h u hu).1]
 have h2:us.any (mJ T)=false:=by rw[List.any_eq_false];intro u hu;simp[(h u hu).2]
 rw[h1,h2];simp
theorem jQ{f:FuncD}:fO f=0↔kA f=true/\f.params.all mP=true/\(∀i x,f.blocks[i]? =some x->gV f.blocks.length f.arrays f.cells (x,i)=true)/\idsF f=true/\∀x∈f.blocks,∀u∈lI x,(tyOf (fX f) u.1).isSome=true/\mJ (fX f) u=false:=by
 unfold fO gX;constructor
 ·intro h;split at h
  ·rename_i h1;simp only[aK]at h1;refine⟨h1.1.1.1,h1.1.1.2,fun i x hi=>aY.1 h1.1.2 (x,i) (by rw[bA];exact hi),h1.2,fun x hx u hu=>(tB _ _).1 h u ?_⟩;unfold lJ;rw[bC];exact⟨x,hx,hu⟩
  cases h
 rintro⟨h1,h2,h3,h4,h5⟩;have h6:f.blocks.zipIdx.all (gV f.blocks.length f.arrays f.cells)=true:=by rw[aY];rintro⟨x,i⟩ hx;rw[bA]at hx;exact h3 i x hx
 rw[h1,h2,h6,h4];simp only[Bool.and_self,if_true];rw[tB];intro u hu;unfold lJ at hu;rw[bC]at hu;obtain⟨x,hx,hu⟩:=hu;exact h5 x hx u hu
theorem iN{nb:Nat}{ar ce:Int}{x:BlockD}{i:Nat}:gV nb ar ce (x,i)=true↔(i=0->x.phis=[])/\(∀p∈x.phis,jR nb p=true)/\(x.code.all (gR ar ce))=true/\jB nb x.term=true:=by
 unfold gV;simp only[aK,aY,Bool.not_eq_true',Bool.and_eq_false_iff,decide_eq_false_iff_not];constructor
 ·rintro⟨⟨⟨h1,h2⟩,h3⟩,h4⟩;refine⟨fun hi=> ?_,h2,h3,h4⟩;rcases h1 with h1|h1
  ·exact absurd hi h1
  exact cS (by omega)
 rintro⟨h1,h2,h3,h4⟩;refine⟨⟨⟨?_,h2⟩,h3⟩,h4⟩;by_cases hi:i=0
 ·right;rw[h1 hi];simp
 left;exact hi
theorem qP{f:FuncD}:gE f 0 0↔(∀d,d<f.blocks.length->Way (toB f) (-1) d)/\(∀(d:Nat) (y:BlockD),f.blocks[d]? =some y->y.phis.all (gJ (natI (gT f f.blocks.length 0 d)))=true)/\∀v∈uxF f,iZ f v:=by
 unfold gE;constructor
 ·rintro(⟨c,-,-,-,-,h⟩|⟨h1,⟨c,x,-,-,-,-,h⟩|⟨h2,⟨i,u,-,-,-,-,h⟩|⟨h3,-,-⟩⟩⟩)
  ·cases h
  ·cases h
  ·cases h
  exact⟨h1,h2,h3⟩
 rintro⟨h1,h2,h3⟩;exact .inr ⟨h1,.inr ⟨h2,.inr ⟨h3,rfl,rfl⟩⟩⟩
theorem aGT{f:FuncD}{i:Nat}(h:f.blocks.length<=i):toB f i=[]:=by unfold toB;rw[aH,aS h];rfl
theorem aGU{f:FuncD}(hf:gX f=true){i v:Nat}(h:v∈toB f i):v<f.blocks.length/\1<=v/\i<f.blocks.length:=by
 have hi:i<f.blocks.length:=Classical.byContradiction fun h2=>by rw[aGT (by omega)]at h;cases h
 obtain⟨y,hy⟩:∃y,f.blocks[i]? =some y:=⟨_,aA hi⟩;rw[sD hy,aN]at h;obtain⟨q,hq,rfl⟩:=h;have:=lR hf hy q hq;exact⟨by omega,by omega,hi⟩
section
variable {f:FuncD} {b k t:Nat} {x:BlockD} {still:Bool}
end
end Go.Proofs.YtagabiidbbhhmaaGreat
