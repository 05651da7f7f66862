/- Part 19. -/
import Derived.Test.YtagabiidbbhhmaaGreatET18
namespace Go.Proofs.YtagabiidbbhhmaaGreat
set_option maxHeartbeats 12800000
set_option linter.all false
set_option maxRecDepth 100000
open Go.RowKit
theorem qL{f:FuncD}(h:gX f=true):(fX f).length<=4112:=by
 have h0:=h;unfold gX kA at h0;simp only[aK,decide_eq_true_eq]at h0;have h1:=h0.1.1.1.1.1.1.1.1.1;have h2:=h0.1.1.2;have aa:∀l:List BlockD,((l.flatMap iT).length:Int)<=(l.map iB).sum:=by
  intro l;induction l with
  | nil=>simp
  | cons b l ih=>
   rw[cK,aO,cI,fJ]
   have e:((iT b).length:Int)<=iB b:=by unfold iT iB;rw[aO,aZ,aZ];have:=List.length_filter_le (fun x:InstrD=>(shp0 x.op).result != 0) b.code;omega
   omega
 have h3:=aa f.blocks;unfold mE at h2;unfold fX mX;rw[aO,nC];omega
theorem aAP{w:World}{v:Value}{f:FuncD}(hv:gS w v f)(h0:(fX f).length=0):Calls Tryz.prog 19 #[v] w (IdsR f w):=by
 have HV:=h! hv;have H0:=h! h0;obtain⟨ap,cp,ab,cb,rfl,hp,ha,hc,hB⟩:=hv.form;clear hp ha hc hB hv h0;generalize hnp:f.params.length=np at*;generalize hnb:f.blocks.length=nb at*;generalize har:f.arrays=ar at*;generalize hce:f.cells=ce at*;have HNP:=h! hnp;clear hnp hnb har hce;go_enter Tryz.func19,Tryz.ntmps19;go_upto_region 1 with(fail);have ag:=(Below.refl w.heap.size w).alloc (aC _) (.cells #[.slice ap np cp,.int .i64 ar,.int .i64 ce,.slice ab nb cb] 25);have HW:=h! ag;clear ag;have B1:=h! (Box.new w #[.slice ap np cp,.int .i64 ar,.int .i64 ce,.slice ab nb cb] 25);generalize w.alloc (.cells #[.slice ap np cp,.int .i64 ar,.int .i64 ce,.slice ab nb cb] 25)=wv at*;obtain⟨ad,aa,ac⟩:=B1.out;go_wp2_with fail;refine(qX (HV.below HW.out) (by rw[H0.out];omega)).mono ?_;rintro e w1 ⟨u,rfl,hu,af⟩;rw[H0.out]at hu;obtain⟨a,c,rfl⟩:=xE hu;clear hu;clear ad aa ac;replace B1:=h! (B1.later af);replace HW:=w! HW af;clear af;obtain⟨ad,aa,ac⟩:=B1.out;go_wp2_with fail;have HO:Hid (Own (w1.alloc (.cells #[] 3)) w.heap.size [] 3 1 (.slice (some ⟨w1.heap.size,0,none⟩) 0 0) 0 []):=h! (oN HW.size (by simp) 1);have ae:=(Below.refl w1.heap.size w1).alloc (aC _) (.cells #[] 3);clear ad aa ac;replace B1:=h! (B1.later ae);replace HW:=w! HW ae;clear ae;obtain⟨ad,aa,ac⟩:=B1.out;obtain⟨ga,ah⟩:∃ga,ga=w1.heap.size:=⟨_,rfl⟩;rw[<-ah]at HO⊢;clear ah;generalize w1.alloc _=wa at*;go_loopw [5,6] (fun u ii wr=>u=.slice (some ⟨ga,0,none⟩) 0 0/\ii=.int .i64 0/\wr=wa) (fun _ _ _=>0)
 case atStart=>exact⟨rfl,rfl,rfl⟩
 obtain⟨rfl,rfl,rfl⟩:=hrel;have ai:Hid (IdsS f.params.length (fX f) (fX f).length []):=h! (by rw[H0.out];exact IdsS.start _ _);have aj:Hid (New 3 w wr (.slice (some ⟨ga,0,none⟩) 0 0) []):=h! ⟨HO.row,by simp,by simp⟩;go_wp2;go_ret2;exact⟨HW.out,.inr ⟨ai.done,_,_,rfl,aj.out,ai.out⟩⟩
theorem aK8{w:World}{v:Value}{f:FuncD}(hv:gS w v f)(hf:gX f=true):Calls Tryz.prog 19 #[v] w (IdsR f w):=by
 by_cases h:(fX f).length=0
 ·exact aAP hv h
 exact aAT hv (by have:=qL hf;omega) (by omega)
theorem Ints.later{W W':World}{v:Value}{xs:List Int}(h:Ints W v xs)(hb:Below W.heap.size W W'):Ints W' v xs:=h.below hb
theorem Row.later{W W':World}{v:Value}{n size:Nat}{cs:List Value}(h:Row W v n size cs)(hb:Below W.heap.size W W'):Row W' v n size cs:=h.below hb
theorem aGM{w:World}{v:Value}{L:List Int}{x r:Int}(hv:Ints w v L)(hR:Rise L)(hr:aK9 L x r):
  Calls Tryz.prog 70 #[v,.int .i64 x] w fun e w'=>e=.returned (.int .i64 r)/\Below w.heap.size w w':=
 (xD hv hR hr).mono fun e w' ⟨he,hw⟩=>⟨he,hw ▸ Below.refl _ _⟩
def TypS(T:List (Int×Int))(S:List Int)(i:Nat)(M:List Int):Prop:=∀(k:Nat) (p:Int×Int),k<i->T[k]? =some p->∀j:Nat,S[j]? =some p.1->M[j]? =some p.2
theorem TypS.step{np:Nat}{T:List (Int×Int)}{S:List Int}(h:IdsS np T T.length S){i:Nat}{M:List Int}(hM:TypS T S i M)(hl:M.length=S.length){p:Int×Int}(hp:T[i]? =some p){j:Nat}(hj:S[j]? =some p.1):TypS T S (i+1) (M.set j p.2):=by
 intro k q hk hq j2 aa;have ac:j<M.length:=by rw[hl];exact(aD.1 hj).1
 by_cases e:k=i
 ·subst e;rw[hp]at hq;cases hq;have:j2=j:=by
   by_cases h1:j2<j
   ·have:=h.rise.lt aa hj h1;omega
   by_cases h2:j<j2
   ·have:=h.rise.lt hj aa h2;omega
   omega
  subst this;rw[eO ac]
 have h1:=hM k q (by omega) hq j2 aa;by_cases e2:j=j2
 ·subst e2;rw[hj]at aa;simp at aa;have ab:=h.nodup;rw[cO]at ab;have a1:(T.map (·.1))[i]? =some p.1:=by simp[hp]
  have a2:(T.map (·.1))[k]? =some p.1:=by simp[hq,aa]
  have:=(List.getElem?_inj ((aD.1 a1).1) ab).1 (a1.trans a2.symm);omega
 rw[List.getElem?_set_ne e2];exact h1
theorem TypS.find{np:Nat}{T:List (Int×Int)}{S M:List Int}(h:IdsS np T T.length S)(hM:TypS T S T.length M){id:Int}{j:Nat}(hj:S[j]? =some id):∃t,tyOf T id=some t/\M[j]? =some t:=by
 have hm:id∈T.map (·.1):=by have:=(h.mem id).1 (aG hj);rwa[cO]at this
 cases ht:tyOf T id with
 | none=>exact absurd hm (iA.1 ht)
 | some t=>
  obtain⟨k,hk⟩:=bS.1 (nJ ht)
  exact⟨t,rfl,hM k _ (aD.1 hk).1 hk j hj⟩
theorem aI1{np:Nat}{T:List (Int×Int)}{S:List Int}(h:IdsS np T T.length S){id:Int}(hno:id∉S):tyOf T id=none:=by rw[iA];intro hm;exact hno ((h.mem id).2 (by rw[cO];exact hm))
theorem aGN{w:World}{v:Value}{f:FuncD}(hv:gS w v f):Calls Tryz.prog 34 #[v] w fun e w'=>e=.returned (.int .i64 (fO f))/\Below w.heap.size w w':=by
 have HV:=h! hv;obtain⟨ap,cp,ab,cb,rfl,hp,ha,hc,hB⟩:=hv.form;have HC:Hid (fO f=if gX f&&idsF f then mQ (fX f) (lJ f) else 2):=h! rfl;obtain⟨c,ch⟩:∃c,c=fO f:=⟨_,rfl⟩;rw[<-ch]at HC⊢;have dd:=hp.1.big;obtain⟨np,bf⟩:∃np,np=f.params.length:=⟨_,rfl⟩;obtain⟨nb,ck⟩:∃nb,nb=f.blocks.length:=⟨_,rfl⟩;obtain⟨ar,cx⟩:∃ar,ar=f.arrays:=⟨_,rfl⟩;obtain⟨ce,ca⟩:∃ce,ce=f.cells:=⟨_,rfl⟩;rw[<-bf,<-ck,<-cx,<-ca]at HV⊢;rw[<-bf]at dd;have HNP:=h! bf;clear hp ha hc hB hv bf ck cx ca ch;go_enter Tryz.func34,Tryz.ntmps34;go_upto_region 1 with(fail);have cF:=(Below.refl w.heap.size w).alloc (aC _) (.cells #[.slice ap np cp,.int .i64 ar,.int .i64 ce,.slice ab nb cb] 25);have HW:=h! cF;clear cF;have B1:=h! (Box.new w #[.slice ap np cp,.int .i64 ar,.int .i64 ce,.slice ab nb cb] 25);generalize w.alloc (.cells #[.slice ap np cp,.int .i64 ar,.int .i64 ce,.slice ab nb cb] 25)=wv at*;obtain⟨ac,ae,af⟩:=B1.out;have HVC:=HV;go_wp2_with fail;refine(aCS (HV.below HW.out)).mono ?_;rintro e w1 ⟨rfl,bo⟩;clear ac ae af;replace B1:=h! (B1.later bo);replace HW:=w! HW bo;clear bo;obtain⟨ac,ae,af⟩:=B1.out
 cases hfo:gX f
 ·have HF:=h! hfo;clear hfo;go_wp2;go_ret;exact⟨by rw[HC.out,HF.out];rfl,HW.out⟩
 have HF:=h! hfo;clear hfo;go_wp2_with fail;refine(aK8 (HV.below HW.out) HF.out).mono ?_;rintro e w2 ⟨aw,bs⟩;have dn:=HW.size;clear ac ae af;replace B1:=h! (B1.later aw);replace HW:=w! HW aw;clear aw;obtain⟨ac,ae,af⟩:=B1.out;rcases bs with⟨cv,rfl⟩|⟨ax,u,S,rfl,hu,hS⟩
 ·have dk:=h! cv;clear cv;go_wp2;go_ret;exact⟨by rw[HC.out,dk.out,Bool.and_false];rfl,HW.out⟩
 have HY:=h! ax;have ak:=h! hS;have cm:Hid (c=mQ (fX f) (lJ f)):=h! (by rw[HC.out,HF.out,HY.out];rfl);have di:S.length<=4112:=by have:=hS.len;have:=qL HF.out;omega
 obtain⟨ua,uc,rfl⟩:=hu.ints.form;have HU:=h! hu.ints;have be:Hid (∀g,(Value.slice ua S.length uc).ownBlock=some g->g<w2.heap.size):=h! (fun g hg=>(hu.fresh g hg).2);obtain⟨n,hn⟩:∃n,n=S.length:=⟨_,rfl⟩;rw[<-hn]at HU be di⊢;have HN:=h! hn;have bj:Hid (n=(fX f).length):=h! (by rw[hn,hS.len]);clear ax hu hS hn dn HC;go_upto_region 7 with(at_make;refine jP rfl _ _ 22 3 rfl oW n rfl rfl rfl rfl (by omega) ?_;intro w3 am ai;have bv:=h! am.out;have ci:=h! ai;clear am ai);obtain⟨gt,bh⟩:∃gt,gt=w2.heap.size:=⟨_,rfl⟩;rw[<-bh]at bv be;simp only[<-bh];have cl:w.heap.size<gt:=by rw[bh];exact ac
 have HO:Hid (Own w3 w.heap.size [w.heap.size] 3 1 (.slice (some ⟨gt,0,none⟩) n n) n ((List.replicate n (0:Int)).map (.int .i64))):=h! ⟨⟨by simp,.inr ⟨gt,n,_,rfl,by omega,bv.out,aC _,by unfold maxLen;omega,by simp,by simp⟩⟩,fun g hg hm=>by cases hg;simp at hm;omega⟩;have ai:=ci.out;replace HU:=h! (HU.below ai);clear ac ae af;replace B1:=h! (B1.later ai);replace HW:=w! HW ai;clear ai;obtain⟨ac,ae,af⟩:=B1.out;have cg:=h! cl;clear bv ci bh cl;go_wp2_with fail;refine(qX (HV.below HW.out) (by have:=qL HF.out;omega)).mono ?_;rintro e w4 ⟨u2,rfl,hu2,bc⟩;obtain⟨va,vc,rfl⟩:=xE hu2;rw[<-bj.out]at hu2⊢;have ah:Hid (Row w4 (.slice va n vc) n 2 (mT (fX f))):=h! (Row.of_own hu2 (by omega));have db:Hid (∀g,(Value.slice va n vc).ownBlock=some g->g≠gt):=h! (fun g hg=>by
  rcases hu2.2 with⟨h,_⟩|⟨g',cap,cur,h,hb,_⟩
  ·cases h;cases hg
  cases h;cases hg;have:=(HO.lt (g:=gt) rfl).1;show g'≠gt;omega)
 replace HU:=h! (HU.below bc);have bp:Hid (∀g,(Value.slice ua n uc).ownBlock=some g->g≠gt):=h! (fun g hg=>by have:=be.out g hg;omega);clear hu2 be;clear ac ae af;replace B1:=h! (B1.later bc);replace HO:=h! (HO.later bc);replace HW:=w! HW bc;clear bc;obtain⟨ac,ae,af⟩:=B1.out;go_wp2_with fail;have an:TypS (fX f) S 0 (List.replicate n (0:Int)):=fun k p h=>by omega
 have ao:=h! an;clear an;go_loopw [7] (fun ii wr=>∃(i:Nat) (M:List Int),i<=n/\ii=.int .i64 i/\M.length=n/\TypS (fX f) S i M/\Own wr w.heap.size [w.heap.size] 3 1 (.slice (some ⟨gt,0,none⟩) n n) n (M.map (.int .i64))/\Ints wr (.slice ua n uc) S/\Row wr (.slice va n vc) n 2 (mT (fX f))/\Below w.heap.size w wr/\Box wr w.heap.size #[.slice ap np cp,.int .i64 ar,.int .i64 ce,.slice ab nb cb]) (fun ii _=>n - (intOf ii).toNat)
 case atStart=>exact⟨0,_,aL _,rfl,by simp,ao.out,HO.out,HU.out,ah.out,HW.out,B1.out⟩
 obtain⟨i,M,hi,rfl,hM,cy,hO,hU,cq,hW,bO⟩:=hrel;clear ac ae af;have br:=h! hM;have bl:=h! cy;replace HO:=h! hO;replace HU:=h! hU;replace ah:=h! cq;replace HW:=h! hW;replace B1:=h! bO;clear hM cy hO hU cq hW bO ao;generalize wr=wi at*;obtain⟨ac,ae,af⟩:=B1.out;by_cases hlti:i<n
 ·obtain⟨p,hp⟩:∃p,(fX f)[i]? =some p:=⟨_,aA (by have:=bj.out;omega)⟩;obtain⟨x,t⟩:=p;have co:x∈S:=(ak.mem x).2 (by rw[cO];exact aN.2 ⟨_,aG hp,rfl⟩);obtain⟨j,hj⟩:=bS.1 co;have HPX:=h! hp;have HJ:=h! hj;have cz:j<n:=by have:=(aD.1 hj).1;have:=HN.out;omega
  obtain⟨va',vc',vb,vo,cM,hvc,hvm,cr,bw⟩:=ah.parts
  cases cM;have bq:=ah.len;obtain⟨rfl,de⟩:=cr (by omega);have bg:=bw (i*2) _ (rB _ _ _ hp).1;have az:=bw (i*2+1) _ (rB _ _ _ hp).2;simp only at bg az;have ad:=h! (⟨bg,by rw[Nat.add_assoc];exact az,de⟩:wi.cell? ⟨vb,vo+i*2,none⟩=some (.int .i64 x)/\wi.cell? ⟨vb,vo+i*2+1,none⟩=some (.int .i64 t)/\vb<wi.heap.size);have cG:=h! (bl.step ak.out (by rw[br.out,HN.out]) hp hj);clear co hp hj cr bw bg az bq;go_upto_region 11 with(fail);refine wp_region_grow 14 (fun kz=>match kz with|7=>.const (.int .i64 j)|_=>.plain) (by kernel_rfl) (by kernel_rfl) ?_ (fun ν=> ?_)
  ·(intro k;(try dsimp only);split<;>first|exact True.intro|(intro u w1 w2 hu hb;exact hu.below hb))
  simp only[aP,aU,aR,aV];iterate 7 (refine Grow.val (v:= ?_) rfl rfl (fun wg hbg hdg=> ?_) ?_;rotate_left;(focus((obtain⟨dq,dl,dr⟩:=B1.later hbg);(have h0:=(hbg.cell ad.2.2).trans ad.1);(have h1:=(hbg.cell ad.2.2).trans ad.2.1);clear hbg hdg;first|(go_simp;done)|(go_simp;with_reducible rfl)));simp only[Act.put,aB,aE,aF])
  refine Grow.call (f:= ?_) (args:= ?_) rfl (fun wg=> ?_) (fun wg hbg hdg=> ?_) ?_;rotate_left 2;focus(first|(go_simp;done)|(go_simp;refine And.intro ?_ ?_<;>with_reducible rfl)|(go_simp;with_reducible rfl))
  focus exact Calls.mono (aGM (HU.below hbg) ak.rise (.inl ⟨j,HJ.out,rfl⟩)) (fun e w2 ⟨he,aw⟩=>⟨_,he,rfl,aw⟩)
  simp only[Act.put,Known.val,aB,aE,aF];iterate 6 (refine Grow.val (v:= ?_) rfl rfl (fun wg hbg hdg=> ?_) ?_;rotate_left;(focus((obtain⟨dq,dl,dr⟩:=B1.later hbg);(have h0:=(hbg.cell ad.2.2).trans ad.1);(have h1:=(hbg.cell ad.2.2).trans ad.2.1);clear hbg hdg;first|(go_simp;done)|(go_simp;with_reducible rfl)));simp only[Act.put,aB,aE,aF])
  intro wg hb hf dp;clear dp;clear ac ae af;replace B1:=h! (B1.later hb);replace HO:=h! (HO.later hb);replace HU:=h! (HU.later hb);replace ah:=h! (ah.later hb);replace HW:=w! HW hb;clear hb;obtain⟨ac,ae,af⟩:=B1.out;clear hf;obtain⟨cL,ba,bt,_,_,bm,_,_,aa,ag⟩:=HO.cells (by omega)
  cases bt;have hst:=aa j (.int .i64 (M.getD j 0)) (by rw[aM,gF M j (by have:=br.out;omega)];rfl);have hft:=ag j;clear aa ag;go_wp2;go_roundw
  case rel=>exact⟨i+1,M.set j t,hlti,by go_num,by rw[cQ];exact br,cG.out,by have h:=HO.put (i:=j) cz (.int .i64 t);rw[<-List.map_set]at h;exact h,HU.other _ (fun g hg=>bp g hg),ah.other _ (fun g hg=>db g hg),HW.setCell (by have:=cg.out;simp;omega) _,B1.other _ (by have:=cg.out;simp;omega)⟩
  simp[intOf];omega
 obtain rfl:i=n:=by omega
 obtain⟨n,da⟩:∃n,n=i:=⟨_,rfl⟩;obtain rfl:=da;rw[bj.out]at bl;go_wp2_with fail;refine(aD3 (HV.below HW.out) (kY HF.out)).mono ?_;rintro e w5 ⟨u3,rfl,bd,aq⟩;obtain⟨xa,xc,rfl⟩:=xE bd;have hm:=aCU (kY HF.out);obtain⟨m,bx⟩:∃m,m=(uxF f).length:=⟨_,rfl⟩;rw[<-bx]at bd hm⊢;have cc:=h! bx;have bb:Hid (Row w5 (.slice xa m xc) m 5 (kU (uxF f))):=h! (Row.of_own bd (by omega));obtain⟨ac,ae,af⟩:=B1.out;clear ac ae af;replace B1:=h! (B1.later aq);replace HO:=h! (HO.later aq);replace HU:=h! (HU.later aq);replace HW:=w! HW aq;clear aq;obtain⟨ac,ae,af⟩:=B1.out;clear ac ae af;clear bd bx B1 ah;have bn:=h! (yN (kY HF.out));have dm:Hid (∀x∈uxF f,tyOf (fX f) x.id=none->c=6):=h! (fun x hx ht=>by rw[cm.out];unfold mQ;rw[if_pos];rw[<-bn.out,List.any_map,fA];exact⟨x,hx,by show(!(tyOf (fX f) x.id).isSome)=true;rw[ht];rfl⟩);have dg:Hid ((∀x∈uxF f,(tyOf (fX f) x.id).isSome=true)->c=if (uxF f).any (fun x=>mJ (fX f) x.pair) then 3 else 0):=h! (fun h=>by
  rw[cm.out];unfold mQ;rw[if_neg,<-bn.out,List.any_map]
  ·rfl
  rw[<-bn.out,List.any_map,fA];rintro⟨x,hx,h2⟩;have h3:(!(tyOf (fX f) x.id).isSome)=true:=h2;rw[h x hx]at h3;cases h3)
 go_wp2_with fail;go_loopw [9,10] (fun ee kk wr=>∃(k:Nat) (ek:Int),k<=m/\kk=.int .i64 k/\ee=.int .i64 ek/\ek=(if ((uxF f).take k).any (fun x=>mJ (fX f) x.pair) then 3 else 0)/\(∀x∈(uxF f).take k,(tyOf (fX f) x.id).isSome=true)/\Own wr w.heap.size [w.heap.size] 3 1 (.slice (some ⟨gt,0,none⟩) n n) n (M.map (.int .i64))/\Ints wr (.slice ua n uc) S/\Row wr (.slice xa m xc) m 5 (kU (uxF f))/\Below w.heap.size w wr) (fun _ kk _=>m - (intOf kk).toNat)
 case atStart=>exact⟨0,0,aL _,rfl,rfl,by simp,by simp,HO.out,HU.out,bb.out,HW.out⟩
 obtain⟨k,ek,hk,rfl,rfl,cd,ay,hO,hU,cf,hW⟩:=hrel;have bk:=h! cd;have aj:=h! ay;replace HO:=h! hO;replace HU:=h! hU;replace bb:=h! cf;replace HW:=h! hW;clear cd ay hO hU cf hW;by_cases hltk:k<m
 ·obtain⟨x,hx⟩:∃x,(uxF f)[k]? =some x:=⟨_,aA (by have:=cc.out;omega)⟩;have cB:=h! (fR (uxF f) k x hx);have dj:=h! (aG hx);obtain⟨xa',xc',xb,xo,dc,hxc,hxm,cn,bi⟩:=bb.parts
  cases dc;have bq:=bb.len;obtain⟨rfl,hxb⟩:=cn (by omega);obtain⟨cj,cs,_,_,_⟩:=vC _ _ _ hx;have bg:=bi _ _ cj;have az:=bi _ _ cs;rw[<-Nat.add_assoc]at az;clear cn bi cj cs bq hx;by_cases hmem:x.id∈S
  ·obtain⟨j,hj⟩:=bS.1 hmem;obtain⟨t,ht,cw⟩:=TypS.find ak.out bl.out hj;have HJ:=h! hj;have HT:=h! ht;have cz:j<n:=by have:=(aD.1 hj).1;have:=HN.out;omega
   obtain⟨cL,ba,bt,_,_,bm,_,_,aa,_⟩:=HO.cells (by omega)
   cases bt;have hct:=aa j (.int .i64 t) (by rw[aM,cw];rfl);clear aa hj ht cw hmem;have al:=h! (xD HU.out ak.rise (.inl ⟨j,HJ.out,rfl⟩));have bz:Hid (mJ (fX f) x.pair=(x.typ != 0&&t != x.typ)):=h! (by unfold mJ;show(match tyOf (fX f) x.id with|none=>false|some t=>x.typ != 0&&t != x.typ)=_;rw[HT.out]);have df:Hid (∀z∈(uxF f).take (k+1),(tyOf (fX f) z.id).isSome=true):=h! (fun z hz=>by
    rw[cB.out,aJ]at hz;rcases hz with hz|hz
    ·exact aj z hz
    simp at hz;subst hz;rw[HT.out];rfl)
   have dh:Hid (((uxF f).take (k+1)).any (fun x=>mJ (fX f) x.pair)=(((uxF f).take k).any (fun x=>mJ (fX f) x.pair)||(x.typ != 0&&t != x.typ))):=h! (by rw[cB.out,List.any_append,List.any_cons,List.any_nil,Bool.or_false,bz.out])
   cases h1:(x.typ != 0)<;>cases h2:(x.typ != t);all_goals
    have H1:=h! h1;have H2:Hid ((t != x.typ)=_):=h! ((bne_comm (a:=t) (b:=x.typ)).trans h2);go_wp2_with (go_at_call 70;refine al.mono ?_;rintro e w6 ⟨rfl,rfl⟩);go_quiet (fail);go_wp2;go_roundw
    case rel=>exact⟨k+1,_,hltk,by go_num,rfl,by rw[dh.out,H1.out,H2.out];first|(simp only[bK,Bool.and_false,bY,Bool.or_false];exact bk)|simp,df.out,HO.later (fS (Below.refl _ _) _),HU.below (fS (Below.refl _ _) _),bb.below (fS (Below.refl _ _) _),fS HW.out _⟩
    simp[intOf];omega
  have ct:=h! hmem;clear hmem;have al:=h! (xD HU.out ak.rise (.inr ⟨ct.out,rfl⟩));go_wp2_with (go_at_call 70;refine al.mono ?_;rintro e w6 ⟨rfl,rfl⟩);go_ret;exact⟨by rw[dm x dj.out (aI1 ak.out ct.out)];rfl,HW.out⟩
 obtain rfl:k=m:=by omega
 rw[aI (by have:=cc.out;omega)]at bk aj;go_wp2;go_ret;exact⟨by rw[dg aj.out,<-bk.out];rfl,HW.out⟩
end Go.Proofs.YtagabiidbbhhmaaGreat
