/- Part 27. -/
import Derived.Test.YtagabiidbbhhmaaGreatET26
namespace Go.Proofs.YtagabiidbbhhmaaGreat
set_option maxHeartbeats 25600000
set_option linter.all false
set_option maxRecDepth 100000
open Go.RowKit
def parN(n:Nat):List (Int×Int×Int):=(List.range n).map fun(j:Nat)=>((j:Int),(0:Int),(-1:Int))
def phiN(b:Nat)(ps:List PhiD)(i:Nat):List (Int×Int×Int):=(ps.take i).map fun p=>(p.id,(b:Int),(-1:Int))
def codN(b:Nat)(xs:List InstrD)(k:Nat):List (Int×Int×Int):=((xs.take k).zipIdx).filterMap fun xj=>if 0<=xj.1.id then some (xj.1.id,(b:Int),(xj.2:Int)) else none
def entB(b:Nat)(x:BlockD):List (Int×Int×Int):=phiN b x.phis x.phis.length++codN b x.code x.code.length
def blkN(f:FuncD)(c:Nat):List (Int×Int×Int):=((f.blocks.take c).zipIdx).flatMap fun xb=>entB xb.2 xb.1
def entF(f:FuncD):List (Int×Int×Int):=parN f.params.length++blkN f f.blocks.length
theorem sG(n:Nat):parN (n+1)=parN n++[((n:Int),(0:Int),(-1:Int))]:=by simp[parN,fK]
theorem pR{b:Nat}{ps:List PhiD}{i:Nat}{p:PhiD}(h:ps[i]? =some p):phiN b ps (i+1)=phiN b ps i++[(p.id,(b:Int),(-1:Int))]:=by simp[phiN,fR ps i p h]
theorem oB{b:Nat}{xs:List InstrD}{k:Nat}{y:InstrD}(h:xs[k]? =some y):codN b xs (k+1)=codN b xs k++(if 0<=y.id then [(y.id,(b:Int),(k:Int))] else []):=by
 have hk:(xs.take k).length=k:=by have:=(aD.1 h).1;rw[bB];omega
 unfold codN;rw[fR xs k y h,List.zipIdx_append,List.filterMap_append];congr 1;simp only[List.zipIdx_cons,List.zipIdx_nil,List.filterMap_cons,List.filterMap_nil,hk,bM];split<;>rename_i h1
 ·split at h1
  ·cases h1
  rename_i h2;rw[if_neg h2]
 split at h1
 ·cases h1;rename_i h2;rw[if_pos h2]
 cases h1
theorem mY{f:FuncD}{c:Nat}{x:BlockD}(h:f.blocks[c]? =some x):blkN f (c+1)=blkN f c++entB c x:=by
 have hk:(f.blocks.take c).length=c:=by have:=(aD.1 h).1;rw[bB];omega
 unfold blkN;rw[fR f.blocks c x h,List.zipIdx_append,List.flatMap_append];simp[hk]
def defV(e:Int×Int×Int):Value:=.agg #[.int .i64 e.2.1,.int .i64 e.2.2]
def defM(l:List (Int×Int×Int)):List (Int×Value):=l.foldl (fun m e=>mput m e.1 (defV e)) []
theorem pS(l:List (Int×Int×Int))(e:Int×Int×Int):defM (l++[e])=mput (defM l) e.1 (defV e):=by simp[defM]
theorem aHT(id:Int):∀(n:Nat) (l:List (Int×Int×Int)),l.length=n->(l.map (·.1)).Nodup->mget (defM l) id=(l.find? fun e=>e.1 == id).map defV:=by
 intro n;induction n with
 | zero=>intro l hl _;rw[cS hl];rfl
 | succ n ih=>
  intro l hl aa
  obtain⟨k,e,rfl⟩:∃k e,l=k++[e]:=⟨l.dropLast,l.getLast (by intro h;rw[h]at hl;cases hl),(List.dropLast_concat_getLast _).symm⟩
  rw[aO,eC]at hl
  rw[bG,cN]at aa
  rw[pS,rI,ih k (by omega) aa.1,List.find?_append]
  by_cases h:id=e.1
  ·rw[if_pos h]
   have ab:k.find? (fun e=>e.1 == id)=none:=by rw[List.find?_eq_none];intro x hx ac;simp only[beq_iff_eq]at ac;exact aa.2.2 x.1 (aN.2 ⟨x,hx,rfl⟩) e.1 (by simp) (by rw[ac,h])
   rw[ab,Option.none_or]
   simp[fN,h]
  rw[if_neg h]
  have ab:[e].find? (fun e=>e.1 == id)=none:=by simp;exact fun h2=>h h2.symm
  rw[ab,Option.or_none]
theorem aBX{w:World}{v:Value}{f:FuncD}(hv:gS w v f):Calls Tryz.prog 86 #[v] w fun e w'=>∃bm,e=.returned (.map (some bm))/\IMap w' bm (defM (entF f))/\w.heap.size<bm/\Below w.heap.size w w':=by
 obtain⟨ap,cp,ab,cb,rfl,hp,ha,hc,hB⟩:=hv.form;have db:=hp.le;obtain⟨a2,c2,bb,bo,cG,df,hbm,dk,ck,ct⟩:=fW hB
 cases cG;obtain⟨np,cg⟩:∃np,np=f.params.length:=⟨_,rfl⟩;obtain⟨nb,bw⟩:∃nb,nb=f.blocks.length:=⟨_,rfl⟩;rw[<-cg]at db⊢;rw[<-bw]at df ck dk⊢;have cr:=h! bw;have cM:=h! cg;have dl:=h! ck;have cF:=h! ct;clear hp ha hc hB hv ct cg bw ck;generalize f.arrays=ar at*;generalize f.cells=ce at*;have dh:=@run_makeMap Tryz.prog;go_enter Tryz.func86,Tryz.ntmps86;go_upto_region 2 with(fail);clear dh;have HI:Hid (IMap ((w.alloc (.cells #[.slice ap np cp,.int .i64 ar,.int .i64 ce,.slice ab nb cb] 25)).alloc (.map #[] 0)) (w.heap.size+1) (defM (parN 0))):=h! (by have h:=IMap.new (w.alloc (.cells #[.slice ap np cp,.int .i64 ar,.int .i64 ce,.slice ab nb cb] 25));simpa [parN,defM]using h);have B1:Hid (Box ((w.alloc (.cells #[.slice ap np cp,.int .i64 ar,.int .i64 ce,.slice ab nb cb] 25)).alloc (.map #[] 0)) w.heap.size #[.slice ap np cp,.int .i64 ar,.int .i64 ce,.slice ab nb cb]):=h! ((Box.new w _ _).alloc _);have HW:Hid (Below w.heap.size w ((w.alloc (.cells #[.slice ap np cp,.int .i64 ar,.int .i64 ce,.slice ab nb cb] 25)).alloc (.map #[] 0))):=h! (((Below.refl _ _).alloc (aC _) _).alloc (by simp) _);generalize ((w.alloc (.cells #[.slice ap np cp,.int .i64 ar,.int .i64 ce,.slice ab nb cb] 25)).alloc (.map #[] 0))=w1 at*;obtain⟨bm,ak⟩:∃bm,bm=w.heap.size+1:=⟨_,rfl⟩;obtain⟨b1,cc⟩:∃b1,b1=w.heap.size:=⟨_,rfl⟩;rw[<-ak]at HI;rw[<-cc]at B1;have bp:Hid (w.heap.size<bm/\b1≠bm/\w.heap.size<=bm):=h! (by omega);simp only[<-ak];simp only[<-cc];have br:Hid (∀wr wr',Below w.heap.size w wr->Turn [bm] wr wr'->Below w.heap.size w wr'):=h! (fun wr wr' h1 h2=>h1.trans (h2.below h1.size fun x hx=>by simp at hx;subst hx;exact bp.2.2));clear ak cc;obtain⟨bx,bl,cn⟩:=B1.out;go_wp2_with fail;go_loopw [15] (fun i wr=>∃j:Nat,j<=np/\i=.int .i64 j/\IMap wr bm (defM (parN j))/\Below w.heap.size w wr/\Box wr b1 #[.slice ap np cp,.int .i64 ar,.int .i64 ce,.slice ab nb cb]) (fun i _=>np - (intOf i).toNat)
 case atStart=>exact⟨0,aL _,rfl,HI.out,HW.out,B1.out⟩
 obtain⟨j,hj,rfl,hI,hW,an⟩:=hrel;clear bx bl cn;replace HI:=h! hI;replace HW:=h! hW;replace B1:=h! an;clear hI hW an;generalize wr=w2 at*;by_cases hlt:j<np
 ·go_wp2_with (at_mapUpdate;refine gC (q:=.i64) (b:=bm) (mm:=defM (parN j)) (y:=j) rfl _ _ _ _ (.inl rfl) Tryz.underlying94 Tryz.underlying3 rfl HI.out rfl ?_;intro w3 ae ao ag;have HP:=h! ae;have ah:=h! ag;clear ae ao ag);go_roundw
  case rel=>exact⟨j+1,hlt,by go_num,by rw[sG,pS];exact HP,br _ _ HW.out ah.out,B1.turn ah.out (by simp;exact bp.2.1)⟩
  simp[intOf];omega
 obtain rfl:j=np:=by omega
 obtain⟨bx,bl,cn⟩:=B1.out;go_wp2_with fail;clear bx bl cn B1;have cs:Hid (IMap w2 bm (defM (parN j++blkN f 0))):=h! (by simpa [blkN]using HI.out);go_loopw [25] (fun i wr=>∃c:Nat,c<=nb/\i=.int .i64 c/\IMap wr bm (defM (parN j++blkN f c))/\Below w.heap.size w wr) (fun i _=>nb - (intOf i).toNat)
 case atStart=>exact⟨0,aL _,rfl,cs.out,HW.out⟩
 obtain⟨c,hc,rfl,hI,hW⟩:=hrel;clear cs;replace HI:=h! hI;replace HW:=h! hW;clear hI hW;generalize wr=wb at*;by_cases hltb:c<nb
 ·obtain⟨rfl,dj⟩:=dl.out (by omega);obtain⟨x,bz⟩:∃x,f.blocks[c]? =some x:=⟨_,aA (by have:=cr.out;omega)⟩;obtain⟨bh,bi,bk,be,bg,bj,hC⟩:=cF.out c x bz;have de:=h! (mY bz);have an:=hC.phis;have cB:=hC.code;obtain⟨pl,aj⟩:∃pl,pl=x.phis.length:=⟨_,rfl⟩;obtain⟨cl,cd⟩:∃cl,cl=x.code.length:=⟨_,rfl⟩;obtain⟨ac,capc,bcd,ocd,ay,cL,hcm,bc,bt,cx⟩:=gU cB;obtain⟨apx,capp,bph,oph,aw,bq,hppm,am,ai,ba⟩:=gL an;obtain⟨k0,k1,k2,k3,k4,k5,q1,q2,q3,q4,q5,q6⟩:=hC.below HW.out dj;rw[<-aj]at aw bq am ai k0;rw[<-cd]at ay cL bc bt k1
  cases aw
  cases ay;have cq:=h! aj;have cw:=h! cd;have bv:=h! ai;have bO:=h! ba;have co:=h! bt;have cm:=h! cx;have dc:Hid (bm<wb.heap.size):=h! HI.lt;clear aj cd ai ba bt cx q1 q2 q3 q4 q5 q6 hC an cB bz;obtain⟨E0,bs⟩:∃E0,E0=parN j++blkN f c:=⟨_,rfl⟩;rw[<-bs]at HI;have dd:=h! bs;clear bs;go_upto_region 10 with(fail);have ad:=(Below.refl wb.heap.size wb).alloc (aC _) (.cells #[.slice bh pl be,.slice bi cl bg,.int .i64 x.term.op,.int .i64 x.term.val,.slice bk x.term.to.length bj,.int .i64 x.term.n] 63);replace HI:=h! (HI.later ad);replace HW:=w! HW ad;clear ad;have B5:=h! (Box.new wb #[.slice bh pl be,.slice bi cl bg,.int .i64 x.term.op,.int .i64 x.term.val,.slice bk x.term.to.length bj,.int .i64 x.term.n] 63);generalize wb.alloc (.cells #[.slice bh pl be,.slice bi cl bg,.int .i64 x.term.op,.int .i64 x.term.val,.slice bk x.term.to.length bj,.int .i64 x.term.n] 63)=w5 at*;obtain⟨al,az,ax⟩:=B5.out;clear k0 k1 k2 k3 k4 k5;go_wp2_with fail;go_loopw [33] (fun i wr=>∃j1:Nat,j1<=pl/\i=.int .i64 j1/\IMap wr bm (defM (E0++phiN c x.phis j1))/\Below w.heap.size w wr/\Box wr wb.heap.size #[.slice bh pl be,.slice bi cl bg,.int .i64 x.term.op,.int .i64 x.term.val,.slice bk x.term.to.length bj,.int .i64 x.term.n]) (fun i _=>pl - (intOf i).toNat)
  case atStart=>exact⟨0,Nat.zero_le _,rfl,by simpa [phiN]using HI.out,HW.out,B5.out⟩
  obtain⟨j1,hj1,rfl,hI,hW,cy⟩:=hrel;clear al az ax;replace HI:=h! hI;replace HW:=h! hW;replace B5:=h! cy;clear hI hW cy;generalize wr=w7 at*;obtain⟨al,az,ax⟩:=B5.out;by_cases hlt1:j1<pl
  ·obtain⟨rfl,ch⟩:=bv.out (by omega);obtain⟨p,cj⟩:∃p,x.phis[j1]? =some p:=⟨_,aA (by have:=cq.out;omega)⟩;obtain⟨af,av,cf,cv,hP⟩:=bO.out j1 p cj;obtain⟨m0,m1,m2,m3,r1,r2,r3,r4⟩:=hP.below HW.out ch;have di:Hid (defM (E0++phiN c x.phis (j1+1))=mput (defM (E0++phiN c x.phis j1)) p.id (.agg #[.int .i64 c,.int .i64 (-1)])):=h! (by rw[pR cj,<-List.append_assoc,pS];rfl);clear r1 r2 r3 r4 hP cj;go_upto_region 13 with(fail);have aq:w7.heap.size≠wb.heap.size:=fun e=>by have:=al;omega
   have nB5B7:wb.heap.size≠w7.heap.size:=fun e=>aq e.symm;clear al az ax;have ad:=(Below.refl w7.heap.size w7).alloc (aC _) (.cells #[.int .i64 p.id,.int .i64 p.typ,.slice af p.src.length cf,.slice av p.vals.length cv] 78);replace B5:=h! (B5.later ad);replace HI:=h! (HI.later ad);replace HW:=w! HW ad;clear ad;have B7:=h! (Box.new w7 #[.int .i64 p.id,.int .i64 p.typ,.slice af p.src.length cf,.slice av p.vals.length cv] 78);generalize w7.alloc (.cells #[.int .i64 p.id,.int .i64 p.typ,.slice af p.src.length cf,.slice av p.vals.length cv] 78)=w8 at*;obtain⟨al,az,ax⟩:=B5.out;obtain⟨lB7,cB7,fB7⟩:=B7.out;clear m0 m1 m2 m3;go_wp2_with (at_mapUpdate;refine gC (q:=.i64) (b:=bm) (mm:=defM (E0++phiN c x.phis j1)) (y:=p.id) rfl _ _ _ _ (.inl rfl) Tryz.underlying94 Tryz.underlying3 rfl HI.out rfl ?_;intro w9 ae ao ag;have HP:=h! ae;have ah:=h! ag;clear ae ao ag);go_roundw
   case rel=>exact⟨j1+1,hlt1,by go_num,by rw[di.out];exact HP,br _ _ HW.out ah.out,B5.turn ah.out (by simp;have:=dc.out;omega)⟩
   simp[intOf];omega
  obtain rfl:j1=pl:=by omega
  obtain⟨E1,bn⟩:∃E1,E1=E0++phiN c x.phis j1:=⟨_,rfl⟩;rw[<-bn]at HI;have dg:=h! bn;clear bn;go_wp2_with fail;go_loopw [46] (fun i wr=>∃j2:Nat,j2<=cl/\i=.int .i64 j2/\IMap wr bm (defM (E1++codN c x.code j2))/\Below w.heap.size w wr) (fun i _=>cl - (intOf i).toNat)
  case atStart=>exact⟨0,Nat.zero_le _,rfl,by simpa [codN]using HI.out,HW.out⟩
  obtain⟨j2,hj2,rfl,hI,hW⟩:=hrel;clear al az ax B5;replace HI:=h! hI;replace HW:=h! hW;clear hI hW;generalize wr=bf at*;by_cases hlt3:j2<cl
  ·obtain⟨rfl,ch⟩:=co.out (by omega);obtain⟨y,ci⟩:∃y,x.code[j2]? =some y:=⟨_,aA (by have:=cw.out;omega)⟩;obtain⟨aa,ca,hP⟩:=cm.out j2 y ci;obtain⟨m0,m1,m2,m3,r1,r2,r3,r4⟩:=hP.below HW.out ch;have cz:=h! (oB (b:=c) ci);clear r1 r2 r3 r4 hP ci;go_upto_region 18 with(fail);have ad:=(Below.refl bf.heap.size bf).alloc (aC _) (.cells #[.int .i64 y.op,.int .i64 y.id,.slice aa y.args.length ca,.int .i64 y.n] 82);replace HI:=h! (HI.later ad);replace HW:=w! HW ad;clear ad;have B8:=h! (Box.new bf #[.int .i64 y.op,.int .i64 y.id,.slice aa y.args.length ca,.int .i64 y.n] 82);generalize bf.alloc (.cells #[.int .i64 y.op,.int .i64 y.id,.slice aa y.args.length ca,.int .i64 y.n] 82)=w12 at*;obtain⟨lB8,cB8,fB8⟩:=B8.out;clear m0 m1 m2 m3;by_cases hid:0<=y.id
   ·have bd:Hid (defM (E1++codN c x.code (j2+1))=mput (defM (E1++codN c x.code j2)) y.id (.agg #[.int .i64 c,.int .i64 j2])):=h! (by rw[cz.out,if_pos hid,<-List.append_assoc,pS];rfl);go_wp2_with (at_mapUpdate;refine gC (q:=.i64) (b:=bm) (mm:=defM (E1++codN c x.code j2)) (y:=y.id) rfl _ _ _ _ (.inl rfl) Tryz.underlying94 Tryz.underlying3 rfl HI.out rfl ?_;intro w13 ae ao ag;have HP:=h! ae;have ah:=h! ag;clear ae ao ag);go_roundw
    case rel=>exact⟨j2+1,hlt3,by go_num,by rw[bd.out];exact HP,br _ _ HW.out ah.out⟩
    simp[intOf];omega
   have bd:Hid (defM (E1++codN c x.code (j2+1))=defM (E1++codN c x.code j2)):=h! (by rw[cz.out,if_neg hid,cV]);go_wp2;go_roundw
   case rel=>exact⟨j2+1,hlt3,by go_num,by rw[bd.out];exact HI,HW.out⟩
   simp[intOf];omega
  obtain rfl:j2=cl:=by omega
  have bd:Hid (defM (parN j++blkN f (c+1))=defM (E1++codN c x.code j2)):=h! (by rw[de.out,dg.out,dd.out,cq.out,cw.out];simp[entB]);go_wp2;go_roundw
  case rel=>exact⟨c+1,hltb,by go_num,by rw[bd.out];exact HI,HW.out⟩
  simp[intOf];omega
 obtain rfl:c=nb:=by omega
 have da:Hid (IMap wb bm (defM (entF f))):=h! (by have h9:=HI.out;rw[cM.out,cr.out]at h9;exact h9);go_wp2;go_ret;exact⟨bm,rfl,da.out,bp.1,HW.out⟩
theorem aE5(b:Nat)(xs:List InstrD)(h:∀y∈xs,(0<=y.id↔(shp0 y.op).result≠0)):∀k,k<=xs.length->(codN b xs k).map (·.1)=((xs.take k).filter fun y=>(shp0 y.op).result != 0).map (·.id):=by
 intro k;induction k with
 | zero=>intro _;simp[codN]
 | succ k ih=>
  intro hk
  obtain⟨y,hy⟩:∃y,xs[k]? =some y:=⟨_,aA (by omega)⟩
  rw[oB hy,fR xs k y hy,bG,eR,bG,ih (by omega)]
  congr 1
  have h1:=h y (aG hy)
  by_cases h2:0<=y.id
  ·have h3:=h1.1 h2
   simp[h2,h3]
  have h3:(shp0 y.op).result=0:=Classical.byContradiction fun h4=>h2 (h1.2 h4)
  simp[h2,h3]
theorem aE6(b:Nat)(x:BlockD)(h:∀y∈x.code,(0<=y.id↔(shp0 y.op).result≠0)):(entB b x).map (·.1)=(iT x).map (·.1):=by unfold entB iT;rw[bG,bG,aE5 b x.code h _ (aC _)];simp[phiN,bN,Function.comp_def]
theorem aE7(f:FuncD)(h:∀x∈f.blocks,∀y∈x.code,(0<=y.id↔(shp0 y.op).result≠0)):∀c,c<=f.blocks.length->(blkN f c).map (·.1)=((f.blocks.take c).flatMap iT).map (·.1):=by
 intro c;induction c with
 | zero=>intro _;simp[blkN]
 | succ c ih=>
  intro hc
  obtain⟨x,hx⟩:∃x,f.blocks[c]? =some x:=⟨_,aA (by omega)⟩
  rw[mY hx,fR f.blocks c x hx,bG,List.flatMap_append,bG,ih (by omega),aE6 c x (h x (aG hx))]
  simp
theorem pT{f:FuncD}(h:fO f=0):∀x∈f.blocks,∀y∈x.code,(0<=y.id↔(shp0 y.op).result≠0):=by
 intro x hx y hy;obtain⟨h1,h2⟩:=fT h;obtain⟨b,hb⟩:=bS.1 hx;constructor
 ·intro h0 hr;unfold gX at h1;simp only[aK,aY]at h1;have h3:=h1.2 (x,b) (by rw[bA];exact hb);unfold gV at h3;simp only[aK,aY]at h3;have h4:=h3.1.2 y hy;unfold gR at h4;simp[hr]at h4;omega
 intro hr;unfold idsF idsB at h2;rw[aK,aY]at h2;have h3:=h2.2 (y.id,(shp0 y.op).result) (by unfold mX;rw[bC];refine⟨x,hx, ?_⟩;unfold iT;rw[aJ];right;rw[aN];exact⟨y,List.mem_filter.2 ⟨hy,by simpa using hr⟩,rfl⟩);simp at h3;omega
theorem uN{f:FuncD}(h:fO f=0):(entF f).map (·.1)=(fX f).map (·.1):=by unfold entF fX;rw[bG,bG,pP,aE7 f (pT h) _ (aC _),cO];congr 1;simp[parN,bN,Function.comp_def]
theorem wK{f:FuncD}(h:fO f=0):((entF f).map (·.1)).Nodup:=by rw[uN h];have h2:=(fT h).2;unfold idsF idsB at h2;rw[aK,decide_eq_true_eq]at h2;exact h2.1
theorem aE8{f:FuncD}(h:fO f=0)(id:Int):mget (defM (entF f)) id=((entF f).find? fun e=>e.1 == id).map defV:=aHT id _ _ rfl (wK h)
theorem yA(w:World):(zeroValue 171).run Tryz.prog w=.ok (.agg #[.int .i64 0,.int .i64 0]) w:=by kernel_rfl
section
variable {P:Program} {w:World}
theorem IMap.lookup0{t k e:TypeId}{q:IntKind}{b:Nat}{m:List (Int×Value)}(h:IMap w b m)(ht:P.underlying t=some (.map k e))(hk:P.underlying k=some (.int q)){z:Value}(hz:(zeroValue e).run P w=.ok z w)(x:Int):
  (Instr.lookup t (.map (some b)) (.int .i64 x) false).run P w=.ok ((mget m x).getD z) w:=by
 obtain⟨es,c,hh,hm,_⟩:=h.ex;have hf:=oV (P:=P) (w:=w) hk x hm;unfold Instr.lookup;have hg:(Sem.getObj b Sem.pure:Sem Obj).run P w=.ok (.map es c) w:=by simp[Sem.run,hh]
 rw[qO];simp only[Sem.run_bind,run_underlying ht,Result.andThen,getObj,hg,Sem.run_pure,nV hk,hf]
 cases hi:(m.findIdx? (fun p=>p.1 == x))with
 | none=>simp[hz,Result.andThen,Sem.run_pure]
 | some j=>
  simp only[eB]
  cases hj:m[j]? with
  | none=>simp[hz,Result.andThen,Sem.run_pure]
  | some p=>simp[Result.andThen,Sem.run_pure]
variable {ops:Array Oper} {rest:List Oper} {o:Oper} {a:Act} {Q:Exit->Act->World->Prop}
theorem fU(hg:o.guard=none)(m x:Operand)(t:TypeId)(hop:o.op=Op.lookup t m x false){k e:TypeId}{q:IntKind}(ht:P.underlying t=some (.map k e))(hk:P.underlying k=some (.int q)){z:Value}(hz:(zeroValue e).run P w=.ok z w)
  {b:Nat} {mm:List (Int×Value)} (hm:a.eval m=.map (some b)) (h:IMap w b mm) {y:Int} (hx:a.eval x=.int .i64 y) (hK:wpList P ops Q rest (a.put o.dst ((mget mm y).getD z)) w):wpList P ops Q (o :: rest) a w:=by
 refine wpList_plain hg fun K' hK'=> ?_;unfold Oper.wp;simp[execOp,hop,hm,hx,h.lookup0 ht hk hz y,Result.andThen];exact hK' _ _ hK
end
theorem tP{w:World}{u v:Value}{xs ys:List Int}(hu:Ints w u xs)(hv:Ints w v ys):Calls Tryz.prog 81 #[u,v] w fun e w'=>e=.returned (.bool (decide (xs=ys)))/\Below w.heap.size w w':=by
 obtain⟨a1,c1,b1,o1,rfl,ak,hm1,ac,hx⟩:=hu.parts;obtain⟨a2,c2,b2,o2,rfl,aj,hm2,ad,hy⟩:=hv.parts;obtain⟨n1,ae⟩:∃n,n=xs.length:=⟨_,rfl⟩;obtain⟨n2,ab⟩:∃n,n=ys.length:=⟨_,rfl⟩;rw[<-ae]at ak ac hx⊢;rw[<-ab]at aj ad hy⊢;have G1:=h! ae;have G2:=h! ab;have al:=h! ac;have am:=h! ad;have HX:=h! hx;have HY:=h! hy;have HW:=h! (Below.refl w.heap.size w);clear hu hv ae ab ac ad hx hy;by_cases hne:n1=n2
 ·subst hne;go_enter Tryz.func81,Tryz.ntmps81;go_wp2_with fail;go_loopw [13] (fun i wr=>∃k:Nat,k<=n1/\i=.int .i64 k/\(∀j,j<k->xs.getD j 0=ys.getD j 0)/\Below w.heap.size w wr) (fun i _=>n1 - (intOf i).toNat)
  case atStart=>exact⟨0,aL _,rfl,fun j h=>absurd h (eT _),HW.out⟩
  obtain⟨k,hk,rfl,hs,hW⟩:=hrel;have HS:=h! hs;replace HW:=h! hW;clear hs hW;generalize wr=w3 at*;by_cases hlt:k<n1
  ·obtain⟨rfl,ap⟩:=al.out (by omega);obtain⟨rfl,ai⟩:=am.out (by omega);have ag:=(HW.cell (p:=⟨b1,o1+k,none⟩) ap).trans (HX k hlt);have ah:=(HW.cell (p:=⟨b2,o2+k,none⟩) ai).trans (HY k hlt);obtain⟨p,hp⟩:∃p,p=xs.getD k 0:=⟨_,rfl⟩;obtain⟨q,hq⟩:∃q,q=ys.getD k 0:=⟨_,rfl⟩;rw[<-hp]at ag;rw[<-hq]at ah;have H3:=h! hp;have H4:=h! hq;clear hp hq
   cases hpq:(p != q)
   ·have aa:=h! hpq;go_upto_region 6 with(fail);go_quiet (fail);go_wp2;go_roundw
    case rel=>
     refine⟨k+1,hlt,by go_num, ?_,fS HW.out _⟩;intro j hj;by_cases e:j=k
     ·subst e;have:=aa.out;simp at this;rw[<-H3.out,<-H4.out,this]
     exact HS j (by omega)
    simp[intOf];omega
   have aa:=h! hpq;go_upto_region 6 with(fail);go_quiet (fail);go_wp2;go_ret;exact⟨iD (decide_eq_false (fun e=>by have:=aa.out;simp at this;exact this (by rw[H3.out,H4.out,e]))).symm,fS HW.out _⟩
  have af:k=n1:=by omega
  have an:Hid (xs=ys):=h! (aF3 (by rw[<-G1.out,<-G2.out]) (by rw[<-G1.out,<-af];exact HS));clear af;go_wp2;go_ret;exact⟨iD (decide_eq_true an.out).symm,HW.out⟩
 have hq:((n1:Int) != (n2:Int))=true:=by simp;omega
 have ao:=h! hne;clear hne;go_enter Tryz.func81,Tryz.ntmps81;go_wp2;go_ret;exact⟨iD (decide_eq_false (fun e=>ao (by rw[G1.out,G2.out,e]))).symm,HW.out⟩
theorem aJ6{w:World}{v:Value}{xs:List Int}{k:FuncId}{cap:Array Value}(eg:Enters Tryz.prog k)(p:Int->Bool)(hv:Ints w v xs)
  (hstep:∀(W:World) (x:Int),x∈xs->Below w.heap.size w W->Calls Tryz.prog k (#[.int .i64 x]++cap) W fun e W'=>e=.returned (.bool (p x))/\Below W.heap.size W W'):
  Calls Tryz.prog 166 #[v,.func (.func k) #[] cap] w fun e w'=>∃r:Int,e=.returned (.int .i64 r)/\decide (0<=r)=xs.any p/\Below w.heap.size w w':=by
 obtain⟨a1,c1,b1,o1,rfl,ai,hm1,ab,hx⟩:=hv.parts;obtain⟨n1,ad⟩:∃n,n=xs.length:=⟨_,rfl⟩;rw[<-ad]at ai ab hx⊢;have G1:=h! ad;have aj:=h! ab;have HX:=h! hx;have HW:=h! (Below.refl w.heap.size w);have ag:=h! hstep;clear hv ad ab hx hstep;have eg1:∀(args:Array Value) (w:World),(callFunc k args).run Tryz.prog w=.ok (.enter k args) w:=eg;go_enter Tryz.func166,Tryz.ntmps166;go_wp2_with fail;go_loopw [8] (fun i wr=>∃j:Nat,j<=n1/\i=.int .i64 j/\(xs.take j).any p=false/\Below w.heap.size w wr) (fun i _=>n1 - (intOf i).toNat)
 case atStart=>exact⟨0,aL _,rfl,rfl,HW.out⟩
 case round=>
  obtain⟨j,hj,rfl,hs,hW⟩:=hrel;have HS:=h! hs;replace HW:=h! hW;clear hs hW;generalize wr=w3 at*;by_cases hlt:j<n1
  ·obtain⟨rfl,am⟩:=aj.out (by omega);have ah:=(HW.cell (p:=⟨b1,o1+j,none⟩) am).trans (HX j hlt);obtain⟨x,hx⟩:∃x,x=xs.getD j 0:=⟨_,rfl⟩;rw[<-hx]at ah;have ae:xs[j]? =some x:=by rw[hx];exact gF xs j (by have:=G1.out;omega)
   have af:=h! (aG ae);have al:=h! (fR xs j x ae);clear hx ae;obtain⟨c,hc⟩:∃c,c=p x:=⟨_,rfl⟩;have HC:=h! hc;have HCT:=h! (ag w3 x af.out HW.out);rw[<-hc]at HCT;clear hc
   cases c
   ·go_wp2_with (go_at_fn k;refine HCT.mono ?_;rintro e w4 ⟨rfl,hb4⟩;have HB4:=h! hb4;clear hb4);have aa:=w! HW HB4.out;have ak:Hid ((xs.take (j+1)).any p=false):=h! (by rw[al.out,List.any_append,HS.out];simp[<-HC.out]);go_roundw
    case rel=>exact⟨j+1,hlt,by go_num,ak.out,aa.out⟩
    simp[intOf];omega
   go_wp2_with (go_at_fn k;refine HCT.mono ?_;rintro e w4 ⟨rfl,hb4⟩;have HB4:=h! hb4;clear hb4);have aa:=w! HW HB4.out;have ac:Hid (xs.any p=true):=h! (by rw[fA];exact⟨x,af.out,HC.symm⟩);go_ret;exact⟨j,rfl,by rw[ac.out];simp,aa.out⟩
  have ac:Hid (xs.any p=false):=h! (by have h9:=HS.out;rw[aI (by have:=G1.out;omega)]at h9;exact h9);go_wp2;go_ret;exact⟨-1,rfl,by rw[ac.out];simp,HW.out⟩
theorem aHU{w:World}{v:Value}{xs:List Int}{k:FuncId}{cap:Array Value}(eg:Enters Tryz.prog k)(p:Int->Bool)(hv:Ints w v xs)
  (hstep:∀(W:World) (x:Int),x∈xs->Below w.heap.size w W->Calls Tryz.prog k (#[.int .i64 x]++cap) W fun e W'=>e=.returned (.bool (p x))/\Below W.heap.size W W'):
  Calls Tryz.prog 105 #[v,.func (.func k) #[] cap] w fun e w'=>e=.returned (.bool (xs.any p))/\Below w.heap.size w w':=by
 have HC:=h! (aJ6 eg p hv hstep);clear hv hstep;go_enter Tryz.func105,Tryz.ntmps105;go_wp2_with fail;refine HC.mono ?_;rintro e w2 ⟨r,rfl,hr,hb⟩;have HR:=h! hr;have HB:=h! hb;clear hr hb;go_wp2;go_ret;exact⟨iD HR.out,HB.out⟩
end Go.Proofs.YtagabiidbbhhmaaGreat
