/- Part 35. -/
import Derived.Test.YtagabiidbbhhmaaGreatET27
namespace Go.Proofs.YtagabiidbbhhmaaGreat
set_option linter.all false
set_option maxRecDepth 100000
open Go.RowKit
theorem uS{α:Type}(g:Nat->List α)(n:Nat)(h:∀i,i<n->g i<+: g (i+1)):∀k i,i+k=n->g i<+: g n:=by
 intro k;induction k with
 | zero=>intro i e;rw[<-e,dE];exact List.prefix_rfl
 | succ k ih=>intro i e;exact(h i (by omega)).trans (ih (i+1) (by omega))
theorem zX(b:Nat)(ps:List PhiD){i:Nat}(h:i<=ps.length):phiN b ps i<+: phiN b ps ps.length:=
 uS (phiN b ps) ps.length (fun j hj=>by rw[pR (aA hj)];exact eD _ _) (ps.length - i) i (by omega)
theorem zY(b:Nat)(xs:List InstrD){i:Nat}(h:i<=xs.length):codN b xs i<+: codN b xs xs.length:=
 uS (codN b xs) xs.length (fun j hj=>by rw[oB (aA hj)];exact eD _ _) (xs.length - i) i (by omega)
theorem aIF(f:FuncD){c:Nat}(h:c<=f.blocks.length):blkN f c<+: blkN f f.blocks.length:=
 uS (blkN f) f.blocks.length (fun j hj=>by rw[mY (aA hj)];exact eD _ _) (f.blocks.length - c) c (by omega)
theorem zZ{f:FuncD}{c:Nat}{x:BlockD}(h:f.blocks[c]? =some x):parN f.params.length++(blkN f c++entB c x)<+: entF f:=by unfold entF;rw[cJ,<-mY h];exact aIF f (aD.1 h).1
def NoE(id:Int)(l:List (Int×Int×Int)):Prop:=∀e∈l,e.1≠id
theorem NoE.find{id:Int}{l:List (Int×Int×Int)}(h:NoE id l):(l.find? fun e=>e.1 == id)=none:=by rw[List.find?_eq_none];intro x hx;simpa using h x hx
theorem NoE.found{id:Int}{l L:List (Int×Int×Int)}{e:Int×Int×Int}(h:NoE id l)(he:e.1=id)(hp:l++[e]<+: L):(L.find? fun e=>e.1 == id)=some e:=by obtain⟨r,rfl⟩:=hp;rw[cD,List.find?_append,h.find,Option.none_or];simp[fN,he]
theorem NoE.append{id:Int}{l m:List (Int×Int×Int)}(h:NoE id l)(k:NoE id m):NoE id (l++m):=fun e he=>by
 rcases aJ.1 he with he|he
 ·exact h e he
 exact k e he
theorem aF6{n:Nat}{id:Int}(h:¬(0<=id/\id<(n:Int))):NoE id (parN n):=fun e he hid=>by unfold parN at he;rw[aN]at he;obtain⟨j,hj,rfl⟩:=he;have:=bQ.1 hj;simp at hid;omega
theorem aCQ{n:Nat}{id:Int}(h0:0<=id)(h1:id<(n:Int))(r:List (Int×Int×Int)):((parN n++r).find? fun e=>e.1 == id)=some (id,0,-1):=by
 obtain⟨k,rfl⟩:∃k:Nat,id=(k:Int):=⟨id.toNat,by omega⟩;have hk:k<n:=by omega
 refine(aF6 (n:=k) (by omega)).found (e:=((k:Int),0,-1)) rfl ?_;rw[<-sG];have:=uS parN n (fun i _=>by rw[sG];exact eD _ _) (n - (k+1)) (k+1) (by omega);exact this.trans (eD _ _)
def yL(f:FuncD)(id b at_:Int)(ok:Bool):Prop:=
 (∃e,((entF f).find? fun e=>e.1 == id)=some e/\b=e.2.1/\at_=e.2.2/\ok=true)\/(((entF f).find? fun e=>e.1 == id)=none/\b=0/\at_=0/\ok=false)
def aNK(f:FuncD)(id:Int)(w:World)(e:Ending)(w':World):Prop:=∃(b at_:Int) (ok:Bool),e=.returned (.tuple #[.int .i64 b,.int .i64 at_,.bool ok])/\yL f id b at_ ok/\Below w.heap.size w w'
set_option maxHeartbeats 25600000 in
theorem aMW{w:World}{v:Value}{f:FuncD}{id:Int}(hv:gS w v f):Calls Tryz.prog 78 #[v,.int .i64 id] w (aNK f id w):=by
 obtain⟨ap,cp,ab,cb,rfl,hp,ha,hc,hB⟩:=hv.form;have cG:=hp.le;obtain⟨a2,c2,bb,bo,cz,db,hbm,dg,ck,cr⟩:=fW hB
 cases cz;obtain⟨np,ch⟩:∃np,np=f.params.length:=⟨_,rfl⟩;obtain⟨nb,cd⟩:∃nb,nb=f.blocks.length:=⟨_,rfl⟩;rw[<-ch]at cG⊢;rw[<-cd]at db ck dg⊢;have bz:=h! cd;have cq:=h! ch;have ct:=h! ck;have co:=h! cr;clear hp ha hc hB hv cr ch cd ck;generalize f.arrays=ar at*;generalize f.cells=ce at*;go_enter Tryz.func78,Tryz.ntmps78;go_upto_region 1 with(fail);have cs:=(Below.refl w.heap.size w).alloc (aC _) (.cells #[.slice ap np cp,.int .i64 ar,.int .i64 ce,.slice ab nb cb] 25);have HW:=h! cs;clear cs;have B1:=h! (Box.new w #[.slice ap np cp,.int .i64 ar,.int .i64 ce,.slice ab nb cb] 25);generalize w.alloc (.cells #[.slice ap np cp,.int .i64 ar,.int .i64 ce,.slice ab nb cb] 25)=wv at*;obtain⟨lB1,cB1,fB1⟩:=B1.out;by_cases hpar:0<=id/\id<(np:Int)
 ·obtain⟨h0,h1⟩:=hpar;have HD:Hid (yL f id 0 (-1) true):=h! (.inl ⟨(id,0,-1),by unfold entF;rw[<-cq.out];exact aCQ h0 h1 _,rfl,rfl,rfl⟩);go_wp2;go_ret3;exact⟨0,-1,true,rfl,HD.out,HW.out⟩
 have cw:Hid (NoE id (parN f.params.length++blkN f 0)):=h! (by rw[<-cq.out];exact(aF6 hpar).append (by intro e he;simp[blkN]at he));have bv:id<0\/(0<=id/\(np:Int)<=id):=by omega
 clear hpar;rcases bv with an|⟨an,cj⟩
 ·have bp:¬0<=id:=by omega
  clear an;go_wp2_with fail;go_loopw [7] (fun iv wr=>∃c:Nat,c<=nb/\iv=.int .i64 c/\NoE id (parN f.params.length++blkN f c)/\wr=wv) (fun iv _=>nb - (intOf iv).toNat)
  case atStart=>exact⟨0,aL _,rfl,cw.out,rfl⟩
  obtain⟨c,hc,rfl,hn,rfl⟩:=hrel;have HN:=h! hn;clear hn;by_cases hltb:c<nb
  ·obtain⟨rfl,cm⟩:=ct.out (by omega);obtain⟨x,am⟩:∃x,f.blocks[c]? =some x:=⟨_,aA (by have:=bz.out;omega)⟩;obtain⟨dc,dd,dh,cx,cM,df,hC⟩:=co.out c x am;have cg:=h! (mY am);have ah:=h! (zZ am);have bm:=hC.phis;have bx:=hC.code;obtain⟨pl,ae⟩:∃pl,pl=x.phis.length:=⟨_,rfl⟩;obtain⟨cl,bc⟩:∃cl,cl=x.code.length:=⟨_,rfl⟩;obtain⟨ac,cn,da,cy,aj,bO,de,al,ay,br⟩:=gU bx;obtain⟨cB,ci,cF,cL,ai,ax,cc,ag,ad,ak⟩:=gL bm;obtain⟨k0,k1,k2,k3,k4,k5,q1,q2,q3,q4,q5,q6⟩:=hC.below HW.out cm;rw[<-ae]at ai ax ag ad k0;rw[<-bc]at aj bO al ay k1
   cases ai
   cases aj;have aw:=h! ae;have bf:=h! bc;have az:=h! ad;have ba:=h! ak;have bk:=h! ay;have bj:=h! br;clear ae bc ad ak ay br q1 q2 q3 q4 q5 q6 hC bm bx am k2 k3 k4 k5;go_wp2_with fail;go_loopw [8] (fun iv wr'=>∃i:Nat,i<=pl/\iv=.int .i64 i/\NoE id (parN f.params.length++(blkN f c++phiN c x.phis i))/\wr'=wr) (fun iv _=>pl - (intOf iv).toNat)
   case atStart=>exact⟨0,Nat.zero_le _,rfl,by simpa [phiN]using HN.out,rfl⟩
   obtain⟨i,hi,rfl,hn,rfl⟩:=hrel;have be:=h! hn;clear hn;by_cases hlt1:i<pl
   ·obtain⟨rfl,bd⟩:=az.out (by omega);obtain⟨p,bh⟩:∃p,x.phis[i]? =some p:=⟨_,aA (by have:=aw.out;omega)⟩;obtain⟨af,av,cf,cv,hP⟩:=ba.out i p bh;obtain⟨m0,m1,m2,m3,r1,r2,r3,r4⟩:=hP.below HW.out bd;have bs:=h! (pR (b:=c) bh);have bl:Hid (parN f.params.length++(blkN f c++phiN c x.phis (i+1))<+: entF f):=h! (by refine List.IsPrefix.trans ?_ ah.out;rw[cJ,cJ];unfold entB;exact(zX c x.phis (by have:=aw.out;omega)).trans (eD _ _));clear m1 m2 m3 r1 r2 r3 r4 hP bh;by_cases hpid:p.id=id
    ·have HD:Hid (yL f id c (-1) true):=h! (.inl ⟨(p.id,(c:Int),-1),be.found hpid (by have h9:=bl.out;rw[bs.out]at h9;simpa [List.append_assoc]using h9),rfl,rfl,rfl⟩);have hq:(p.id == id)=true:=by simp[hpid]
     clear hpid;go_wp2;go_ret3;exact⟨c,-1,true,rfl,HD.out,HW.out⟩
    have bi:Hid (NoE id (parN f.params.length++(blkN f c++phiN c x.phis (i+1)))):=h! (by rw[bs.out,<-List.append_assoc,<-List.append_assoc];refine NoE.append (by rw[cD];exact be) ?_;intro e he;simp at he;subst he;exact hpid);have hq:(p.id == id)=false:=by simp[hpid]
    clear hpid;go_wp2;go_roundw
    case rel=>exact⟨i+1,hlt1,by go_num,bi.out,by first|rfl|trivial⟩
    simp[intOf];omega
   have bn:i=pl:=by omega
   have bi:Hid (NoE id (parN f.params.length++(blkN f c++(phiN c x.phis x.phis.length++codN c x.code 0)))):=h! (by have h9:=be.out;rw[bn,aw.out]at h9;simpa [codN]using h9);clear bn;go_wp2_with fail;go_loopw [9] (fun iv wr''=>∃k:Nat,k<=cl/\iv=.int .i64 k/\NoE id (parN f.params.length++(blkN f c++(phiN c x.phis x.phis.length++codN c x.code k)))/\wr''=wr) (fun iv _=>cl - (intOf iv).toNat)
   case atStart=>exact⟨0,aL _,rfl,bi.out,rfl⟩
   obtain⟨k,hk,rfl,hn,rfl⟩:=hrel;have aq:=h! hn;clear hn;by_cases hlt3:k<cl
   ·obtain⟨rfl,bd⟩:=bk.out (by omega);obtain⟨y,bg⟩:∃y,x.code[k]? =some y:=⟨_,aA (by have:=bf.out;omega)⟩;obtain⟨aa,ca,hP⟩:=bj.out k y bg;obtain⟨m0,m1,m2,m3,r1,r2,r3,r4⟩:=hP.below HW.out bd;have bw:=h! (oB (b:=c) bg);have bl:Hid (parN f.params.length++(blkN f c++(phiN c x.phis x.phis.length++codN c x.code (k+1)))<+: entF f):=h! (by refine List.IsPrefix.trans ?_ ah.out;rw[cJ,cJ];unfold entB;rw[cJ];exact zY c x.code (by have:=bf.out;omega));clear m0 m2 m3 r1 r2 r3 r4 hP bg;by_cases hpid:y.id=id
    ·have hq:(y.id == id)=true:=by simp[hpid]
     have ao:Hid (NoE id (parN f.params.length++(blkN f c++(phiN c x.phis x.phis.length++codN c x.code (k+1))))):=h! (by rw[bw.out,if_neg (by rw[hpid];omega),cV];exact aq);clear hpid;go_wp2;go_roundw
     case rel=>exact⟨k+1,hlt3,by go_num,ao.out,by first|rfl|trivial⟩
     simp[intOf];omega
    have ao:Hid (NoE id (parN f.params.length++(blkN f c++(phiN c x.phis x.phis.length++codN c x.code (k+1))))):=h! (by
     rw[bw.out];by_cases h8:0<=y.id
     ·rw[if_pos h8,<-List.append_assoc,<-List.append_assoc,<-List.append_assoc];refine NoE.append (by rw[cD,cD];exact aq) ?_;intro e he;simp at he;subst he;exact hpid
     rw[if_neg h8,cV];exact aq)
    have hq:(y.id == id)=false:=by simp[hpid]
    clear hpid;go_wp2;go_roundw
    case rel=>exact⟨k+1,hlt3,by go_num,ao.out,by first|rfl|trivial⟩
    simp[intOf];omega
   have bq:k=cl:=by omega
   have ao:Hid (NoE id (parN f.params.length++blkN f (c+1))):=h! (by have h9:=aq.out;rw[bq,bf.out]at h9;rw[cg.out];exact h9);clear bq;go_wp2;go_roundw
   case rel=>exact⟨c+1,hltb,by go_num,ao.out,by first|rfl|trivial⟩
   simp[intOf];omega
  have bt:c=nb:=by omega
  have HD:Hid (yL f id 0 0 false):=h! (.inr ⟨NoE.find (by have h9:=HN.out;rw[bt,bz.out]at h9;exact h9),rfl,rfl,rfl⟩);clear bt;go_wp2;go_ret3;exact⟨0,0,false,rfl,HD.out,HW.out⟩
 have bp:0<=id:=an;have hnl:¬id<(np:Int):=by omega
 clear an cj;go_wp2_with fail;go_loopw [7] (fun iv wr=>∃c:Nat,c<=nb/\iv=.int .i64 c/\NoE id (parN f.params.length++blkN f c)/\wr=wv) (fun iv _=>nb - (intOf iv).toNat)
 case atStart=>exact⟨0,aL _,rfl,cw.out,rfl⟩
 obtain⟨c,hc,rfl,hn,rfl⟩:=hrel;have HN:=h! hn;clear hn;by_cases hltb:c<nb
 ·obtain⟨rfl,cm⟩:=ct.out (by omega);obtain⟨x,am⟩:∃x,f.blocks[c]? =some x:=⟨_,aA (by have:=bz.out;omega)⟩;obtain⟨dc,dd,dh,cx,cM,df,hC⟩:=co.out c x am;have cg:=h! (mY am);have ah:=h! (zZ am);have bm:=hC.phis;have bx:=hC.code;obtain⟨pl,ae⟩:∃pl,pl=x.phis.length:=⟨_,rfl⟩;obtain⟨cl,bc⟩:∃cl,cl=x.code.length:=⟨_,rfl⟩;obtain⟨ac,cn,da,cy,aj,bO,de,al,ay,br⟩:=gU bx;obtain⟨cB,ci,cF,cL,ai,ax,cc,ag,ad,ak⟩:=gL bm;obtain⟨k0,k1,k2,k3,k4,k5,q1,q2,q3,q4,q5,q6⟩:=hC.below HW.out cm;rw[<-ae]at ai ax ag ad k0;rw[<-bc]at aj bO al ay k1
  cases ai
  cases aj;have aw:=h! ae;have bf:=h! bc;have az:=h! ad;have ba:=h! ak;have bk:=h! ay;have bj:=h! br;clear ae bc ad ak ay br q1 q2 q3 q4 q5 q6 hC bm bx am k2 k3 k4 k5;go_wp2_with fail;go_loopw [8] (fun iv wr'=>∃i:Nat,i<=pl/\iv=.int .i64 i/\NoE id (parN f.params.length++(blkN f c++phiN c x.phis i))/\wr'=wr) (fun iv _=>pl - (intOf iv).toNat)
  case atStart=>exact⟨0,Nat.zero_le _,rfl,by simpa [phiN]using HN.out,rfl⟩
  obtain⟨i,hi,rfl,hn,rfl⟩:=hrel;have be:=h! hn;clear hn;by_cases hlt1:i<pl
  ·obtain⟨rfl,bd⟩:=az.out (by omega);obtain⟨p,bh⟩:∃p,x.phis[i]? =some p:=⟨_,aA (by have:=aw.out;omega)⟩;obtain⟨af,av,cf,cv,hP⟩:=ba.out i p bh;obtain⟨m0,m1,m2,m3,r1,r2,r3,r4⟩:=hP.below HW.out bd;have bs:=h! (pR (b:=c) bh);have bl:Hid (parN f.params.length++(blkN f c++phiN c x.phis (i+1))<+: entF f):=h! (by refine List.IsPrefix.trans ?_ ah.out;rw[cJ,cJ];unfold entB;exact(zX c x.phis (by have:=aw.out;omega)).trans (eD _ _));clear m1 m2 m3 r1 r2 r3 r4 hP bh;by_cases hpid:p.id=id
   ·have HD:Hid (yL f id c (-1) true):=h! (.inl ⟨(p.id,(c:Int),-1),be.found hpid (by have h9:=bl.out;rw[bs.out]at h9;simpa [List.append_assoc]using h9),rfl,rfl,rfl⟩);have hq:(p.id == id)=true:=by simp[hpid]
    clear hpid;go_wp2;go_ret3;exact⟨c,-1,true,rfl,HD.out,HW.out⟩
   have bi:Hid (NoE id (parN f.params.length++(blkN f c++phiN c x.phis (i+1)))):=h! (by rw[bs.out,<-List.append_assoc,<-List.append_assoc];refine NoE.append (by rw[cD];exact be) ?_;intro e he;simp at he;subst he;exact hpid);have hq:(p.id == id)=false:=by simp[hpid]
   clear hpid;go_wp2;go_roundw
   case rel=>exact⟨i+1,hlt1,by go_num,bi.out,by first|rfl|trivial⟩
   simp[intOf];omega
  have bn:i=pl:=by omega
  have bi:Hid (NoE id (parN f.params.length++(blkN f c++(phiN c x.phis x.phis.length++codN c x.code 0)))):=h! (by have h9:=be.out;rw[bn,aw.out]at h9;simpa [codN]using h9);clear bn;go_wp2_with fail;go_loopw [9] (fun iv wr''=>∃k:Nat,k<=cl/\iv=.int .i64 k/\NoE id (parN f.params.length++(blkN f c++(phiN c x.phis x.phis.length++codN c x.code k)))/\wr''=wr) (fun iv _=>cl - (intOf iv).toNat)
  case atStart=>exact⟨0,aL _,rfl,bi.out,rfl⟩
  obtain⟨k,hk,rfl,hn,rfl⟩:=hrel;have aq:=h! hn;clear hn;by_cases hlt3:k<cl
  ·obtain⟨rfl,bd⟩:=bk.out (by omega);obtain⟨y,bg⟩:∃y,x.code[k]? =some y:=⟨_,aA (by have:=bf.out;omega)⟩;obtain⟨aa,ca,hP⟩:=bj.out k y bg;obtain⟨m0,m1,m2,m3,r1,r2,r3,r4⟩:=hP.below HW.out bd;have bw:=h! (oB (b:=c) bg);have bl:Hid (parN f.params.length++(blkN f c++(phiN c x.phis x.phis.length++codN c x.code (k+1)))<+: entF f):=h! (by refine List.IsPrefix.trans ?_ ah.out;rw[cJ,cJ];unfold entB;rw[cJ];exact zY c x.code (by have:=bf.out;omega));clear m0 m2 m3 r1 r2 r3 r4 hP bg;by_cases hpid:y.id=id
   ·have hq:(y.id == id)=true:=by simp[hpid]
    have HD:Hid (yL f id c k true):=h! (.inl ⟨(y.id,(c:Int),(k:Int)),aq.found hpid (by have h9:=bl.out;rw[bw.out,if_pos (by rw[hpid];exact bp)]at h9;simpa [List.append_assoc]using h9),rfl,rfl,rfl⟩);clear hpid;go_wp2;go_ret3;exact⟨c,k,true,rfl,HD.out,HW.out⟩
   have ao:Hid (NoE id (parN f.params.length++(blkN f c++(phiN c x.phis x.phis.length++codN c x.code (k+1))))):=h! (by
    rw[bw.out];by_cases h8:0<=y.id
    ·rw[if_pos h8,<-List.append_assoc,<-List.append_assoc,<-List.append_assoc];refine NoE.append (by rw[cD,cD];exact aq) ?_;intro e he;simp at he;subst he;exact hpid
    rw[if_neg h8,cV];exact aq)
   have hq:(y.id == id)=false:=by simp[hpid]
   clear hpid;go_wp2;go_roundw
   case rel=>exact⟨k+1,hlt3,by go_num,ao.out,by first|rfl|trivial⟩
   simp[intOf];omega
  have bq:k=cl:=by omega
  have ao:Hid (NoE id (parN f.params.length++blkN f (c+1))):=h! (by have h9:=aq.out;rw[bq,bf.out]at h9;rw[cg.out];exact h9);clear bq;go_wp2;go_roundw
  case rel=>exact⟨c+1,hltb,by go_num,ao.out,by first|rfl|trivial⟩
  simp[intOf];omega
 have bt:c=nb:=by omega
 have HD:Hid (yL f id 0 0 false):=h! (.inr ⟨NoE.find (by have h9:=HN.out;rw[bt,bz.out]at h9;exact h9),rfl,rfl,rfl⟩);clear bt;go_wp2;go_ret3;exact⟨0,0,false,rfl,HD.out,HW.out⟩
end Go.Proofs.YtagabiidbbhhmaaGreat
