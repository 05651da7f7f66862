/- Part 26. -/
import Derived.Test.YtagabiidbbhhmaaGreatET24
import Derived.Test.YtagabiidbbhhmaaGreatET25
namespace Go.Proofs.YtagabiidbbhhmaaGreat
set_option maxHeartbeats 25600000
set_option linter.all false
set_option maxRecDepth 100000
section
open Go.RowKit
theorem fQ.placed{f:FuncD}{O:List Nat}(h:fQ f O):Placed (toB f) (fun b=>O.idxOf b):=by
 obtain⟨h1,h2,h3,h4,h5⟩:=h.facts;have aa:∀{b:Nat},Way (toB f) (-1) b->O[O.idxOf b]? =some b:=fun {b} hb=>by have hm:=(h2 b).2 hb;have hl:=aX hm;rw[aA hl,cA hl]
 refine⟨qR h1 h4,fun {a b} ha hb e=> ?_,fun {b} hb hb0=> ?_⟩
 ·have e1:=aa ha;have e2:=aa hb;have e:O.idxOf a=O.idxOf b:=e;rw[e,e2]at e1
  cases e1;rfl
 obtain⟨j,p,hj,hp,ab⟩:=h5 _ b (aa hb) hb0;exact⟨p,(h2 p).1 (aG hp),ab,by show O.idxOf p<O.idxOf b;rw[qR h1 hp];exact hj⟩
def encI(n:Nat)(I:Nat->Option Nat):List Int:=(List.range n).map fun b=>match I b with|none=> -1|some p=>(p:Int)
theorem pI(n:Nat)(I:Nat->Option Nat):(encI n I).length=n:=by simp[encI]
theorem oX{n b:Nat}{I:Nat->Option Nat}(h:b<n):(encI n I)[b]? =some (match I b with|none=> -1|some p=>(p:Int)):=by simp[encI,h]
theorem nX{n b p:Nat}{I:Nat->Option Nat}(h:b<n)(hp:I b=some p):(encI n I)[b]? =some (p:Int):=by rw[oX h,hp]
theorem aDY{n b:Nat}{I:Nat->Option Nat}(h:b<n)(hp:I b=none):(encI n I)[b]? =some (-1):=by rw[oX h,hp]
theorem aG0{n b m:Nat}{I:Nat->Option Nat}(h:b<n):(encI n I).set b (m:Int)=encI n (upd' I b m):=by
 apply bJ;intro t;rw[cT,pI];by_cases ht:t<n
 ·rw[oX ht,oX ht];by_cases e:b=t
  ·subst e;rw[if_pos rfl,if_pos h,qH]
  rw[if_neg e,pJ I m (Ne.symm e)]
 rw[aS (by rw[pI];omega),aS (by rw[pI];omega)];split<;>simp_all
theorem aA9(n:Nat):encI n (fun _=>none)=List.replicate n (-1):=by
 apply bJ;intro t;by_cases ht:t<n
 ·rw[oX ht];simp[ht]
 rw[aS (by rw[pI];omega),aS (by simp;omega)]
theorem nY{n b:Nat}{O:List Nat}(h:b<n):(jG n O O.length)[b]? =some (if b∈O then ((O.idxOf b:Nat):Int) else -1):=by unfold jG;rw[cO];simp[h]
theorem rO{n b:Nat}{O:List Nat}(h:b<n)(hb:b∈O):(jG n O O.length)[b]? =some ((O.idxOf b:Nat):Int):=by rw[nY h,if_pos hb]
theorem vQ{n b:Nat}{O:List Nat}(h:b<n)(hb:b∉O):(jG n O O.length)[b]? =some (-1):=by rw[nY h,if_neg hb]
structure TreeM(f:FuncD)(W:World)(bt bg lg lcap:Nat)(g:Array Value)(pv ov lv:Value)(O:List Nat)(I:Nat->Option Nat):Prop where
 tree:Box W bt #[.pointer (some ⟨bg,0,none⟩),.slice (some ⟨lg,0,none⟩) f.blocks.length lcap]
 graph:Box W bg (g++#[pv,ov,lv])
 gsize:g.size=4
 idom:Cells W (.slice (some ⟨lg,0,none⟩) f.blocks.length lcap) lg (encI f.blocks.length I)
 preds:nA W pv (iX f)
 order:Ints W ov (natI O)
 place:Ints W lv (jG f.blocks.length O O.length)
theorem TreeM.later{f:FuncD}{W W':World}{bt bg lg lcap:Nat}{g:Array Value}{pv ov lv:Value}{O:List Nat}{I:Nat->Option Nat}(h:TreeM f W bt bg lg lcap g pv ov lv O I)(hb:Below W.heap.size W W'):TreeM f W' bt bg lg lcap g pv ov lv O I:=
 ⟨h.tree.later hb,h.graph.later hb,h.gsize,h.idom.later hb,h.preds.below hb,h.order.below hb,h.place.below hb⟩
theorem aLW(g:Array Value)(pv ov lv:Value)(h:g.size=4):(g++#[pv,ov,lv])[4]? =some pv/\(g++#[pv,ov,lv])[5]? =some ov/\(g++#[pv,ov,lv])[6]? =some lv:=by refine⟨?_, ?_, ?_⟩<;>rw[Array.getElem?_append_right (by omega),h]<;>rfl
theorem TreeM.cells{f:FuncD}{W:World}{bt bg lg lcap:Nat}{g:Array Value}{pv ov lv:Value}{O:List Nat}{I:Nat->Option Nat}(h:TreeM f W bt bg lg lcap g pv ov lv O I):
  W.cell? ⟨bt,0,none⟩=some (.pointer (some ⟨bg,0,none⟩))/\W.cell? ⟨bt,1,none⟩=some (.slice (some ⟨lg,0,none⟩) f.blocks.length lcap)/\W.cell? ⟨bg,4,none⟩=some pv/\W.cell? ⟨bg,5,none⟩=some ov/\W.cell? ⟨bg,6,none⟩=some lv:=by
 obtain⟨e4,e5,e6⟩:=aLW g pv ov lv h.gsize;exact⟨h.tree.at 0 rfl,h.tree.at 1 rfl,h.graph.at 4 e4,h.graph.at 5 e5,h.graph.at 6 e6⟩
theorem aDZ{W:World}{f:FuncD}{bt bg lg lcap:Nat}{g:Array Value}{pv ov lv:Value}{O:List Nat}{I:Nat->Option Nat}(hT:TreeM f W bt bg lg lcap g pv ov lv O I)(hO:fQ f O)(h512:f.blocks.length<=512)(hI:Tree (toB f) (fun b=>O.idxOf b) I)
  {x y:Nat} (hx:Proc I x) (hy:Proc I y):
  Calls Tryz.prog 178 #[.pointer (some ⟨bt,0,none⟩),.int .i64 x,.int .i64 y] W fun e w'=>∃m:Nat,e=.returned (.int .i64 m)/\Proc I m/\(∀c,Anc I c m↔(Anc I c x/\Anc I c y))/\Below W.heap.size W w':=by
 obtain⟨bx,be,-,-,ba⟩:=hT.cells;obtain⟨pa,pc,pb,po,br,bk,hpm,al,bw⟩:=hT.place.parts;rw[gP]at br bk al;subst br;obtain⟨lc2,-,-,-,bc,cb⟩:=hT.idom.form;obtain⟨h1,h2,h3,h4,h5⟩:=hO.facts;have hP:=hO.placed;obtain⟨nb,aq⟩:∃nb,nb=f.blocks.length:=⟨_,rfl⟩;rw[<-aq]at be bk al bc h512 h3 ba;have ca:0<nb:=by have:=h3 0 (aG h4);omega
 obtain⟨rfl,bq⟩:=al ca;have ah:=hT.idom.lt;have ab:=hT.tree.lt;have aw:=hT.graph.lt;have bO:=h! bx;have bz:=h! be;have cc:=h! ba;have bs:=h! bw;have bm:=h! bc;have ak:=h! hI;have am:=h! hP;have aj:=h! h2;have bp:=h! h3;have HX:=h! hx;have HY:=h! hy;have ai:=h! aq;have HW:=h! (Below.refl W.heap.size W);clear hT bx be ba bw bc cb h1 h2 h3 h4 h5 hP hI hO hx hy aq al;go_enter Tryz.func178,Tryz.ntmps178;go_wp2_with fail;go_loopw [1,2] (fun u v wr=>∃a b:Nat,u=.int .i64 a/\v=.int .i64 b/\Proc I a/\Proc I b/\(∀c,(Anc I c a/\Anc I c b)↔(Anc I c x/\Anc I c y))/\Below W.heap.size W wr) (fun u v _=>O.idxOf (intOf u).toNat+O.idxOf (intOf v).toNat)
 case atStart=>exact⟨x,y,rfl,rfl,HX.out,HY.out,fun _=>Iff.rfl,HW.out⟩
 case round=>
  obtain⟨a,b,rfl,rfl,ha,hb,bn,hW⟩:=hrel;have ay:=ak.proc_way ha;have bb:=ak.proc_way hb;have bi:=bp.out a ((aj a).2 ay);have bf:=bp.out b ((aj b).2 bb);have HA:=h! ha;have HB:=h! hb;have bd:=h! bn;have bv:=h! ay;have bo:=h! bb;replace HW:=h! hW;clear ha hb bn ay bb hW;by_cases hne:a=b
  ·have hq:((a:Int) != (b:Int))=false:=by simp[hne]
   have az:=h! hne;clear hne;go_wp2;go_ret;refine⟨a,rfl,HA.out,fun c=> ?_,HW.out⟩;rw[<-bd.out c,<-az.out];exact⟨fun h=>⟨h,h⟩,fun h=>h.1⟩
  have hq:((a:Int) != (b:Int))=true:=by simp;omega
  have az:=h! hne;have d0:=(HW.cell (p:=⟨bt,0,none⟩) ab).trans bO.out;have d1:=(HW.cell (p:=⟨bt,1,none⟩) ab).trans bz.out;have d6:=(HW.cell (p:=⟨bg,6,none⟩) aw).trans cc.out;have ag:(jG f.blocks.length O O.length).getD a 0=((O.idxOf a:Nat):Int):=by rw[aH,rO (by rw[<-ai.out];exact bi) ((aj a).2 bv.out)];rfl
  have ac:(jG f.blocks.length O O.length).getD b 0=((O.idxOf b:Nat):Int):=by rw[aH,rO (by rw[<-ai.out];exact bf) ((aj b).2 bo.out)];rfl
  have da:=(HW.cell (p:=⟨pb,po+a,none⟩) bq).trans (bs a (by rw[gP,<-ai.out];exact bi));have db:=(HW.cell (p:=⟨pb,po+b,none⟩) bq).trans (bs b (by rw[gP,<-ai.out];exact bf));rw[ag]at da;rw[ac]at db;have bl:Hid (∃pa:Nat,pa=O.idxOf a):=h! ⟨_,rfl⟩;obtain⟨ia,bj⟩:=bl.out;obtain⟨ib,ap⟩:∃ib,ib=O.idxOf b:=⟨_,rfl⟩;rw[<-bj]at da;rw[<-ap]at db;have bh:=h! bj;have ar:=h! ap;clear hne ag ac bj ap bl;by_cases hlt:ib<ia
  ·have hg:decide ((ib:Int)<(ia:Int))=true:=by simp;exact hlt
   obtain⟨p,hp,af,ae,aa⟩:=ak.meets am.zero HA.out (y:=b) (by show O.idxOf b<O.idxOf a;rw[<-bh.out,<-ar.out];exact hlt);have dp:=(HW.cell (p:=⟨lg,a,none⟩) ah).trans (bm a p (nX bi hp));have ax:=h! af;have ao:=h! ae;have an:=h! aa;clear hp af ae aa;go_upto_region 2 with(fail);go_quiet (fail);go_wp2;go_roundw
   case rel=>exact⟨p,b,rfl,rfl,ax.out,HB.out,fun c=>(an c).trans (bd c),fS HW.out _⟩
   have h9:=ao.out;simp only[intOf,bW]at h9⊢;omega
  have hg:decide ((ib:Int)<(ia:Int))=false:=by simp;omega
  have ad:O.idxOf a<O.idxOf b:=by
   rw[<-bh.out,<-ar.out];rcases dW ia ib with h|h
   ·exact h
   exact absurd (am.inj bv.out bo.out (by show O.idxOf a=O.idxOf b;rw[<-bh.out,<-ar.out];omega)) az.out
  obtain⟨p,hp,af,ae,aa⟩:=ak.meets am.zero HB.out (y:=a) ad;have dp:=(HW.cell (p:=⟨lg,b,none⟩) ah).trans (bm b p (nX bf hp));have ax:=h! af;have ao:=h! ae;have an:=h! aa;clear hp af ae aa ad;go_upto_region 2 with(fail);go_quiet (fail);go_wp2;go_roundw
  case rel=>exact⟨a,p,rfl,rfl,HA.out,ax.out,fun c=>(and_comm.trans ((an c).trans and_comm)).trans (bd c),fS HW.out _⟩
  have h9:=ao.out;simp only[intOf,bW]at h9⊢;omega
end
section
open Go.RowKit
structure DomI(f:FuncD)(O:List Nat)(I:Nat->Option Nat):Prop where
 tree:Tree (toB f) (fun b=>O.idxOf b) I
 proc:∀{v:Nat},Way (toB f) (-1) v->Proc I v
 anc:∀{c v:Nat},Way (toB f) (-1) v->(Anc I c v↔¬Way (toB f) (c:Int) v)
def NowI(f:FuncD)(I:Nat->Option Nat)(l:List Nat)(x:Int):Prop:=
 (x= -1/\∀p∈l,Way (toB f) (-1) p->¬Proc I p)\/∃m:Nat,x=m/\Proc I m/\∀c,Anc I c m↔∀p∈l,Way (toB f) (-1) p->Proc I p->Anc I c p
theorem NowI.skip{f:FuncD}{I:Nat->Option Nat}{l:List Nat}{x:Int}{p:Nat}(h:NowI f I l x)(hp:Way (toB f) (-1) p->¬Proc I p):NowI f I (l++[p]) x:=by
 rcases h with⟨rfl,h⟩|⟨m,rfl,h1,h2⟩
 ·exact .inl ⟨rfl,fun q hq=>by rcases aJ.1 hq with hq|hq;exact h q hq;simp at hq;subst hq;exact hp⟩
 refine .inr ⟨m,rfl,h1,fun c=>(h2 c).trans ⟨fun h q hq=> ?_,fun h q hq=>h q (aJ.2 (.inl hq))⟩⟩;rcases aJ.1 hq with hq|hq
 ·exact h q hq
 simp at hq;subst hq;exact fun h3 h4=>absurd h4 (hp h3)
theorem NowI.first{f:FuncD}{I:Nat->Option Nat}{l:List Nat}{p:Nat}(h:∀q∈l,Way (toB f) (-1) q->¬Proc I q)(hw:Way (toB f) (-1) p)(hp:Proc I p):NowI f I (l++[p]) p:=by
 refine .inr ⟨p,rfl,hp,fun c=>⟨fun hc q hq h3 h4=> ?_,fun h=>h p (aJ.2 (.inr (by simp))) hw hp⟩⟩;rcases aJ.1 hq with hq|hq
 ·exact absurd h4 (h q hq h3)
 simp at hq;subst hq;exact hc
theorem NowI.more{f:FuncD}{I:Nat->Option Nat}{l:List Nat}{m m' p:Nat}(h:∀c,Anc I c m↔∀q∈l,Way (toB f) (-1) q->Proc I q->Anc I c q)(hw:Way (toB f) (-1) p)(hp:Proc I p)(hm:Proc I m')
  (hmm:∀c,Anc I c m'↔(Anc I c m/\Anc I c p)):NowI f I (l++[p]) m':=by
 refine .inr ⟨m',rfl,hm,fun c=>(hmm c).trans ⟨fun⟨h1,h2⟩ q hq h3 h4=> ?_,fun h1=>⟨(h c).2 fun q hq=>h1 q (aJ.2 (.inl hq)),h1 p (aJ.2 (.inr (by simp))) hw hp⟩⟩⟩;rcases aJ.1 hq with hq|hq
 ·exact(h c).1 h1 q hq h3 h4
 ·simp at hq;subst hq;exact h2
theorem NowI.done{f:FuncD}{I:Nat->Option Nat}{b:Nat}{x:Int}(h:NowI f I (gT f f.blocks.length 0 b) x)(hlow:∀p,Way (toB f) (-1) p->p<f.blocks.length)(hex:∃p,Way (toB f) (-1) p/\b∈toB f p/\Proc I p):∃m:Nat,x=m/\nZ (toB f) I b m:=by
 have aa:∀p,Way (toB f) (-1) p->(p∈gT f f.blocks.length 0 b↔b∈toB f p):=fun p hp=>by
  rw[iM,dU];constructor
  ·intro h;simpa using h.2
  intro h;exact⟨List.mem_range.2 (hlow p hp),by simpa using h⟩
 rcases h with⟨rfl,h⟩|⟨m,rfl,h1,h2⟩
 ·obtain⟨p,p1,p2,p3⟩:=hex;exact absurd p3 (h p ((aa p p1).2 p2) p1)
 exact⟨m,rfl,h1,fun c=>(h2 c).trans ⟨fun h p hp hw hpp=>h p ((aa p hw).2 hp) hw hpp,fun h p hp hw hpp=>h p ((aa p hw).1 hp) hw hpp⟩⟩
def aJJ(f:FuncD)(v:Value)(bg:Nat)(O:List Nat)(w:World)(e:Ending)(w':World):Prop:=
 ∃(bt lg lcap:Nat) (g:Array Value) (pv ov lv:Value) (I:Nat->Option Nat),e=.returned (.pointer (some ⟨bt,0,none⟩))/\v=.agg g/\TreeM f w' bt bg lg lcap g pv ov lv O I/\DomI f O I/\Below w.heap.size w w'
theorem aLX{w w0:World}{v:Value}{f:FuncD}{bg:Nat}{O:List Nat}(hv:gS w v f)(hG:pN f v w0 w bg O)(hO:fQ f O)(hf:gX f=true):
  Calls Tryz.prog 135 #[.pointer (some ⟨bg,0,none⟩)] w (aJJ f v bg O w):=by
 obtain⟨fc,ck⟩:=jH hf;obtain⟨ap,cp,ab,cb,ec,-,-,-,-⟩:=hv.form;obtain⟨a0,a1,a2,a3,pv,ov,lv,e1,hB,hbg0,hP,hL,hI⟩:=hG;rw[ec]at e1;injection e1 with e1;injection e1 with e1;injection e1 with e10 e1;injection e1 with e11 e1;injection e1 with e12 e1;injection e1 with e13 e1;subst e10 e11 e12 e13;subst ec;obtain⟨h1,h2,h3,h4,h5⟩:=hO.facts;have da:=hO.placed;have dt:=hO.le;obtain⟨oa,oc,ob,oo,ci,br,hom,bo,dd⟩:=hL.parts;obtain⟨vs,pa,pc,pb,po,dr,cG,hpm,di,cw,dy,dz⟩:=hP.parts;obtain⟨la,lc,lb,lo,bi,dx,hlm,cj,ea⟩:=hI.parts;rw[gW]at ci br bo;have bb:(iX f).length=f.blocks.length:=by unfold iX;rw[jL]
 rw[bb]at dr cG cw di;rw[gP]at bi dx cj;obtain⟨K,hK⟩:=aG6 (toB f) (fun b=>O.idxOf b) f.blocks.length;obtain⟨m,hm⟩:∃m,m=O.length:=⟨_,rfl⟩;have ar:1<=m:=by rw[hm];have:=(aD.1 h4).1;omega
 have ew:m<=f.blocks.length:=by rw[hm];exact dt
 rw[<-hm]at ci br bo;obtain⟨rfl,eg⟩:=bo (by omega);obtain⟨rfl,ey⟩:=cw (by omega);obtain⟨rfl,fj⟩:=cj (by omega);have fd:=h! hP;have ep:=h! hL;have fs:=h! hI;have ed:=h! hB;subst ci dr bi;have al:=hB.at 3 rfl;have bc:=hB.at 4 rfl;have bn:=hB.at 5 rfl;have ay:=hB.at 6 rfl;have ax:=hB.lt;obtain⟨nb,cg⟩:∃nb,nb=f.blocks.length:=⟨_,rfl⟩;have ex:=h! h1;have be:=h! h2;have fb:=h! h3;have HH4:=h! h4;have aj:=h! da;obtain⟨m,rfl⟩:∃m',m=m'+1:=⟨m - 1,by omega⟩;have HM:=h! hm;have ei:=h! br;have ft:=h! dd;have fh:=h! dy;have fy:=h! dz;have ek:=h! ea;have HK:=h! hK;have dp:=h! hO;have de:=h! bb;rw[<-cg]at al bc ay cG di dx fc ck ew;have ad:=h! cg;have fa:=h! al;have ef:=h! bc;have fx:=h! bn;have en:=h! ay;have hn0:(0:Int)<=(nb:Int):=by omega
 clear h1 h2 h3 h4 h5 da dt hm br ar dd dy dz ea hK hO bb hP hL hI hB bo cw cj hv hf cg al bc bn ay;have al:=fa.out;go_enter Tryz.func135,Tryz.ntmps135;go_wp2_with fail;have dg:=(Below.refl w.heap.size w).alloc (aC _) (.cells #[.int .i64 (-1)] 3);refine(rJ (x:= -1) (n:=nb) (rR (Box.new w _ _) ⟨by decide,by decide⟩) (by omega)).mono ?_;rintro e w2 ⟨u,rfl,hu,hb2⟩;obtain⟨lg,af,dn⟩:=hu.cells (by simp;omega);obtain⟨aa,dv,-,-,-,-⟩:=af.form;rw[aW]at dv;subst dv;have HW:Hid (Below w.heap.size w w2):=h! (dg.trans (hb2.mono (by simp)));have ac:Hid (Cells w2 (.slice (some ⟨lg,0,none⟩) nb aa) lg (encI nb fun _=>none)):=h! (by rw[aA9];exact af);have dk:Hid (w.heap.size<lg):=h! (by have:=dn;simp at this;omega);clear dg hu hb2 af dn;go_upto_region 2 with(fail);have hl2:=ac.lt;have fv:=HW.size;have cx:=(Below.refl w2.heap.size w2).alloc (aC _) (.cells #[.pointer (some ⟨bg,0,none⟩),.slice (some ⟨lg,0,none⟩) nb aa] 153);replace ac:=h! (ac.later cx);replace HW:=w! HW cx;clear cx;have BT:=h! (Box.new w2 #[.pointer (some ⟨bg,0,none⟩),.slice (some ⟨lg,0,none⟩) nb aa] 153);generalize w2.alloc (.cells #[.pointer (some ⟨bg,0,none⟩),.slice (some ⟨lg,0,none⟩) nb aa] 153)=w3 at*;obtain⟨fm,eh,fo⟩:=BT.out;clear fm eh fo;obtain⟨bt,ae⟩:∃bt,bt=w2.heap.size:=⟨_,rfl⟩;rw[<-ae]at BT;have db:Hid (lg<bt/\w.heap.size<bt/\w.heap.size<lg):=h! (by have:=dk.out;omega);simp only[<-ae];clear ae hl2 fv dk;have cy:Hid (∀(wr:World) (I:Nat->Option Nat),Below w.heap.size w wr->Box wr bt #[.pointer (some ⟨bg,0,none⟩),.slice (some ⟨lg,0,none⟩) nb aa]->Cells wr (.slice (some ⟨lg,0,none⟩) nb aa) lg (encI nb I)->
   TreeM f wr bt bg lg aa #[.slice ap f.params.length cp,.int .i64 f.arrays,.int .i64 f.cells,.slice ab nb cb] (.slice (some ⟨pb,po,none⟩) nb pc) (.slice (some ⟨ob,oo,none⟩) (m+1) oc) (.slice (some ⟨lb,lo,none⟩) nb lc) O I):=h! (fun wr I h1 h2 h3=>by
  have hP:=fd.below h1;have hL:=ep.below h1;have hI:=fs.below h1;have hB:=ed.later h1;rw[<-ad.out]at hP hI hB;exact⟨by rw[<-ad.out];exact h2,hB,rfl,by rw[<-ad.out];exact h3,hP,hL,by rw[<-ad.out];exact hI⟩)
 have co:Hid (∀v:Nat,Way (toB f) (-1) v->v<nb):=h! (fun v hv=>by rw[ad.out];exact fb v ((be v).2 hv));have ag:Hid (Run (toB f) (fun b=>O.idxOf b) (fun _=>none) 0 1):=h! (Run.start aj.out);go_wp2_with fail;go_loopg [4] (K+3) (fun fuel cv wr=>∃(k:Nat) (I:Nat->Option Nat) (chg:Bool),cv=.bool chg/\Run (toB f) (fun b=>O.idxOf b) I k 1/\(chg=false->0<k/\∀b:Nat,Way (toB f) (-1) b->b≠0->∃m,I b=some m/\nZ (toB f) I b m)/\(chg=true->k<=K+1)/\k+fuel=K+3/\
  Box wr bt #[.pointer (some ⟨bg,0,none⟩),.slice (some ⟨lg,0,none⟩) nb aa]/\Cells wr (.slice (some ⟨lg,0,none⟩) nb aa) lg (encI nb I)/\Below w.heap.size w wr)
 case atStart=>exact⟨0,_,true,rfl,ag.out,(fun h=>by cases h),(fun _=>by omega),by omega,BT.out,ac.out,HW.out⟩
 case round=>
  obtain⟨k,I,chg,rfl,hR,hF,hT,hk,ae,af,hW⟩:=hrel;replace ag:=h! hR;have ao:=h! hF;have bj:=h! hT;replace BT:=h! ae;replace ac:=h! af;replace HW:=h! hW;clear hR hF hT ae af hW;generalize wr=w4 at*
  cases chg
  ·have fl:Hid (DomI f O I):=h! ⟨ag.tree,fun hv=>ag.proc hv (.inr (ao rfl).1),fun hv=>ag.fixed (fun hv=>ag.proc hv (.inr (ao rfl).1)) (fun {b}=>(ao rfl).2 b) hv⟩;have ez:=h! (cy w4 I HW.out BT.out ac.out);go_wp2;go_ret;exact⟨bt,lg,aa,_,_,_,_,I,rfl,by rw[ad.out],ez.out,fl.out,HW.out⟩
  have dl:=bj.out rfl;have fL:=h! dl;clear dl ao bj;have eo:=h! hk;have hfuel:0<gk:=by have:=fL.out;omega
  clear hk;have d5:=(HW.cell (p:=⟨bg,5,none⟩) ax).trans fx.out;rcases Decidable.em (oc=1)with bl|bl;all_goals
   try subst bl
   go_wp2_with fail;clear d5;go_loopw [4,28] (fun cv iv wr=>∃(i:Nat) (I:Nat->Option Nat) (chg:Bool),i<=m/\iv=.int .i64 i/\cv=.bool chg/\Run (toB f) (fun b=>O.idxOf b) I k (i+1)/\(chg=false->∀b:Nat,Way (toB f) (-1) b->b≠0->O.idxOf b<i+1->∃m,I b=some m/\nZ (toB f) I b m)/\(chg=true->k<=K)/\
    Box wr bt #[.pointer (some ⟨bg,0,none⟩),.slice (some ⟨lg,0,none⟩) nb aa]/\Cells wr (.slice (some ⟨lg,0,none⟩) nb aa) lg (encI nb I)/\Below w.heap.size w wr) (fun _ iv _=>m - (intOf iv).toNat)
   case atStart=>exact⟨0,I,false,aL _,rfl,rfl,ag.out,(fun _ b hb hb0 hl=>absurd (aj.inj hb (.zero (by decide)) (by rw[aj.zero];exact Nat.lt_one_iff.1 hl)) hb0),(fun h=>by cases h),BT.out,ac.out,HW.out⟩
   obtain⟨i,I2,chg,hi,rfl,rfl,hR,hF,hT,ae,af,hW⟩:=hrel;replace ag:=h! hR;have ao:=h! hF;have bj:=h! hT;replace BT:=h! ae;replace ac:=h! af;replace HW:=h! hW;clear hR hF hT ae af hW;generalize wr=w5 at*;by_cases hlt:i<m
   ·try (exfalso;have:=ei.out;omega)
    all_goals
     obtain⟨b,hb⟩:∃b,O[i+1]? =some b:=⟨_,aA (by have:=HM.out;omega)⟩;have cm:=aG hb;have cs:=(be b).1 cm;have an:=co.out b cs;have bz:=qR ex.out hb;have hb0:b≠0:=fun e=>by rw[e,aj.zero]at bz;omega
     have HBM:=h! cm;have bp:=h! cs;have bq:=h! bz;have bw:=h! hb0;have cL:=(HW.cell (p:=⟨ob,oo+(i+1),none⟩) eg).trans (ft (i+1) (by rw[gW,<-HM.out];omega));rw[show(natI O).getD (i+1) 0=(b:Int) by unfold natI;rw[aH,aM,hb];rfl,show oo+(i+1)=oo+1+i by omega]at cL;have d4:=(HW.cell (p:=⟨bg,4,none⟩) ax).trans ef.out;obtain⟨ps,bm⟩:∃ps,ps=gT f f.blocks.length 0 b:=⟨_,rfl⟩;have fi:=h! bm;have df:(iX f).getD b []=natI ps:=by rw[bm,aH];unfold iX;rw[mG (by rw[<-ad.out];exact an)];rfl
     have cM:∀p∈ps,p<nb:=fun p hp=>by rw[bm,iM]at hp;rw[ad.out];exact bQ.1 (dU.1 hp).1
     have cr:=(HW.cell (p:=⟨pb,po+b,none⟩) ey).trans (fh b (by rw[de.out,<-ad.out];exact an));have dh:Ints w (vs.getD b undef) (natI ps):=by have h9:=fy.out b (by rw[de.out,<-ad.out];exact an);rwa[df]at h9
     have fw:ps.length<=nb+1:=by rw[bm,ad.out];exact qQ f f.blocks.length 0 b
     obtain⟨qa,qc,qb,qo,dj,dq,hqm,cc,ds⟩:=dh.parts;rw[dj]at cr;obtain⟨pl,ak⟩:∃pl,pl=ps.length:=⟨_,rfl⟩;rw[gW,<-ak]at cr dq cc;rw[<-ak]at fw;have az:=h! ak;have fe:=h! cc;have ff:=h! ds;have cl:=h! cM;clear hb cm cs bz hb0 bm df cM dh dj ak cc ds dq;have fq:Hid (NowI f I2 (ps.take 0) (-1)):=h! (.inl ⟨rfl,by simp⟩);go_wp2_with fail;clear cL d4 cr;go_loopw [7,40] (fun nv qv wr=>∃(q:Nat) (x:Int),q<=pl/\qv=.int .i64 q/\nv=.int .i64 x/\NowI f I2 (ps.take q) x/\
      Box wr bt #[.pointer (some ⟨bg,0,none⟩),.slice (some ⟨lg,0,none⟩) nb aa]/\Cells wr (.slice (some ⟨lg,0,none⟩) nb aa) lg (encI nb I2)/\Below w.heap.size w wr) (fun _ qv _=>pl - (intOf qv).toNat)
     case atStart=>exact⟨0,-1,aL _,rfl,rfl,fq.out,BT.out,ac.out,HW.out⟩
     obtain⟨q,x,hq,rfl,rfl,bh,ae,af,hW⟩:=hrel;have ah:=h! bh;replace BT:=h! ae;replace ac:=h! af;replace HW:=h! hW;clear bh ae af hW;generalize wr=w7 at*;obtain⟨lB,cB,fB⟩:=BT.out;obtain⟨lc2,-,-,-,bd,bs⟩:=ac.form;have dc:=h! bd;by_cases hltq:q<pl
     ·obtain⟨rfl,es⟩:=fe.out (by omega);obtain⟨p,hp⟩:∃p,ps[q]? =some p:=⟨_,aA (by have:=az.out;omega)⟩;have am:p<nb:=cl.out p (aG hp);have ev:=(HW.cell (p:=⟨qb,qo+q,none⟩) es).trans (ff q (by rw[gW,<-az.out];exact hltq));rw[show(natI ps).getD q 0=(p:Int) by unfold natI;rw[aH,aM,hp];rfl]at ev;have bf:Hid (ps.take (q+1)=ps.take q++[p]):=h! (fR _ _ _ hp);have d6:=(HW.cell (p:=⟨bg,6,none⟩) ax).trans en.out;have ch:=(HW.cell (p:=⟨lb,lo+p,none⟩) fj).trans (ek p (by rw[gP,<-ad.out];exact am));rw[aH,nY (by rw[<-ad.out];exact am),dI]at ch;clear hp bd bs;by_cases hpO:p∈O
      ·have dw:=(be p).1 hpO;rw[if_pos hpO]at ch;have bv:=h! dw;have hneg:decide (((O.idxOf p:Nat):Int)<0)=false:=by simp
       clear hpO dw;by_cases hp0:p=0
       ·have fG:((p:Int) != 0)=false:=by simp[hp0]
        have aw:Hid (Proc I2 p):=h! (.inl hp0);clear hp0;rcases ah.out with⟨aq,hx⟩|⟨m1,aq,ar,hx⟩
        ·subst aq;have HX:=h! hx;clear hx;go_wp2;go_roundw
         case rel=>exact⟨q+1,p,hltq,by go_num,rfl,by rw[bf.out];exact NowI.first HX.out bv.out aw.out,BT.out,ac.out,HW.out⟩
         simp[intOf];omega
        subst aq;have HX:=h! hx;have cn:=h! ar;have ce:decide ((m1:Int)<0)=false:=by simp
        clear hx ar;go_wp2_with fail;refine(aDZ (cy w7 I2 HW.out BT.out ac.out) dp.out (by rw[<-ad.out];exact ck) ag.tree cn.out aw.out).mono ?_;rintro e w8 ⟨m2,rfl,bk,ba,ai⟩;have ca:=h! bk;have bx:=h! ba;have cd:=h! (BT.later ai);have cf:=h! (ac.later ai);have bO:=w! HW ai;clear bk ba ai;go_wp2;go_roundw
        case rel=>exact⟨q+1,m2,hltq,by go_num,rfl,by rw[bf.out];exact NowI.more HX.out bv.out aw.out ca.out bx.out,cd.out,cf.out,bO.out⟩
        simp[intOf];omega
       have fG:((p:Int) != 0)=true:=by simpa using hp0
       cases hIp:I2 p with
       | none=>
        have ej:=dc.out p (-1) (aDY am hIp)
        have et:Hid (¬Proc I2 p):=h! (fun h=>by
         rcases h with h|h
         ·exact hp0 h
         rw[hIp]at h;cases h)
        clear hp0 hIp
        go_wp2
        go_roundw
        case rel=>exact⟨q+1,x,hltq,by go_num,rfl,by rw[bf.out];exact ah.skip (fun _=>et.out),BT.out,ac.out,HW.out⟩
        simp[intOf];omega
       | some r=>
        have ej:=dc.out p r (nX am hIp)
        have aw:Hid (Proc I2 p):=h! (.inr (by rw[hIp];rfl))
        have hrn:decide ((r:Int)<0)=false:=by simp
        clear hp0 hIp
        rcases ah.out with⟨aq,hx⟩|⟨m1,aq,ar,hx⟩
        ·subst aq
         have HX:=h! hx
         clear hx
         go_wp2
         go_roundw
         case rel=>exact⟨q+1,p,hltq,by go_num,rfl,by rw[bf.out];exact NowI.first HX.out bv.out aw.out,BT.out,ac.out,HW.out⟩
         simp[intOf];omega
        subst aq
        have HX:=h! hx
        have cn:=h! ar
        have ce:decide ((m1:Int)<0)=false:=by simp
        clear hx ar
        go_wp2_with fail
        refine(aDZ (cy w7 I2 HW.out BT.out ac.out) dp.out (by rw[<-ad.out];exact ck) ag.tree cn.out aw.out).mono ?_
        rintro e w8 ⟨m2,rfl,bk,ba,ai⟩
        have ca:=h! bk
        have bx:=h! ba
        have cd:=h! (BT.later ai)
        have cf:=h! (ac.later ai)
        have bO:=w! HW ai
        clear bk ba ai
        go_wp2
        go_roundw
        case rel=>exact⟨q+1,m2,hltq,by go_num,rfl,by rw[bf.out];exact NowI.more HX.out bv.out aw.out ca.out bx.out,cd.out,cf.out,bO.out⟩
        simp[intOf];omega
      rw[if_neg hpO]at ch;have fk:Hid (Way (toB f) (-1) p->¬Proc I2 p):=h! (fun h=>absurd ((be p).2 h) hpO);clear hpO;go_wp2;go_roundw
      case rel=>exact⟨q+1,x,hltq,by go_num,rfl,by rw[bf.out];exact ah.skip fk.out,BT.out,ac.out,HW.out⟩
      simp[intOf];omega
     have cz:q=pl:=by omega
     have cq:Hid (Run (toB f) (fun b=>O.idxOf b) I2 k (O.idxOf b)):=h! (by rw[bq.out];exact ag);obtain⟨m0,fg,ct⟩:∃m:Nat,x=m/\nZ (toB f) I2 b m:=by have h9:=ah.out;rw[cz,aI (by have:=az.out;omega),fi.out]at h9;refine h9.done (fun p hp=>by rw[<-ad.out];exact co p hp) ?_;obtain⟨p0,p1,p2,p3⟩:=aj.ahead bp.out bw.out;exact⟨p0,p1,p2,cq.proc p1 (.inl p3)⟩
     subst fg;have eb:=h! ct;have dm:=h! (cq.step aj.out bp.out bw.out ct);clear ct cz;by_cases hsame:I2 b=some m0
     ·have fF:=bd b m0 (nX an hsame);have ba:((m0:Int) != (m0:Int))=false:=by simp
      have cF:=h! hsame;clear bd bs hsame;go_wp2;go_roundw
      case rel=>
       refine⟨i+1,I2,chg,hlt,by go_num,rfl, ?_,fun hc b2 hb2 hb20 hl2=> ?_,bj.out,BT.out,ac.out,HW.out⟩
       ·have h9:=dm.out;rw[aD4 cF.out,bq.out]at h9;exact h9
       by_cases e:O.idxOf b2<i+1
       ·exact ao hc b2 hb2 hb20 e
       have e2:b2=b:=aj.inj hb2 bp.out (by show O.idxOf b2=O.idxOf b;rw[bq.out];omega);subst e2;exact⟨m0,cF.out,eb.out⟩
      simp[intOf];omega
     obtain⟨y,hy⟩:∃y,(encI nb I2)[b]? =some y:=⟨_,oX an⟩;have fF:=bd b y hy;have hfb:=bs b;have ba:((m0:Int) != y)=true:=by
      rw[oX an]at hy
      cases hIb:I2 b with
      | none=>rw[hIb]at hy;cases hy;simp
      | some r=>
       rw[hIb]at hy;cases hy
       have:r≠m0:=fun e=>hsame (by rw[hIb,e])
       simp;omega
     have er:Hid (k<=K):=h! (by
      rcases dW K k with h|h
      ·exact absurd (cq.same aj.out (fun {v} hv=>by have:=co.out v hv;rw[ad.out]at this;exact this) HK.out h bp.out bw.out eb.out) hsame
      exact h)
     clear bd bs hsame hy;go_wp2;go_roundw
     case rel=>
      refine⟨i+1,upd' I2 b m0,true,hlt,by go_num,rfl, ?_,(fun h=>by cases h),fun _=>er.out,BT.other _ (by have:=db.out;simp only;omega), ?_,HW.setCell (p:=⟨lg,b,none⟩) (by have:=db.out;simp only;omega) _⟩
      ·have h9:=dm.out;rw[bq.out]at h9;exact h9
      rw[<-aG0 an];exact ac.set (by rw[pI];exact an)
     simp[intOf];omega
   have fp:i=m:=by omega
   have fz:Hid (Run (toB f) (fun b=>O.idxOf b) I2 (k+1) 1):=h! (ag.next aj.out (fun v hv=>by have h9:=aX ((be v).2 hv);have:=HM.out;show O.idxOf v<i+1;omega));have ee:Hid (chg=false->0<k+1/\∀b:Nat,Way (toB f) (-1) b->b≠0->∃m,I2 b=some m/\nZ (toB f) I2 b m):=h! (fun hc=>⟨Nat.succ_pos _,fun b hb hb0=>ao hc b hb hb0 (by have h9:=aX ((be b).2 hb);have:=HM.out;omega)⟩);clear fp;go_wp2;go_roundg (gk - 1)
   case measure=>omega
   exact⟨k+1,I2,chg,rfl,fz.out,ee.out,(fun hc=>by have:=bj.out hc;omega),by have:=eo.out;omega,BT.out,ac.out,HW.out⟩
end
end Go.Proofs.YtagabiidbbhhmaaGreat
