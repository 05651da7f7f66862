/- Part 28. -/
import Derived.Test.YtagabiidbbhhmaaGreatET27
namespace Go.Proofs.YtagabiidbbhhmaaGreat
set_option maxHeartbeats 6400000
set_option linter.all false
set_option maxRecDepth 100000
section
open Go.RowKit
def lQ(f:FuncD)(a b:Nat):Prop:=Way (toB f) (-1) a/\Way (toB f) (-1) b/\¬Way (toB f) (a:Int) b
def aL3(f:FuncD)(v:Value)(w:World)(e:Ending)(w':World):Prop:=
 Below w.heap.size w w'/\((fO f≠0/\e=.returned (.tuple #[.pointer none,.int .i64 (fO f)]))\/
  (fO f=0/\∃(bt bg lg lcap:Nat) (g:Array Value) (pv ov lv:Value) (O:List Nat) (I:Nat->Option Nat),e=.returned (.tuple #[.pointer (some ⟨bt,0,none⟩),.int .i64 0])/\v=.agg g/\fQ f O/\TreeM f w' bt bg lg lcap g pv ov lv O I/\DomI f O I))
theorem aJQ{w:World}{v:Value}{f:FuncD}(hv:gS w v f):Calls Tryz.prog 84 #[v] w (aL3 f v w):=by
 have HV:=h! hv;obtain⟨ap,cp,ab,cb,rfl,hp,ha,hc,hB⟩:=hv.form;clear hp ha hc hB hv;go_enter Tryz.func84,Tryz.ntmps84;go_upto_region 1 with(fail);have ai:=(Below.refl w.heap.size w).alloc (aC _) (.cells #[.slice ap f.params.length cp,.int .i64 f.arrays,.int .i64 f.cells,.slice ab f.blocks.length cb] 25);have HW:=h! ai;clear ai;have B1:=h! (Box.new w #[.slice ap f.params.length cp,.int .i64 f.arrays,.int .i64 f.cells,.slice ab f.blocks.length cb] 25);generalize w.alloc (.cells #[.slice ap f.params.length cp,.int .i64 f.arrays,.int .i64 f.cells,.slice ab f.blocks.length cb] 25)=wv at*;obtain⟨ae,aa,ac⟩:=B1.out;go_wp2_with fail;refine(aD6 (HV.below HW.out)).mono ?_;rintro e w2 ⟨hb,⟨ad,rfl⟩|⟨ad,bg,O,rfl,hO,hG⟩⟩
 ·have hc1:(fO f != 0)=true:=by simpa using ad
  have af:=h! ad;clear ad;clear ae aa ac;replace B1:=h! (B1.later hb);replace HW:=w! HW hb;clear hb;obtain⟨ae,aa,ac⟩:=B1.out;go_wp2;go_ret2;exact⟨HW.out,.inl ⟨af.out,rfl⟩⟩
 have af:=h! ad;have HO:=h! hO;have HG:=h! hG;clear ad hO hG;clear ae aa ac;replace B1:=h! (B1.later hb);replace HW:=w! HW hb;clear hb;obtain⟨ae,aa,ac⟩:=B1.out;go_wp2_with fail;refine(aLX (HV.below HW.out) HG.out HO.out (fT af.out).1).mono ?_;rintro e w3 ⟨bt,lg,ag,g,pv,ov,lv,I,rfl,ah,hT,hD,hb⟩;have HT:=h! hT;have HD:=h! hD;have aj:=h! ah;clear hT hD ah;clear ae aa ac;replace B1:=h! (B1.later hb);replace HW:=w! HW hb;clear hb;obtain⟨ae,aa,ac⟩:=B1.out;go_wp2;go_ret2;exact⟨HW.out,.inr ⟨af.out,bt,bg,lg,ag,g,pv,ov,lv,O,I,rfl,aj.out,HO.out,HT.out,HD.out⟩⟩
theorem zD{W:World}{f:FuncD}{bt bg lg lcap:Nat}{g:Array Value}{pv ov lv:Value}{O:List Nat}{I:Nat->Option Nat}(hT:TreeM f W bt bg lg lcap g pv ov lv O I)(hO:fQ f O)(hI:DomI f O I)(h512:f.blocks.length<=512)
  {a b:Nat} (ha:a<f.blocks.length) (hb:b<f.blocks.length):
  Calls Tryz.prog 143 #[.pointer (some ⟨bt,0,none⟩),.int .i64 a,.int .i64 b] W fun e w'=>∃r:Bool,e=.returned (.bool r)/\(r=true↔lQ f a b)/\W=w':=by
 obtain⟨hc0,az,-,-,bi⟩:=hT.cells;obtain⟨pa,pc,pb,po,an,am,hpm,ae,ai⟩:=hT.place.parts;rw[gP]at an am ae;subst an;obtain⟨lc2,-,-,-,ag,ay⟩:=hT.idom.form;obtain⟨h1,h2,h3,h4,h5⟩:=hO.facts;obtain⟨nb,ad⟩:∃nb,nb=f.blocks.length:=⟨_,rfl⟩;have ac:=ai a (by rw[gP];exact ha);have ab:=ai b (by rw[gP];exact hb);rw[aH,nY ha,dI]at ac;rw[aH,nY hb,dI]at ab;rw[<-ad]at az am ae ag h512 h3 bi ha hb;obtain⟨rfl,hpb⟩:=ae (by omega);have bh:=h! ag;have al:=h! hI.tree;have bf:=h! (fun(v:Nat) (h:Way (toB f) (-1) v)=>hI.proc h);have ao:=h! (fun(c v:Nat) (h:Way (toB f) (-1) v)=>hI.anc (c:=c) h);have be:=h! h2;have ax:=h! h3;clear hT ai ag ay h1 h3 h4 h5 hI hO ad ae;by_cases haO:a∈O
 ·rw[if_pos haO]at ac;have bb:decide (((O.idxOf a:Nat):Int)<0)=false:=by simp
  by_cases hbO:b∈O
  ·rw[if_pos hbO]at ab;have ad:decide (((O.idxOf b:Nat):Int)<0)=false:=by simp
   have bd:=h! ((h2 a).1 haO);have af:=h! ((h2 b).1 hbO);clear h2 haO hbO;go_enter Tryz.func143,Tryz.ntmps143;go_wp2_with fail;clear ac ab bb ad;go_loopw [2] (fun u wr=>∃b':Nat,u=.int .i64 b'/\Way (toB f) (-1) b'/\(Anc I a b'↔Anc I a b)/\W=wr) (fun u _=>O.idxOf (intOf u).toNat)
   case atStart=>exact⟨b,rfl,af.out,Iff.rfl,rfl⟩
   obtain⟨c,rfl,ak,ap,rfl⟩:=hrel;have bc:=h! ak;have ah:=h! ap;have aq:=ax.out c ((be c).2 ak);clear ak ap;by_cases hca:c=a
   ·have hq:((c:Int) != (a:Int))=false:=by simp[hca]
    have aa:((a:Int) == (c:Int))=true:=by simp[hca]
    have HR:Hid (lQ f a b):=h! ⟨bd.out,af.out,(ao a b af.out).1 (ah.1 (by rw[hca];exact .refl))⟩;have aj:=h! aa;clear hca aa;go_wp2;go_ret;refine⟨_,rfl, ?_, ?_⟩
    ·first|exact⟨fun _=>HR.out,fun _=>aj.out⟩|simp[HR.out]
    first|rfl|trivial
   have hq:((c:Int) != (a:Int))=true:=by simp;omega
   by_cases hc00:c=0
   ·have aa:((a:Int) == (c:Int))=false:=by simp;omega
    have aj:=h! aa;clear aa;have HR:Hid (¬lQ f a b):=h! (fun h=>by have h9:=ah.2 ((ao a b af.out).2 h.2.2);rw[hc00]at h9;exact hca (by rw[hc00,al.anc_zero h9]));have hcn:¬0<c:=by omega
    clear hca hc00;go_wp2;go_ret;refine⟨_,rfl, ?_, ?_⟩
    ·first|exact⟨fun h=>absurd (aj.symm.trans h) (by simp),fun h=>absurd h HR.out⟩|simp[HR.out]
    first|rfl|trivial
   have hgt:0<c:=by omega
   obtain⟨p,hp⟩:=eI.1 ((bf c bc.out).resolve_left hc00);obtain⟨p1,p2,p3,p4⟩:=al.par hp;have dp:=bh.out c p (nX aq hp);have aw:=h! p2;have ar:=h! p3;have ba:Hid (Anc I a p↔Anc I a b):=h! (by
    rw[<-ah.out];constructor
    ·exact fun h=>.up hp h
    intro h;rcases h.parts with e|⟨q,e,h⟩
    ·exact absurd e.symm hca
    rw[hp]at e;cases e;exact h)
   clear hca hc00 hp p1 p2 p3 p4;go_wp2;go_roundw
   case rel=>exact⟨p,rfl,aw.out,ba.out,by first|rfl|trivial⟩
   have h9:=ar.out;simp only[intOf,bW]at h9⊢;exact h9
  rw[if_neg hbO]at ab;have HN:Hid (¬lQ f a b):=h! (fun h=>hbO ((h2 b).2 h.2.1));clear h2 haO hbO;go_enter Tryz.func143,Tryz.ntmps143;go_wp2;go_ret;exact⟨false,rfl,by simpa using HN.out,rfl⟩
 ·rw[if_neg haO]at ac;have HN:Hid (¬lQ f a b):=h! (fun h=>haO ((h2 a).2 h.1));clear h2 haO;go_enter Tryz.func143,Tryz.ntmps143;go_wp2;go_ret;exact⟨false,rfl,by simpa using HN.out,rfl⟩
theorem DomI.low{f:FuncD}{O:List Nat}{I:Nat->Option Nat}(hO:fQ f O)(h:DomI f O I){b p:Nat}(hp:I b=some p):p<f.blocks.length:=by obtain⟨h1,h2,h3,h4,h5⟩:=hO.facts;exact h3 p ((h2 p).2 (h.tree.par hp).2.1)
end
section
open Go.RowKit
end
section
open Go.RowKit
theorem DomI.over{f:FuncD}{O:List Nat}{I:Nat->Option Nat}(h:DomI f O I){c v:Nat}(hv:Way (toB f) (-1) v):Anc I c v↔lQ f c v:=
 ⟨fun ha=>⟨h.tree.proc_way (h.tree.procs ha (h.proc hv)),hv,(h.anc hv).1 ha⟩,fun ho=>(h.anc hv).2 ho.2.2⟩
end
open Go.RowKit
private theorem iG.alloc{w0 W:World}(h:iG w0 W)(o:Obj):iG w0 (W.alloc o):=h.later ((Below.refl _ _).alloc (aC _) o)
theorem uG:entF iP=[(0,0,0)]:=by decide
def PhiV(W:World)(v:Value)(p:PhiD):Prop:=∃s u,v=.agg #[.int .i64 p.id,.int .i64 p.typ,s,u]/\Ints W s p.src/\Ints W u p.vals
theorem PhiV.below{W W':World}{v:Value}{p:PhiD}(h:PhiV W v p)(hb:Below W.heap.size W W'):PhiV W' v p:=by obtain⟨s,u,e,h1,h2⟩:=h;exact⟨s,u,e,h1.below hb,h2.below hb⟩
theorem aJR{w:World}{v:Value}{ps:List PhiD}{k:FuncId}{cap:Array Value}(eg:Enters Tryz.prog k)(g:PhiD->Bool)(hv:fV PhiR 4 w v ps)
  (hstep:∀(W:World) (p:PhiD) (pv:Value),p∈ps->PhiV W pv p->Below w.heap.size w W->Calls Tryz.prog k (#[pv]++cap) W fun e W'=>e=.returned (.bool (g p))/\Below W.heap.size W W'):
  Calls Tryz.prog 107 #[v,.func (.func k) #[] cap] w fun e w'=>∃r:Int,e=.returned (.int .i64 r)/\decide (0<=r)=ps.any g/\Below w.heap.size w w':=by
 obtain⟨a1,c1,b1,o1,rfl,ai,hm1,al,ac,hx⟩:=gL hv;obtain⟨n1,ae⟩:∃n,n=ps.length:=⟨_,rfl⟩;rw[<-ae]at ai al ac⊢;have G1:=h! ae;have aj:=h! ac;have HX:=h! hx;have HW:=h! (Below.refl w.heap.size w);have ah:=h! hstep;clear hv ae ac hx hstep;have eg1:∀(args:Array Value) (w:World),(callFunc k args).run Tryz.prog w=.ok (.enter k args) w:=eg;go_enter Tryz.func107,Tryz.ntmps107;go_wp2_with fail;go_loopw [8] (fun i wr=>∃j:Nat,j<=n1/\i=.int .i64 j/\(ps.take j).any g=false/\Below w.heap.size w wr) (fun i _=>n1 - (intOf i).toNat)
 case atStart=>exact⟨0,aL _,rfl,rfl,HW.out⟩
 case round=>
  obtain⟨j,hj,rfl,hs,hW⟩:=hrel;have HS:=h! hs;replace HW:=h! hW;clear hs hW;generalize wr=w3 at*;by_cases hlt:j<n1
  ·obtain⟨rfl,an⟩:=aj.out (by omega);obtain⟨p,aa⟩:∃p,ps[j]? =some p:=⟨_,aA (by have:=G1.out;omega)⟩;obtain⟨af,av,cf,cv,hP⟩:=HX.out j p aa;obtain⟨m0,m1,m2,m3,r1,r2,r3,r4⟩:=hP.below HW.out an;have ag:=h! (aG aa);have am:=h! (fR ps j p aa);obtain⟨c,hc⟩:∃c,c=g p:=⟨_,rfl⟩;have HC:=h! hc;have HCT:=h! (ah w3 p (.agg #[.int .i64 p.id,.int .i64 p.typ,.slice af p.src.length cf,.slice av p.vals.length cv]) ag.out ⟨_,_,rfl,r1,r2⟩ HW.out);rw[<-hc]at HCT;clear hc aa hP r1 r2 r3 r4
   cases c
   ·go_wp2_with (go_at_fn k;refine HCT.mono ?_;rintro e w4 ⟨rfl,hb4⟩;have HB4:=h! hb4;clear hb4);have ab:=w! HW HB4.out;have ak:Hid ((ps.take (j+1)).any g=false):=h! (by rw[am.out,List.any_append,HS.out];simp[<-HC.out]);go_roundw
    case rel=>exact⟨j+1,hlt,by go_num,ak.out,ab.out⟩
    simp[intOf];omega
   go_wp2_with (go_at_fn k;refine HCT.mono ?_;rintro e w4 ⟨rfl,hb4⟩;have HB4:=h! hb4;clear hb4);have ab:=w! HW HB4.out;have ad:Hid (ps.any g=true):=h! (by rw[fA];exact⟨p,ag.out,HC.symm⟩);go_ret;exact⟨j,rfl,by rw[ad.out];simp,ab.out⟩
  have ad:Hid (ps.any g=false):=h! (by have h9:=HS.out;rw[aI (by have:=G1.out;omega)]at h9;exact h9);go_wp2;go_ret;exact⟨-1,rfl,by rw[ad.out];simp,HW.out⟩
theorem aHA{w:World}{v:Value}{ps:List PhiD}{k:FuncId}{cap:Array Value}(eg:Enters Tryz.prog k)(g:PhiD->Bool)(hv:fV PhiR 4 w v ps)
  (hstep:∀(W:World) (p:PhiD) (pv:Value),p∈ps->PhiV W pv p->Below w.heap.size w W->Calls Tryz.prog k (#[pv]++cap) W fun e W'=>e=.returned (.bool (g p))/\Below W.heap.size W W'):
  Calls Tryz.prog 139 #[v,.func (.func k) #[] cap] w fun e w'=>e=.returned (.bool (ps.any g))/\Below w.heap.size w w':=by
 have HC:=h! (aJR eg g hv hstep);clear hv hstep;go_enter Tryz.func139,Tryz.ntmps139;go_wp2_with fail;refine HC.mono ?_;rintro e w2 ⟨r,rfl,hr,hb⟩;have HR:=h! hr;have HB:=h! hb;clear hr hb;go_wp2;go_ret;exact⟨iD HR.out,HB.out⟩
structure StrM(f:FuncD)(W:World)(bs bt bg lg lcap bm:Nat)(g:Array Value)(pv ov lv A2:Value)(O:List Nat)(I:Nat->Option Nat):Prop where
 s:Box W bs #[.pointer (some ⟨bt,0,none⟩),A2,.map (some bm)]
 t:TreeM f W bt bg lg lcap g pv ov lv O I
 mp:IMap W bm (defM (entF f))
theorem StrM.later{f:FuncD}{W W':World}{bs bt bg lg lcap bm:Nat}{g:Array Value}{pv ov lv A2:Value}{O:List Nat}{I:Nat->Option Nat}(h:StrM f W bs bt bg lg lcap bm g pv ov lv A2 O I)(hb:Below W.heap.size W W'):StrM f W' bs bt bg lg lcap bm g pv ov lv A2 O I:=
 ⟨h.s.later hb,h.t.later hb,h.mp.later hb⟩
theorem StrM.alloc{f:FuncD}{W:World}{bs bt bg lg lcap bm:Nat}{g:Array Value}{pv ov lv A2:Value}{O:List Nat}{I:Nat->Option Nat}(h:StrM f W bs bt bg lg lcap bm g pv ov lv A2 O I)(o:Obj):StrM f (W.alloc o) bs bt bg lg lcap bm g pv ov lv A2 O I:=h.later ((Below.refl _ _).alloc (aC _) o)
def mH(f:FuncD)(d k b at_:Int):Prop:=(d=b/\k<at_)\/(d≠b/\lQ f d.toNat b.toNat)
theorem ahead{f:FuncD}{w:World}{bs bt bg lg lcap bm:Nat}{g:Array Value}{pv ov lv A2:Value}{O:List Nat}{I:Nat->Option Nat}(hS:StrM f w bs bt bg lg lcap bm g pv ov lv A2 O I)(hO:fQ f O)(hD:DomI f O I)(hc:fO f=0)
  {id d k b at_:Int} (he:((entF f).find? fun e=>e.1 == id)=some (id,d,k)) (hd:0<=d/\d<(f.blocks.length:Int)) (hb:0<=b/\b<(f.blocks.length:Int)):
  Calls Tryz.prog 145 #[.pointer (some ⟨bs,0,none⟩),.int .i64 id,.int .i64 b,.int .i64 at_] w fun e w'=>∃r:Bool,e=.returned (.bool r)/\(r=true↔mH f d k b at_)/\Below w.heap.size w w':=by
 have HI:=h! hS.mp;have HG:Hid (mget (defM (entF f)) id=some (.agg #[.int .i64 d,.int .i64 k])):=h! (by rw[aE8 hc,he];rfl);obtain⟨dn,rfl⟩:∃dn:Nat,d=(dn:Int):=⟨d.toNat,by omega⟩;obtain⟨bn,rfl⟩:∃bn:Nat,b=(bn:Int):=⟨b.toNat,by omega⟩;have ah:=h! (fun(W:World) (hW:Below w.heap.size w W)=>zD (a:=dn) (b:=bn) (hS.t.later hW) hO hD (jH (fT hc).1).2 (by omega) (by omega));have HS:=h! hS;obtain⟨l1,c1,f1⟩:=hS.s;clear hS hO hD hc he hd hb;by_cases hdb:dn=bn
 ·have hq:((dn:Int) == (bn:Int))=true:=by simp[hdb]
  have ab:=h! hdb;clear hdb;go_enter Tryz.func145,Tryz.ntmps145;go_wp2_with (at_lookup;refine fU (q:=.i64) (z:=.agg #[.int .i64 0,.int .i64 0]) (b:=bm) (mm:=defM (entF f)) (y:=id) rfl _ _ _ rfl Tryz.underlying94 Tryz.underlying3 (yA _) rfl HI.out rfl ?_;rw[HG.out];simp only[dI]);have HW:=h! ((Below.refl w.heap.size w).alloc (aC _) (.cells #[.int .i64 dn,.int .i64 k] 171));go_ret;exact⟨decide (k<at_),rfl,by rw[decide_eq_true_iff];unfold mH;have:=ab.out;constructor;exact fun h=>.inl ⟨by omega,h⟩;exact fun h=>h.elim (fun h=>h.2) (fun h=>absurd (by omega) h.1),HW.out⟩
 ·have hq:((dn:Int) == (bn:Int))=false:=by simp;omega
  have ab:=h! hdb;clear hdb;go_enter Tryz.func145,Tryz.ntmps145;go_upto_region 4 with(at_lookup;refine fU (q:=.i64) (z:=.agg #[.int .i64 0,.int .i64 0]) (b:=bm) (mm:=defM (entF f)) (y:=id) rfl _ _ _ rfl Tryz.underlying94 Tryz.underlying3 (yA _) rfl HI.out rfl ?_;rw[HG.out];simp only[dI]);clear l1 c1 f1;have HW:=h! ((Below.refl w.heap.size w).alloc (aC _) (.cells #[.int .i64 dn,.int .i64 k] 171));have BX:=h! (Box.new w #[.int .i64 dn,.int .i64 k] 171);obtain⟨bx,aa⟩:∃bx,bx=w.heap.size:=⟨_,rfl⟩;have e9:(⟨w.heap.size,0,none⟩:Addr)=⟨bx,0,none⟩:=by rw[aa]
  rw[<-aa]at BX;simp only[<-aa];generalize w.alloc _=w1 at*;clear aa e9;obtain⟨ag,ae,ac⟩:=BX.out;refine wp_region_grow 9 (fun kz=>match kz with|7=>.holds (fun u w'=>∃r:Bool,u=.bool r/\(r=true↔lQ f dn bn))|_=>.plain) (by kernel_rfl) (by kernel_rfl) ?_ (fun ν=> ?_)
  ·(intro k;(try dsimp only);split<;>first|exact True.intro|(intro u w1 w2 hu hb;exact hu))
  simp only[aP,aU,aR,aV];iterate 7 (refine Grow.val (v:= ?_) rfl rfl (fun wg hbg hdg=> ?_) ?_;rotate_left;(focus((obtain⟨lg0,cg0,fg0⟩:=BX.later hbg);(obtain⟨xl1,xc1,xf1⟩:=(HS.later (w! HW hbg)).s);clear hbg hdg;first|(go_simp;done)|(go_simp;with_reducible rfl)));simp only[Act.put,aB,aE,aF])
  refine Grow.call (f:= ?_) (args:= ?_) rfl (fun wg=> ?_) (fun wg hbg hdg=> ?_) ?_;rotate_left 2;focus(first|(go_simp;done)|(go_simp;refine And.intro ?_ ?_<;>with_reducible rfl)|(go_simp;with_reducible rfl))
  focus exact((ah wg (w! HW hbg)).mono (fun e w2 ⟨r,he,hr,hw⟩=>⟨_,he,⟨r,rfl,hr⟩,hw ▸ Below.refl _ _⟩))
  simp only[Act.put,Known.val,aB,aE,aF];refine Grow.val (v:= ?_) rfl rfl (fun wg hbg hdg=> ?_) ?_;rotate_left;focus((obtain⟨lg0,cg0,fg0⟩:=BX.later hbg);(obtain⟨xl1,xc1,xf1⟩:=(HS.later (w! HW hbg)).s);clear hbg hdg;first|(go_simp;done)|(go_simp;with_reducible rfl))
  simp only[Act.put,aB,aE,aF];intro wg hb hf ai;clear ai;clear ag ae ac;replace BX:=h! (BX.later hb);replace HW:=w! HW hb;clear hb;obtain⟨ag,ae,ac⟩:=BX.out;simp only[bM,Nat.reduceAdd];have hS:∃r:Bool,ν 7=.bool r/\(r=true↔lQ f dn bn):=hf 7 (by omega);obtain⟨r,af,ad⟩:=hS;simp only[af];have HR:Hid (r=true↔mH f dn k bn at_):=h! (by unfold mH;rw[ad];have:=ab.out;exact⟨fun h=>.inr ⟨by omega,by simpa using h⟩,fun h=>h.elim (fun h=>absurd h.1 (by omega)) (fun h=>by simpa using h.2)⟩);clear hf af ad;go_wp2;go_ret;exact⟨r,rfl,HR.out,HW.out⟩
def vX(W:World)(v:Value)(x:InstrD):Prop:=∃u,v=.agg #[.int .i64 x.op,.int .i64 x.id,u,.int .i64 x.n]/\Ints W u x.args
theorem vX.below{W W':World}{v:Value}{x:InstrD}(h:vX W v x)(hb:Below W.heap.size W W'):vX W' v x:=by obtain⟨u,e,h2⟩:=h;exact⟨u,e,h2.below hb⟩
theorem aHB(p q:PhiD):decide (p=q)=((((p.id == q.id)&&(p.typ == q.typ))&&decide (p.src=q.src))&&decide (p.vals=q.vals)):=by rcases p with⟨a,b,c,d⟩;rcases q with⟨a',b',c',d'⟩;rw[cH];simp[and_assoc]
theorem aBF(p q:InstrD):decide (p=q)=((((p.op == q.op)&&(p.id == q.id))&&(p.n == q.n))&&decide (p.args=q.args)):=by
 rcases p with⟨a,b,c,d⟩;rcases q with⟨a',b',c',d'⟩;rw[cH];simp only[decide_eq_true_eq,aK,beq_iff_eq,InstrD.mk.injEq];constructor
 ·rintro⟨rfl,rfl,rfl,rfl⟩;simp
 rintro⟨⟨⟨rfl,rfl⟩,rfl⟩,rfl⟩;simp
theorem aJS{w:World}{v v':Value}{p q:PhiD}(hp:PhiV w v p)(hq:PhiV w v' q):Calls Tryz.prog 131 #[v,v'] w fun e w'=>e=.returned (.bool (decide (p=q)))/\Below w.heap.size w w':=by
 obtain⟨s,u,rfl,hs,hu⟩:=hp;obtain⟨s',u',rfl,ao,an⟩:=hq;obtain⟨sa,sc,rfl⟩:=hs.form;obtain⟨ua,uc,rfl⟩:=hu.form;obtain⟨al,ak,rfl⟩:=ao.form;obtain⟨aj,am,rfl⟩:=an.form;have HS:=h! (And.intro hs ao);have HU:=h! (And.intro hu an);obtain⟨r,hr⟩:∃r,r=decide (p=q):=⟨_,rfl⟩;rw[<-hr];rw[aHB]at hr;have HR:=h! hr;clear hs hu ao an hr;go_enter Tryz.func131,Tryz.ntmps131;go_upto_region 1 with(fail);have aa:=(Below.refl w.heap.size w).alloc (aC _) (.cells #[.int .i64 p.id,.int .i64 p.typ,.slice sa p.src.length sc,.slice ua p.vals.length uc] 78);have HW:=h! aa;clear aa;have B1:=h! (Box.new w #[.int .i64 p.id,.int .i64 p.typ,.slice sa p.src.length sc,.slice ua p.vals.length uc] 78);have ab:(w.alloc (.cells #[.int .i64 p.id,.int .i64 p.typ,.slice sa p.src.length sc,.slice ua p.vals.length uc] 78)).heap.size=w.heap.size+1:=World.size_alloc _ _;generalize w.alloc (.cells #[.int .i64 p.id,.int .i64 p.typ,.slice sa p.src.length sc,.slice ua p.vals.length uc] 78)=ah at*;have aa:=(Below.refl ah.heap.size ah).alloc (aC _) (.cells #[.int .i64 q.id,.int .i64 q.typ,.slice al q.src.length ak,.slice aj q.vals.length am] 78);replace B1:=h! (B1.later aa);replace HW:=w! HW aa;clear aa;have B2:=h! (Box.new ah #[.int .i64 q.id,.int .i64 q.typ,.slice al q.src.length ak,.slice aj q.vals.length am] 78);rw[ab]at B2;clear ab;generalize ah.alloc (.cells #[.int .i64 q.id,.int .i64 q.typ,.slice al q.src.length ak,.slice aj q.vals.length am] 78)=wv at*;obtain⟨ag,ac,af⟩:=B1.out;obtain⟨ad,ai,ae⟩:=B2.out
 cases h1:(p.id == q.id)
 ·rw[h1,bK,bK,bK]at HR;go_wp2;go_ret;exact⟨by rw[HR.out];rfl,HW.out⟩
 rw[h1,bY]at HR
 cases h2:(p.typ == q.typ)
 ·rw[h2,bK,bK]at HR;go_wp2;go_ret;exact⟨by rw[HR.out];rfl,HW.out⟩
 rw[h2,bY]at HR;go_wp2_with fail;refine(tP (HS.1.below HW.out) (HS.2.below HW.out)).mono ?_;rintro e w2 ⟨rfl,hb⟩;clear ag ac af ad ai ae;replace B1:=h! (B1.later hb);replace B2:=h! (B2.later hb);replace HW:=w! HW hb;clear hb;obtain⟨ag,ac,af⟩:=B1.out;obtain⟨ad,ai,ae⟩:=B2.out
 cases h3:decide (p.src=q.src)
 ·rw[h3,bK]at HR;go_wp2;go_ret;exact⟨by rw[HR.out];rfl,HW.out⟩
 rw[h3,bY]at HR;go_wp2_with fail;refine(tP (HU.1.below HW.out) (HU.2.below HW.out)).mono ?_;rintro e w3 ⟨rfl,hb⟩;clear ag ac af ad ai ae;replace B1:=h! (B1.later hb);replace B2:=h! (B2.later hb);replace HW:=w! HW hb;clear hb;obtain⟨ag,ac,af⟩:=B1.out;obtain⟨ad,ai,ae⟩:=B2.out;go_wp2;go_ret;exact⟨by rw[HR.out];rfl,HW.out⟩
theorem aEE{w:World}{v v':Value}{p q:InstrD}(hp:vX w v p)(hq:vX w v' q):Calls Tryz.prog 133 #[v,v'] w fun e w'=>e=.returned (.bool (decide (p=q)))/\Below w.heap.size w w':=by
 obtain⟨u,rfl,hu⟩:=hp;obtain⟨u',rfl,af⟩:=hq;obtain⟨ua,uc,rfl⟩:=hu.form;obtain⟨ad,ae,rfl⟩:=af.form;have HU:=h! (And.intro hu af);obtain⟨r,hr⟩:∃r,r=decide (p=q):=⟨_,rfl⟩;rw[<-hr];rw[aBF]at hr;have HR:=h! hr;clear hu af hr;go_enter Tryz.func133,Tryz.ntmps133;go_upto_region 1 with(fail);have aa:=(Below.refl w.heap.size w).alloc (aC _) (.cells #[.int .i64 p.op,.int .i64 p.id,.slice ua p.args.length uc,.int .i64 p.n] 82);have HW:=h! aa;clear aa;have B1:=h! (Box.new w #[.int .i64 p.op,.int .i64 p.id,.slice ua p.args.length uc,.int .i64 p.n] 82);have ab:(w.alloc (.cells #[.int .i64 p.op,.int .i64 p.id,.slice ua p.args.length uc,.int .i64 p.n] 82)).heap.size=w.heap.size+1:=World.size_alloc _ _;generalize w.alloc (.cells #[.int .i64 p.op,.int .i64 p.id,.slice ua p.args.length uc,.int .i64 p.n] 82)=ac at*;have aa:=(Below.refl ac.heap.size ac).alloc (aC _) (.cells #[.int .i64 q.op,.int .i64 q.id,.slice ad q.args.length ae,.int .i64 q.n] 82);replace B1:=h! (B1.later aa);replace HW:=w! HW aa;clear aa;have B2:=h! (Box.new ac #[.int .i64 q.op,.int .i64 q.id,.slice ad q.args.length ae,.int .i64 q.n] 82);rw[ab]at B2;clear ab;generalize ac.alloc (.cells #[.int .i64 q.op,.int .i64 q.id,.slice ad q.args.length ae,.int .i64 q.n] 82)=wv at*;obtain⟨ak,ag,aj⟩:=B1.out;obtain⟨ah,al,ai⟩:=B2.out
 cases h1:(p.op == q.op)
 ·rw[h1,bK,bK,bK]at HR;go_wp2;go_ret;exact⟨by rw[HR.out];rfl,HW.out⟩
 rw[h1,bY]at HR
 cases h2:(p.id == q.id)
 ·rw[h2,bK,bK]at HR;go_wp2;go_ret;exact⟨by rw[HR.out];rfl,HW.out⟩
 rw[h2,bY]at HR
 cases h3:(p.n == q.n)
 ·rw[h3,bK]at HR;go_wp2;go_ret;exact⟨by rw[HR.out];rfl,HW.out⟩
 rw[h3,bY]at HR;go_wp2_with fail;refine(tP (HU.1.below HW.out) (HU.2.below HW.out)).mono ?_;rintro e w3 ⟨rfl,hb⟩;clear ak ag aj ah al ai;replace B1:=h! (B1.later hb);replace B2:=h! (B2.later hb);replace HW:=w! HW hb;clear hb;obtain⟨ak,ag,aj⟩:=B1.out;obtain⟨ah,al,ai⟩:=B2.out;go_wp2;go_ret;exact⟨by rw[HR.out];rfl,HW.out⟩
end Go.Proofs.YtagabiidbbhhmaaGreat
