/- Part 38. -/
import Derived.Test.YtagabiidbbhhmaaGreatET28
import Derived.Test.YtagabiidbbhhmaaGreatET37
namespace Go.Proofs.YtagabiidbbhhmaaGreat
set_option maxHeartbeats 12800000
set_option linter.all false
set_option maxRecDepth 100000
open Go.RowKit
def PRow(f:FuncD)(a b:Nat)(s:List Bool):Prop:=s.length=f.blocks.length/\∀c,s[c]? =some true↔(c<b/\c<f.blocks.length/\lQ f a c)
theorem PRow.start(f:FuncD)(a:Nat):PRow f a 0 (List.replicate f.blocks.length false):=by refine⟨by simp,fun c=>⟨fun h=> ?_,fun h=>by omega⟩⟩;obtain⟨h1,h2⟩:=aD.1 h;simp at h2
theorem PRow.next{f:FuncD}{a b:Nat}{s:List Bool}{x:Bool}(h:PRow f a b s)(hb:b<f.blocks.length)(hx:x=true↔lQ f a b):PRow f a (b+1) (s.set b x):=by
 refine⟨by rw[cQ];exact h.1,fun c=> ?_⟩;rw[cT];by_cases e:b=c
 ·subst e;rw[if_pos rfl,if_pos (by rw[h.1];exact hb)];constructor
  ·intro h1;simp at h1;exact⟨by omega,hb,hx.1 h1⟩
  rintro⟨_,_,h1⟩;rw[hx.2 h1]
 rw[if_neg e,h.2 c];constructor
 ·rintro⟨h1,h2⟩;exact⟨by omega,h2⟩
 rintro⟨h1,h2⟩;exact⟨by omega,h2⟩
def sN(nb:Nat)(rs:List Nat):List Value:=rs.map fun r=>Value.slice (some ⟨r,0,none⟩) nb nb
def yK(f:FuncD)(W:World)(v:Value):Prop:=
 ∃rs:List Nat,rs.length=f.blocks.length/\Row W v f.blocks.length 1 (sN f.blocks.length rs)/\∀(j r:Nat),rs[j]? =some r->∃row,PRow f j f.blocks.length row/\Box W r (iJ row)
theorem yK.below{f:FuncD}{W W':World}{v:Value}(h:yK f W v)(hb:Below W.heap.size W W'):yK f W' v:=by obtain⟨rs,h1,h2,h3⟩:=h;exact⟨rs,h1,h2.below hb,fun j r hj=>by obtain⟨row,h4,h5⟩:=h3 j r hj;exact⟨row,h4,h5.later hb⟩⟩
theorem yK.parts{f:FuncD}{W:World}{v:Value}(h:yK f W v)(hn:0<f.blocks.length):∃cap b off,v=.slice (some ⟨b,off,none⟩) f.blocks.length cap/\f.blocks.length<=cap/\cap<=9223372036854775807/\b<W.heap.size/\
  ∀a,a<f.blocks.length->∃r,W.cell? ⟨b,off+a,none⟩=some (.slice (some ⟨r,0,none⟩) f.blocks.length f.blocks.length)/\r<W.heap.size/\∀c,c<f.blocks.length->∃x:Bool,W.cell? ⟨r,c,none⟩=some (.bool x)/\(x=true↔lQ f a c):=by
 obtain⟨rs,h1,h2,h3⟩:=h;obtain⟨a,cap,b,off,rfl,k1,k2,k3,k4⟩:=h2.parts;obtain⟨rfl,hb⟩:=k3 (by unfold sN;rw[aZ,h1];exact hn);refine⟨cap,b,off,rfl,k1,by unfold maxLen at k2;omega,hb,fun a ha=> ?_⟩;obtain⟨r,hr⟩:∃r,rs[a]? =some r:=⟨_,aA (by rw[h1];exact ha)⟩;obtain⟨row,aa,ab⟩:=h3 a r hr;refine⟨r,k4 a _ (by unfold sN;rw[aM,hr];rfl),ab.lt,fun c hc=> ?_⟩;obtain⟨x,hx⟩:∃x,row[c]? =some x:=⟨_,aA (by rw[aa.1];exact hc)⟩;refine⟨x,ab.at c (lZ hx), ?_⟩;have h9:=aa.2 c;rw[hx]at h9;constructor
 ·intro e;exact(h9.1 (by rw[e])).2.2
 ·intro e;have:=h9.2 ⟨hc,hc,e⟩;simpa using this
theorem aIE:Elem Tryz.prog 140 124 (.slice none 0 0) 1 24:=oC Tryz.underlying140 (by kernel_rfl) rfl (by omega)
theorem aK2{w:World}{v:Value}{f:FuncD}(hv:gS w v f)(hf:gX f=true):Calls Tryz.prog 77 #[v] w fun e w'=>∃ov,e=.returned ov/\yK f w' ov/\Below w.heap.size w w':=by
 have HV:=h! hv;obtain⟨ci,cn⟩:=jH hf;have HF:=h! hf;obtain⟨ap,cp,ab,cb,rfl,hp,ha,hc,hB⟩:=hv.form;obtain⟨nb,ay⟩:∃nb,nb=f.blocks.length:=⟨_,rfl⟩;rw[<-ay]at HV ci cn⊢;have ac:=h! ay;have hn0:(0:Int)<=(nb:Int):=by omega
 have aj:=run_make_row' (P:=Tryz.prog) 124 4 (.bool false) 1 Tryz.underlying124 uF rfl .i64 .i64 nb (by omega) (by omega);have ce:=h! aj;clear hp ha hc hB hv ay hf aj;go_enter Tryz.func77,Tryz.ntmps77;go_upto_region 1 with(fail);have bO:=(Below.refl w.heap.size w).alloc (aC _) (.cells #[.slice ap f.params.length cp,.int .i64 f.arrays,.int .i64 f.cells,.slice ab nb cb] 25);have HW:=h! bO;clear bO;have B1:=h! (Box.new w #[.slice ap f.params.length cp,.int .i64 f.arrays,.int .i64 f.cells,.slice ab nb cb] 25);generalize w.alloc (.cells #[.slice ap f.params.length cp,.int .i64 f.arrays,.int .i64 f.cells,.slice ab nb cb] 25)=wv at*;obtain⟨az,ao,bf⟩:=B1.out;go_wp2_with fail;refine(qA (gone:= -1) (HV.below HW.out) HF.out).mono ?_;rintro e w2 ⟨sv,S,rfl,hS,bs,hb⟩;obtain⟨W2,ae⟩:∃W2,W2=w2:=⟨_,rfl⟩;have HS:=h! hS;obtain⟨sa,sc,sb,so,bk,ct,hsm,bg,bl⟩:=bs.parts;have aw:S.length=nb:=by rw[hS.1,ac.out]
 rw[aw]at bk ct bg;subst bk;obtain⟨rfl,ar⟩:=bg (by omega);have bx:Hid (∀(j:Nat) (x:Bool),S[j]? =some x->W2.cell? ⟨sb,so+j,none⟩=some (.bool x)):=h! (by rw[ae];exact bl);have bt:=h! aw;rw[<-ae]at ar;clear hS bs bl bg aw;clear az ao bf;replace B1:=h! (B1.later hb);replace HW:=w! HW hb;clear hb;obtain⟨az,ao,bf⟩:=B1.out;have am:Hid (Below w.heap.size w W2):=h! (by rw[ae];exact HW);have be:Hid (Box W2 w.heap.size #[.slice ap f.params.length cp,.int .i64 f.arrays,.int .i64 f.cells,.slice ab nb cb]):=h! (by rw[ae];exact B1);have aa:Hid (iG W2 w2):=h! (by rw[ae];exact Below.refl _ _);clear az ao bf;clear ae HW B1;go_wp2_with fail;have HO:Hid (Own (w2.alloc (.cells #[] 124)) W2.heap.size [] 124 1 (.slice (some ⟨w2.heap.size,0,none⟩) 0 0) 0 (sN nb [])):=h! (oN (Below.size aa.out) (by simp) 1);have bj:Hid (iG W2 (w2.alloc (.cells #[] 124))):=h! (iG.later aa.out ((Below.refl _ _).alloc (aC _) _));generalize w2.alloc _=w3 at*;go_loopw [4,5] (fun u iv wr=>∃(a:Nat) (rs:List Nat),a<=nb/\iv=.int .i64 a/\rs.length=a/\Own wr W2.heap.size rs 124 1 u a (sN nb rs)/\(∀(j r:Nat),rs[j]? =some r->∃row,PRow f j f.blocks.length row/\Box wr r (iJ row))/\iG W2 wr) (fun _ iv _=>nb - (intOf iv).toNat)
 case atStart=>exact⟨0,[],aL _,rfl,rfl,HO.out,by simp,bj.out⟩
 obtain⟨a,rs,ha,rfl,bo,hO,hR,hS⟩:=hrel;obtain⟨oa,oc,rfl⟩:=hO.form;have ak:=h! bo;replace HO:=h! hO;have HR:=h! hR;replace aa:=h! hS;clear bo hO hR hS bj;generalize wr=w5 at*;obtain⟨l1,c1,f1⟩:=be.later aa.out;by_cases hlt:a<nb
 ·go_wp2_with fail;clear l1 c1 f1;refine(qA (gone:=(a:Int)) (HV.below (am.trans (Below.mono aa.out am.size))) HF.out).mono ?_;rintro e w6 ⟨tv,T,rfl,hT,bv,an⟩;have HT:=h! hT;obtain⟨ta,tc,tb,to,bw,cv,htm,ax,bz⟩:=bv.parts;have bb:T.length=nb:=by rw[hT.1,ac.out]
  rw[bb]at bw cv ax;subst bw;obtain⟨rfl,cq⟩:=ax (by omega);have ca:=h! bz;have cs:=h! bb;replace HO:=h! (HO.later an);replace HR:Hid (∀(j r:Nat),rs[j]? =some r->∃row,PRow f j f.blocks.length row/\Box w6 r (iJ row)):=h! (fun j r h=>by obtain⟨row,h1,h2⟩:=HR.out j r h;exact⟨row,h1,h2.later an⟩);replace aa:=h! (iG.later aa.out an);clear hT bv bz ax bb an;obtain⟨l1,c1,f1⟩:=be.later aa.out;have aj:=ce.out;go_upto_region 8 with(fail);clear l1 c1 f1 aj;have ag:=(Below.refl w6.heap.size w6).alloc (aC _) (.cells (madeCells #[.bool false] nb) 4);have br:Hid (∀r∈rs,r<w6.heap.size):=h! (fun r hr=>by obtain⟨j,hj⟩:=bS.1 hr;obtain⟨row,_,h⟩:=HR.out j r hj;exact h.lt);have ad:Hid (Box (w6.alloc (.cells (madeCells #[.bool false] nb) 4)) w6.heap.size (iJ (List.replicate nb false))):=h! (by rw[<-oH];exact Box.new _ _ _);replace HO:=h! ((HO.more (aC _)).later ag);replace HR:Hid (∀(j r:Nat),rs[j]? =some r->∃row,PRow f j f.blocks.length row/\Box (w6.alloc (.cells (madeCells #[.bool false] nb) 4)) r (iJ row)):=h! (fun j r h=>by obtain⟨row,h1,h2⟩:=HR.out j r h;exact⟨row,h1,h2.later ag⟩);have cj:=h! (Below.size aa.out);replace aa:=h! (iG.later aa.out ag);have al:Hid (Below w6.heap.size w6 (w6.alloc (.cells (madeCells #[.bool false] nb) 4))):=h! ag;have ah:Hid (PRow f a 0 (List.replicate nb false)):=h! (by rw[ac.out];exact PRow.start f a);clear ag;generalize w6.alloc _=w7 at*;go_wp2_with fail;go_loopw [8] (fun iv wr=>∃(b:Nat) (s:List Bool),b<=nb/\iv=.int .i64 b/\PRow f a b s/\Box wr w6.heap.size (iJ s)/\Own wr W2.heap.size (w6.heap.size :: rs) 124 1 (.slice oa a oc) a (sN nb rs)/\(∀(j r:Nat),rs[j]? =some r->∃row,PRow f j f.blocks.length row/\Box wr r (iJ row))/\iG W2 wr/\Below w6.heap.size w6 wr) (fun iv _=>nb - (intOf iv).toNat)
  case atStart=>exact⟨0,_,aL _,rfl,ah.out,ad.out,HO.out,HR.out,aa.out,al.out⟩
  obtain⟨b,s,hb,rfl,hP,bh,hO,hR,hS,h6⟩:=hrel;replace ah:=h! hP;replace ad:=h! bh;replace HO:=h! hO;replace HR:=h! hR;replace aa:=h! hS;replace al:=h! h6;clear hP bh hO hR hS h6;generalize wr=w8 at*;obtain⟨l1,c1,f1⟩:=be.later aa.out;by_cases hltb:b<nb
  ·obtain⟨xa,ba⟩:∃x,S[a]? =some x:=⟨_,aA (by rw[bt.out];exact hlt)⟩;obtain⟨xb,bc⟩:∃x,S[b]? =some x:=⟨_,aA (by rw[bt.out];exact hltb)⟩;obtain⟨xt,bd⟩:∃x,T[b]? =some x:=⟨_,aA (by rw[cs.out];exact hltb)⟩;have d1:=(Below.cell aa.out (p:=⟨sb,so+a,none⟩) ar).trans (bx a xa ba);have d2:=(Below.cell aa.out (p:=⟨sb,so+b,none⟩) ar).trans (bx b xb bc);have d3:=(al.cell (p:=⟨tb,to+b,none⟩) cq).trans (ca b xt bd);have bm:(xa&&(xb&& !xt))=true↔lQ f a b:=by have h1:=HS.2 a;have h2:=HS.2 b;have h3:=HT.2 b;rw[ba]at h1;rw[bc]at h2;rw[bd]at h3;unfold lQ;rw[<-h1,<-h2,<-h3];simp
   have cd:=h! bm;obtain⟨l2,c2,f2⟩:=ad.out;obtain⟨y,hy⟩:∃y,s[b]? =some y:=⟨_,aA (by rw[ah.1,<-ac.out];exact hltb)⟩;have hfl:=lZ hy;clear ba bc bd bm hy;have ch:Hid (∀x:Bool,(x=true↔lQ f a b)->PRow f a (b+1) (s.set b x)/\Box (w8.setCell ⟨w6.heap.size,b,none⟩ (.bool x)) w6.heap.size (iJ (s.set b x))/\Own (w8.setCell ⟨w6.heap.size,b,none⟩ (.bool x)) W2.heap.size (w6.heap.size :: rs) 124 1 (.slice oa a oc) a (sN nb rs)/\
     (∀(j r:Nat),rs[j]? =some r->∃row,PRow f j f.blocks.length row/\Box (w8.setCell ⟨w6.heap.size,b,none⟩ (.bool x)) r (iJ row))/\iG W2 (w8.setCell ⟨w6.heap.size,b,none⟩ (.bool x))/\Below w6.heap.size w6 (w8.setCell ⟨w6.heap.size,b,none⟩ (.bool x))):=h! (fun x hx=>
    ⟨ah.next (by rw[<-ac.out];exact hltb) hx,by have h9:=ad.set b (.bool x);rwa[oJ]at h9,HO.other _ (by simp),fun j r hj=>by obtain⟨row,h1,h2⟩:=HR.out j r hj;exact⟨row,h1,h2.other _ (fun e=>by have:=br.out r (aG hj);simp only at e;omega)⟩,
     Below.setCell aa.out (p:=⟨w6.heap.size,b,none⟩) cj.out _,al.setCell (p:=⟨w6.heap.size,b,none⟩) (aC _) _⟩)
   cases xa<;>cases xb<;>cases xt;all_goals
    go_wp2;go_roundw
    case rel=>exact⟨b+1,_,hltb,by go_num,ch _ cd.out⟩
    simp[intOf];omega
  have bn:b=nb:=by omega
  have hs8:=Below.size aa.out;have hl6:=ad.lt;have cm:Hid (∀r∈rs,r<w8.heap.size):=h! (fun r hr=>by have:=br.out r hr;omega);go_wp2_with (at_builtin;refine iL rfl _ _ 140 124 rfl aIE rfl rfl (HO.alloc _) (Row.of_box (n:=1) (size:=1) (Box.new _ _ _) rfl (by omega)) (by simp[Value.oneCell']) (by unfold maxLen;omega) (by omega) (by simp;omega) (by intro y hy;simp only[bZ]at hy;simp only[World.size_alloc];rcases hy with rfl|hy;omega;have:=cm.out y hy;omega) ?_;intro v9 w9 bi af bq;have cw:=h! bi;have cr:=h! bq;have bp:=h! af;clear bi af bq);have cf:Hid (∀(j r:Nat),(rs++[w6.heap.size])[j]? =some r->∃row,PRow f j f.blocks.length row/\Box w9 r (iJ row)):=h! (fun j r hj=>by
   rw[dF]at hj;split at hj
   ·obtain⟨row,h1,h2⟩:=HR.out j r hj;exact⟨row,h1,bp _ _ (by simp[aG hj]) (h2.alloc _)⟩
   rename_i hjl;have co:j=a:=by have:=(aD.1 hj).1;have:=ak.out;simp at*;omega
   have cg:r=w6.heap.size:=by
    have e9:j - rs.length=0:=by have:=ak.out;omega
    rw[e9]at hj;simpa using hj.symm
   subst cg;refine⟨s, ?_,bp _ _ (by simp) (ad.alloc _)⟩;have h9:=ah.out;rw[bn,ac.out,<-co]at h9;exact h9)
  have cl:Hid (Own w9 W2.heap.size (rs++[w6.heap.size]) 124 1 v9 (a+1) (sN nb (rs++[w6.heap.size]))):=h! (by
   have h9:sN nb (rs++[w6.heap.size])=sN nb rs++[.slice (some ⟨w6.heap.size,0,none⟩) nb nb]:=by simp[sN]
   rw[h9];exact cw.less (by intro y hy;simp at hy⊢;rcases hy with hy|hy<;>simp[hy]))
  have cc:Hid (iG W2 w9):=h! (Below.trans (iG.later aa.out ((Below.refl _ _).alloc (aC _) _)) cr.out);clear bn;go_roundw
  case rel=>exact⟨a+1,rs++[w6.heap.size],hlt,by go_num,by rw[aO,ak.out];rfl,cl.out,cf.out,cc.out⟩
  simp[intOf];omega
 have ai:a=nb:=by omega
 have aq:Hid (yK f w5 (.slice oa a oc)):=h! ⟨rs,by rw[ak.out,ai,ac.out],by have h9:=HO.reads (by omega);rw[ai,ac.out]at h9;rw[ai,ac.out];exact h9,HR.out⟩;have ck:=h! (am.trans (Below.mono aa.out am.size));clear ai;go_wp2;go_ret;exact⟨_,rfl,aq.out,ck.out⟩
def gJ(xs:List Int)(p:PhiD):Bool:=decide (p.src.length=xs.length)&&xs.all fun t=>p.src.contains t
theorem aK3{w:World}{pv A1 A2 A3 A4 A5 u:Value}{ps:List PhiD}{xs:List Int}(hp:fV PhiR 4 w pv ps)(hu:Ints w u xs):
  Calls Tryz.prog 76 #[.agg #[pv,A1,A2,A3,A4,A5],u] w fun e w'=>e=.returned (.bool (ps.all (gJ xs)))/\Below w.heap.size w w':=by
 obtain⟨a1,c1,b1,o1,rfl,bo,hm1,bi,aj,hx⟩:=gL hp;have ad:=hu.le;obtain⟨ua,uc,ub,uo,rfl,bh,hum,ap,an⟩:=hu.parts;obtain⟨pl,am⟩:∃n,n=ps.length:=⟨_,rfl⟩;obtain⟨ul,ao⟩:∃n,n=xs.length:=⟨_,rfl⟩;rw[<-am]at bo bi aj⊢;rw[<-ao]at bh ap an ad⊢;have ay:=h! am;have ah:=h! ao;have bp:=h! aj;have HX:=h! hx;have bs:=h! ap;have bn:=h! an;clear hp hu am ao aj hx ap an;go_enter Tryz.func76,Tryz.ntmps76;go_upto_region 1 with(fail);have bg:=(Below.refl w.heap.size w).alloc (aC _) (.cells #[.slice a1 pl c1,A1,A2,A3,A4,A5] 63);have HW:=h! bg;clear bg;have B1:=h! (Box.new w #[.slice a1 pl c1,A1,A2,A3,A4,A5] 63);generalize w.alloc (.cells #[.slice a1 pl c1,A1,A2,A3,A4,A5] 63)=wv at*;obtain⟨ab,aa,ac⟩:=B1.out;go_wp2_with fail;go_loopw [5] (fun i wr=>∃j:Nat,j<=pl/\i=.int .i64 j/\(ps.take j).all (gJ xs)=true/\Below w.heap.size w wr/\Box wr w.heap.size #[.slice a1 pl c1,A1,A2,A3,A4,A5]) (fun i _=>pl - (intOf i).toNat)
 case atStart=>exact⟨0,aL _,rfl,rfl,HW.out,B1.out⟩
 case round=>
  obtain⟨j,hj,rfl,hs,hW,h1⟩:=hrel;clear ab aa ac;have HS:=h! hs;replace HW:=h! hW;replace B1:=h! h1;clear hs hW h1;generalize wr=w3 at*;obtain⟨ab,aa,ac⟩:=B1.out;by_cases hlt:j<pl
  ·obtain⟨rfl,bc⟩:=bp.out (by omega);obtain⟨p,ag⟩:∃p,ps[j]? =some p:=⟨_,aA (by have:=ay.out;omega)⟩;obtain⟨af,av,cf,cv,hP⟩:=HX.out j p ag;obtain⟨m0,m1,m2,m3,r1,r2,r3,r4⟩:=hP.below HW.out bc;have be:=h! (aG ag);have br:=h! (fR ps j p ag);have ba:=h! hP.c2;have ae:=h! hP.src;obtain⟨sl,ai⟩:∃sl,sl=p.src.length:=⟨_,rfl⟩;rw[<-ai]at ba ae m2;have bd:=h! ai;have hsl16:sl<=17592186044416:=by rw[ai];exact hP.src.le
   clear ag hP r1 r2 r3 r4 m0 m1 m3 ai;by_cases hlen:sl=ul
   ·have hq:((sl:Int) != (ul:Int))=false:=by simp[hlen]
    have al:Hid (p.src.length=xs.length):=h! (by rw[<-bd.out,<-ah.out];exact hlen);clear hlen;go_wp2_with fail;clear m2;go_loopw [6] (fun i wr=>∃t:Nat,t<=ul/\i=.int .i64 t/\((xs.take t).all fun t=>p.src.contains t)=true/\Below w.heap.size w wr/\Box wr w.heap.size #[.slice (some ⟨b1,o1,none⟩) pl c1,A1,A2,A3,A4,A5]) (fun i _=>ul - (intOf i).toNat)
    case atStart=>exact⟨0,aL _,rfl,rfl,HW.out,B1.out⟩
    obtain⟨t,ht,rfl,hs,hW,h1⟩:=hrel;clear ab aa ac;have bb:=h! hs;replace HW:=h! hW;replace B1:=h! h1;clear hs hW h1;generalize wr=w5 at*;obtain⟨ab,aa,ac⟩:=B1.out;by_cases hltt:t<ul
    ·obtain⟨rfl,bl⟩:=bs.out (by omega);obtain⟨y,hy⟩:∃y,y=xs.getD t 0:=⟨_,rfl⟩;have CU:=h! ((HW.cell (p:=⟨ub,uo+t,none⟩) bl).trans (bn t hltt));rw[<-hy]at CU;have ar:xs[t]? =some y:=by rw[hy];exact gF xs t (by have:=ah.out;omega)
     have ax:=h! (fR xs t y ar);have bm:=h! (aG ar);have az:=World.block_lt_of_cell? w5 _ CU.out;have CS:=h! ((HW.cell (p:=⟨b1,o1+j*4+2,none⟩) bc).trans ba.out);have bf:=World.block_lt_of_cell? w5 _ CS.out;obtain⟨c,hc⟩:∃c,c=p.src.contains y:=⟨_,rfl⟩;have HC:=h! hc;have bk:Hid (∀wg,Below w5.heap.size w5 wg->Calls Tryz.prog 32 #[.slice af sl cf,.int .i64 y] wg fun e w'=>e=.returned (.bool c)/\Below wg.heap.size wg w'):=h! (fun wg hbg=>by rw[hc];exact(aIQ (x:=y) (ae.below (w! HW hbg))).mono (fun e w2 ⟨h1,h2⟩=>⟨h1,h2 ▸ Below.refl _ _⟩));clear hy ar hc;go_upto_region 9 with(fail);refine wp_region_grow 12 (fun kz=>match kz with|10=>.const (.bool c)|_=>.plain) (by kernel_rfl) (by kernel_rfl) ?_ (fun ν=> ?_)
     ·(intro k;(try dsimp only);split<;>first|exact True.intro|(intro u w1 w2 hu hb;exact hu.below hb))
     simp only[aP,aU,aR,aV];iterate 10 (refine Grow.val (v:= ?_) rfl rfl (fun wg hbg hdg=> ?_) ?_;rotate_left;(focus((obtain⟨lg0,cg0,fg0⟩:=B1.later hbg);(have hcl:=(hbg.cell (p:=⟨ub,uo+t,none⟩) az).trans CU.out;have bj:=(hbg.cell (p:=⟨b1,o1+j*4+2,none⟩) bf).trans CS.out);clear hbg hdg;first|(go_simp;done)|(go_simp;with_reducible rfl)));simp only[Act.put,aB,aE,aF])
     refine Grow.call (f:= ?_) (args:= ?_) rfl (fun wg=> ?_) (fun wg hbg hdg=> ?_) ?_;rotate_left 2;focus(first|(go_simp;done)|(go_simp;refine And.intro ?_ ?_<;>with_reducible rfl)|(go_simp;with_reducible rfl))
     focus exact Calls.mono (bk wg hbg) (fun e w2 ⟨he,hb2⟩=>⟨_,he,rfl,hb2⟩)
     simp only[Act.put,Known.val,aB,aE,aF];refine Grow.val (v:= ?_) rfl rfl (fun wg hbg hdg=> ?_) ?_;rotate_left;focus((obtain⟨lg0,cg0,fg0⟩:=B1.later hbg);(have hcl:=(hbg.cell (p:=⟨ub,uo+t,none⟩) az).trans CU.out;have bj:=(hbg.cell (p:=⟨b1,o1+j*4+2,none⟩) bf).trans CS.out);clear hbg hdg;first|(go_simp;done)|(go_simp;with_reducible rfl))
     simp only[Act.put,aB,aE,aF];intro wg hb hf bq;clear bq;clear ab aa ac;replace B1:=h! (B1.later hb);replace HW:=w! HW hb;clear hb;obtain⟨ab,aa,ac⟩:=B1.out;clear hf
     cases c
     ·have aq:Hid (ps.all (gJ xs)=false):=h! (by
       rw[cW];refine⟨p,be.out, ?_⟩;unfold gJ;rw[aK,not_and];intro _ h;rw[aY]at h;have:=h y bm.out;rw[<-HC.out]at this
       cases this)
      go_wp2;go_ret;exact⟨iD aq.symm,HW.out⟩
     have aw:Hid (((xs.take (t+1)).all fun t=>p.src.contains t)=true):=h! (by rw[ax.out,List.all_append,bb.out];simpa using HC.symm);go_wp2;go_roundw
     case rel=>exact⟨t+1,hltt,by go_num,aw.out,HW.out,B1.out⟩
     simp[intOf];omega
    have aw:Hid ((ps.take (j+1)).all (gJ xs)=true):=h! (by rw[br.out,dO,HS.out];have h9:=bb.out;rw[aI (by have:=ah.out;omega)]at h9;simp only[List.all_cons,List.all_nil,Bool.and_true,bY];unfold gJ;rw[h9,decide_eq_true al.out];rfl);go_wp2;go_roundw
    case rel=>exact⟨j+1,hlt,by go_num,aw.out,HW.out,B1.out⟩
    simp[intOf];omega
   have hq:((sl:Int) != (ul:Int))=true:=by simp;omega
   have aq:Hid (ps.all (gJ xs)=false):=h! (by rw[cW];refine⟨p,be.out, ?_⟩;unfold gJ;rw[decide_eq_false (by rw[<-bd.out,<-ah.out];exact hlen)];simp);clear hlen;go_wp2;go_ret;exact⟨iD aq.symm,HW.out⟩
  have ak:Hid (ps.all (gJ xs)=true):=h! (by have h9:=HS.out;rw[aI (by have:=ay.out;omega)]at h9;exact h9);go_wp2;go_ret;exact⟨iD ak.symm,HW.out⟩
theorem aF5{f:FuncD}(hn:1<=f.blocks.length){e:Int×Int×Int}(he:e∈entF f):0<=e.2.1/\e.2.1<(f.blocks.length:Int):=by
 unfold entF at he;rcases aJ.1 he with he|he
 ·unfold parN at he;rw[aN]at he;obtain⟨j,_,rfl⟩:=he;exact⟨by show(0:Int)<=0;omega,by show(0:Int)<_;omega⟩
 unfold blkN at he;rw[bC]at he;obtain⟨⟨x,c⟩,hx,he⟩:=he;rw[cO,bA]at hx;have hc:c<f.blocks.length:=(aD.1 hx).1;unfold entB at he;have hd:e.2.1=(c:Int):=by
  rcases aJ.1 he with he|he
  ·unfold phiN at he;rw[aN]at he;obtain⟨p,_,rfl⟩:=he;rfl
  unfold codN at he;rw[List.mem_filterMap]at he;obtain⟨y,_,hy⟩:=he;split at hy
  ·cases hy;rfl
  cases hy
 rw[hd];omega
theorem pX{f:FuncD}(hc:fO f=0){u:UseD}(hu:u∈uxF f):∃d k,((entF f).find? fun e=>e.1 == u.id)=some (u.id,d,k)/\0<=d/\d<(f.blocks.length:Int):=by
 obtain⟨h1,h2⟩:=fT hc;have ab:=kY h1;have hp:u.pair∈lJ f:=by rw[<-yN ab];exact aN.2 ⟨u,hu,rfl⟩
 have h3:mQ (fX f) (lJ f)=0:=by unfold fO at hc;rw[if_pos (by rw[h1,h2];rfl)]at hc;exact hc
 have h4:(lJ f).any (fun u=> !(tyOf (fX f) u.1).isSome)=false:=by
  unfold mQ at h3
  cases h:(lJ f).any (fun u=> !(tyOf (fX f) u.1).isSome)with
  | false=>rfl
  | true=>rw[h,if_pos rfl]at h3;omega
 rw[List.any_eq_false]at h4;have h5:=h4 u.pair hp;have h6:u.id∈(entF f).map (·.1):=by rw[uN hc];refine Classical.byContradiction fun h=> ?_;have h7:=iA.2 h;have h8:u.pair.1=u.id:=rfl;rw[h8,h7]at h5;exact h5 rfl
 obtain⟨e,he,aa⟩:=aN.1 h6
 cases hf:((entF f).find? fun e=>e.1 == u.id)with
 | none=>
  rw[List.find?_eq_none]at hf
  exact absurd (by simp[aa]) (hf e he)
 | some e2=>
  have h9:=List.find?_some hf
  have ac:=eE hf
  simp only[beq_iff_eq]at h9
  obtain⟨r1,r2⟩:=aF5 (jH h1).1 ac
  obtain⟨i,d,k⟩:=e2
  simp only at h9
  subst h9
  exact⟨d,k,rfl,r1,r2⟩
theorem wV{f:FuncD}(h:gX f=true){u:UseD}(hu:u∈uxF f):0<=u.blk/\u.blk<(f.blocks.length:Int)/\(u.pos<0->0<=u.src/\u.src<(f.blocks.length:Int)):=by
 unfold uxF at hu;rw[bC]at hu;obtain⟨⟨x,c⟩,hx,hu⟩:=hu;have ad:=hx;rw[bA]at hx;have hc:c<f.blocks.length:=(aD.1 hx).1;unfold gX at h;simp only[aK,aY]at h;have aa:=h.2 (x,c) ad;unfold gV at aa;simp only[aK,aY]at aa;unfold uxB at hu;rw[cD]at hu;rcases aJ.1 hu with hu|hu
 ·rw[bC]at hu;obtain⟨p,hp,hu⟩:=hu;have ab:=aa.1.1.2 p hp;unfold jR at ab;simp only[aK,aY]at ab;unfold uxP at hu;rw[aN]at hu;obtain⟨vs,ac,rfl⟩:=hu;have hs:=List.of_mem_zip ac;have hn:=ab.1.2 vs.2 hs.2;unfold numB at hn;simp at hn;exact⟨by show(0:Int)<=(c:Int);omega,by show(c:Int)<_;omega,fun _=>hn⟩
 rcases aJ.1 hu with hu|hu
 ·rw[bC]at hu;obtain⟨yk,hy,hu⟩:=hu;unfold uxI at hu;rw[aN]at hu;obtain⟨a,ha,rfl⟩:=hu;exact⟨by show(0:Int)<=(c:Int);omega,by show(c:Int)<_;omega,fun h=>by exfalso;have h:((yk.2:Nat):Int)<0:=h;omega⟩
 unfold uxT at hu;split at hu
 ·simp at hu;subst hu;exact⟨by show(0:Int)<=(c:Int);omega,by show(c:Int)<_;omega,fun h=>by exfalso;have h:((x.code.length:Nat):Int)<0:=h;omega⟩
 split at hu
 ·simp at hu;subst hu;exact⟨by show(0:Int)<=(c:Int);omega,by show(c:Int)<_;omega,fun h=>by exfalso;have h:((x.code.length:Nat):Int)<0:=h;omega⟩
 simp at hu
def iZ(f:FuncD)(u:UseD):Prop:=∃d k,((entF f).find? fun e=>e.1 == u.id)=some (u.id,d,k)/\
 ((u.pos<0/\lQ f d.toNat u.src.toNat)\/(¬u.pos<0/\mH f d k u.blk u.pos))
def gE(f:FuncD)(b e:Int):Prop:=
  (∃c:Nat,c<f.blocks.length∧¬Way (toB f) (-1) c∧(∀d,d<c→Way (toB f) (-1) d)∧b=c∧e=4)∨
  ((∀d,d<f.blocks.length→Way (toB f) (-1) d)∧
    ((∃(c:Nat) (x:BlockD),f.blocks[c]? =some x∧x.phis.all (gJ (natI (gT f f.blocks.length 0 c)))=false∧(∀(d:Nat) (y:BlockD),d<c→f.blocks[d]? =some y→y.phis.all (gJ (natI (gT f f.blocks.length 0 d)))=true)∧b=c∧e=5)∨
     ((∀(d:Nat) (y:BlockD),f.blocks[d]? =some y→y.phis.all (gJ (natI (gT f f.blocks.length 0 d)))=true)∧
      ((∃(i:Nat) (u:UseD),(uxF f)[i]? =some u∧¬iZ f u∧(∀v∈(uxF f).take i,iZ f v)∧b=u.blk∧e=6)∨
       ((∀v∈uxF f,iZ f v)∧b=0∧e=0)))))
end Go.Proofs.YtagabiidbbhhmaaGreat
