/- Part 37. -/
import Derived.Test.YtagabiidbbhhmaaGreatET24
namespace Go.Proofs.YtagabiidbbhhmaaGreat
set_option maxHeartbeats 12800000
set_option linter.all false
set_option maxRecDepth 100000
section
section
open Go.RowKit
def lK(f:FuncD)(t b:Nat):List (List Int):=(List.range f.blocks.length).map fun u=>natI (if u<t then gT f f.blocks.length 0 u else if u=t then gT f b 0 u else [])
theorem pC(f:FuncD)(t b:Nat):(lK f t b).length=f.blocks.length:=by simp[lK]
theorem yO{f:FuncD}{t b:Nat}(h:t<f.blocks.length):(lK f t b)[t]? =some (natI (gT f b 0 t)):=by simp[lK,h]
theorem wZ(f:FuncD):lK f 0 0=List.replicate f.blocks.length []:=by
 apply bJ;intro t;by_cases h:t<f.blocks.length
 ·simp only[lK,aM,dK h,dB];rw[dY,if_pos h];by_cases e:t=0<;>simp[e,natI,iM]
 rw[aS (by rw[pC];omega),aS (by simp;omega)]
theorem sU(f:FuncD)(b t:Nat):gT f (b+1) 0 t=gT f b 0 t++(if (toB f b).contains t then [b] else []):=by rw[iM,iM,fK,eR];simp only[eL,List.filter_nil]
theorem aCV{f:FuncD}{t b:Nat}(h:(toB f b).contains t=false):lK f t (b+1)=lK f t b:=by
 unfold lK;refine bT fun u _=> ?_;by_cases e:u=t
 ·subst e;rw[sU,h];simp
 simp[e]
theorem aCW{f:FuncD}{t b:Nat}(h:(toB f b).contains t=true)(ht:t<f.blocks.length):(lK f t b).set t (natI (gT f b 0 t++[b]))=lK f t (b+1):=by
 apply bJ;intro u;rw[cT,pC];by_cases hu:u<f.blocks.length
 ·have e0:∀b,(lK f t b)[u]? =some (natI (if u<t then gT f f.blocks.length 0 u else if u=t then gT f b 0 u else [])):=fun b=>by simp[lK,hu]
  rw[e0,e0];by_cases e:t=u
  ·subst e;rw[if_pos rfl,if_pos hu,if_neg (Nat.lt_irrefl _),if_pos rfl,sU,h];simp
  rw[if_neg e,if_neg (Ne.symm e),if_neg (Ne.symm e)]
 rw[aS (by rw[pC];omega),aS (by rw[pC];omega)];split<;>simp_all
theorem aAF(f:FuncD)(t:Nat):lK f t f.blocks.length=lK f (t+1) 0:=by
 unfold lK;refine bT fun u _=> ?_;by_cases h1:u<t
 ·rw[if_pos h1,if_pos (by omega)]
 rw[if_neg h1];by_cases h2:u=t
 ·subst h2;rw[if_pos rfl,if_pos (by omega)]
 rw[if_neg h2,if_neg (by omega)];split
 ·simp[iM]
 rfl
theorem aAG(f:FuncD):lK f f.blocks.length 0=iX f:=by unfold lK iX mD;refine bT fun u hu=> ?_;rw[if_pos (bQ.1 hu)]
theorem aGG{w:World}{v:Value}{f:FuncD}(hv:gS w v f)(hf:gX f=true):Calls Tryz.prog 61 #[v] w fun e w'=>∃pv,e=.returned pv/\nA w' pv (iX f)/\Below w.heap.size w w':=by
 have bx:=h! (fun(b:Nat) (x:BlockD) (h:f.blocks[b]? =some x)=>lR hf h);obtain⟨bf,bw⟩:=jH hf;obtain⟨ap,cp,ab,cb,rfl,hp,ha,hc,hB⟩:=hv.form;obtain⟨a2,c2,bb,bo,bs,bO,hbm,ch,ba,be⟩:=fW hB
 cases bs;obtain⟨np,bg⟩:∃np,np=f.params.length:=⟨_,rfl⟩;obtain⟨nb,aq⟩:∃nb,nb=f.blocks.length:=⟨_,rfl⟩;rw[<-bg];rw[<-aq]at bO ba ch bf bw⊢;obtain⟨rfl,cg⟩:=ba bf;have ac:=h! aq;have bm:=h! be;have hn0:(0:Int)<=(nb:Int):=by omega
 clear hp ha hc hB hv be bg aq ba hf;generalize f.arrays=ar at*;generalize f.cells=ce at*;have bn:=run_make_row' (P:=Tryz.prog) 42 22 (.slice none 0 0) 24 Tryz.underlying42 zC rfl .i64 .i64 nb (by omega) (by omega);go_enter Tryz.func61,Tryz.ntmps61;go_upto_region 1 with(fail);have bl:=(Below.refl w.heap.size w).alloc (aC _) (.cells #[.slice ap np cp,.int .i64 ar,.int .i64 ce,.slice (some ⟨bb,bo,none⟩) nb cb] 25);have HW:=h! bl;clear bl;have B1:=h! (Box.new w #[.slice ap np cp,.int .i64 ar,.int .i64 ce,.slice (some ⟨bb,bo,none⟩) nb cb] 25);generalize w.alloc (.cells #[.slice ap np cp,.int .i64 ar,.int .i64 ce,.slice (some ⟨bb,bo,none⟩) nb cb] 25)=wv at*;obtain⟨ad,ae,af⟩:=B1.out;go_upto_region 2 with(fail);have aa:Hid (Bag (wv.alloc (.cells (madeCells #[.slice none 0 0] nb) 22)) w.heap.size [w.heap.size] wv.heap.size 3 _ (lK f 0 0)):=h! (by rw[wZ,<-ac.out];exact Bag.empty (Box.new _ _ _));have ao:=(Below.refl wv.heap.size wv).alloc (aC _) (.cells (madeCells #[.slice none 0 0] nb) 22);have ay:Hid (w.heap.size<wv.heap.size):=h! ad;clear ad ae af;replace B1:=h! (B1.later ao);replace HW:=w! HW ao;clear ao;obtain⟨ad,ae,af⟩:=B1.out;obtain⟨bp,aw⟩:∃bp,bp=wv.heap.size:=⟨_,rfl⟩;rw[<-aw]at aa ay;generalize wv.alloc _=wa at*;simp only[<-aw];clear aw bn;go_wp2_with fail;go_loopw [4] (fun i wr=>∃(t:Nat) (vs:List Value),t<=nb/\i=.int .i64 t/\Bag wr w.heap.size [w.heap.size] bp 3 vs (lK f t 0)/\Below w.heap.size w wr/\Box wr w.heap.size #[.slice ap np cp,.int .i64 ar,.int .i64 ce,.slice (some ⟨bb,bo,none⟩) nb cb]) (fun i _=>nb - (intOf i).toNat)
 case atStart=>exact⟨0,_,aL _,rfl,aa.out,HW.out,B1.out⟩
 obtain⟨t,vs,ht,rfl,hR,hW,h1⟩:=hrel;clear ad ae af;replace aa:=h! hR;replace HW:=h! hW;replace B1:=h! h1;clear hR hW h1;generalize wr=w3 at*;obtain⟨ad,ae,af⟩:=B1.out;by_cases hlt:t<nb
 ·go_wp2_with fail;go_loopw [5] (fun i wr=>∃(b:Nat) (vs:List Value),b<=nb/\i=.int .i64 b/\Bag wr w.heap.size [w.heap.size] bp 3 vs (lK f t b)/\Below w.heap.size w wr/\Box wr w.heap.size #[.slice ap np cp,.int .i64 ar,.int .i64 ce,.slice (some ⟨bb,bo,none⟩) nb cb]) (fun i _=>nb - (intOf i).toNat)
  case atStart=>exact⟨0,_,aL _,rfl,aa.out,HW.out,B1.out⟩
  obtain⟨b,vs,hb,rfl,hR,hW,h1⟩:=hrel;clear ad ae af;replace aa:=h! hR;replace HW:=h! hW;replace B1:=h! h1;clear hR hW h1;generalize wr=w5 at*;obtain⟨ad,ae,af⟩:=B1.out;by_cases hltb:b<nb
  ·obtain⟨x,aj⟩:∃x,f.blocks[b]? =some x:=⟨_,aA (by have:=ac.out;omega)⟩;obtain⟨api,aii,ati,cpi,cii,cti,hC⟩:=bm.out b x aj;have bt:=h! (hC.to.below HW.out);obtain⟨k0,k1,k2,k3,k4,k5,q1,q2,q3,q4,q5,q6⟩:=hC.below HW.out cg;obtain⟨cc,an⟩:∃cc,cc=x.term.to.contains (t:Int):=⟨_,rfl⟩;have bh:Hid ((toB f b).contains t=cc):=h! (by rw[an,pM (fun y hy=>by have:=bx.out b x aj y hy;omega),sD aj]);have bj:=h! (aIQ (x:=(t:Int)) bt.out);rw[<-an]at bj;clear q1 q2 q3 q4 q5 q6 hC aj k0 k1 k2 k3 k5 an;go_wp2_with fail;refine bj.mono ?_;rintro e w6 ⟨rfl,rfl⟩;clear k4
   cases cc
   ·go_wp2;go_roundw
    case rel=>exact⟨b+1,vs,hltb,by go_num,by rw[aCV bh.out];exact aa,HW.out,B1.out⟩
    simp[intOf];omega
   obtain⟨v,bc,hcv,ak⟩:=aa.at (yO (f:=f) (t:=t) (b:=b) (by have:=ac.out;omega));obtain⟨n,hn⟩:∃n,n=(natI (gT f b 0 t)).length:=⟨_,rfl⟩;have hnle:n<=b+1:=by rw[hn,gW];exact qQ f b 0 t
   rw[<-hn]at ak;have HN:=h! hn;have HO:=h! ak;have bk:=h! bc;obtain⟨va,vc,rfl⟩:=ak.form;have hbpl:=aa.box.lt;have hbpf:=aa.box.free t;clear hn ak bc;have bd:=h! (HO.alloc (.cells #[.int .i64 b] 3));have az:=h! (Box.new w5 #[.int .i64 b] 3);have al:=h! (aa.alloc (.cells #[.int .i64 b] 3));have ca:=h! (B1.alloc (.cells #[.int .i64 b] 3));have bi:=h! (HW.alloc HW.size (.cells #[.int .i64 b] 3));go_wp2_with (at_builtin;refine xO rfl _ _ 22 3 rfl oW rfl rfl bd.out (Row.of_box (n:=1) (size:=1) az.out rfl (by omega)) (by simp[Value.oneCell']) (by unfold maxLen;omega) (by omega) bi.size (by intro y hy;simp at hy⊢;omega) ?_;intro v7 w7 am ah;obtain⟨ag,ai,rfl⟩:=am.form;have cd:=h! am;have ax:=h! ah;have hc7:w7.cell? ⟨bp,t,none⟩=some (.slice va n vc):=(al.box.kept ah (by simp) (fun e=>HO.free _ e (by simp))).at t (by simpa using bk.out);have hf7:w7.frozen? ⟨bp,t,none⟩=false:=(al.box.kept ah (by simp) (fun e=>HO.free _ e (by simp))).free t;clear am ah);have bv:Hid (Bag (w7.setCell ⟨bp,t,none⟩ (.slice ag (n+1) ai)) w.heap.size [w.heap.size] bp 3 (vs.set t (.slice ag (n+1) ai)) (lK f t (b+1))):=h! (by
    rw[<-aCW bh.out (by have:=ac.out;omega)];refine al.put bk.out (yO (by have:=ac.out;omega)) ?_ ax.out;have e9:natI (gT f b 0 t++[b])=natI (gT f b 0 t)++[(b:Int)]:=by simp[natI]
    rw[e9,aO,bG,<-HN.out];exact cd)
   have br:=h! ((ax.below bi.out (by simp) (fun k hk=>(bd.lt hk).2)).setCell (p:=⟨bp,t,none⟩) (by have:=ay.out;simp only;omega) (.slice ag (n+1) ai));have bz:=h! ((ca.kept ax.out (by simp) (fun e=>HO.free _ e (by simp))).other (p:=⟨bp,t,none⟩) (.slice ag (n+1) ai) (by have:=ay.out;simp only;omega));go_roundw
   case rel=>exact⟨b+1,_,hltb,by go_num,bv.out,br.out,bz.out⟩
   simp[intOf];omega
  have bq:b=nb:=by omega
  have ci:Hid (lK f t b=lK f (t+1) 0):=h! (by rw[bq,ac.out,aAF]);go_wp2;go_roundw
  case rel=>exact⟨t+1,vs,hlt,by go_num,by rw[<-ci.out];exact aa,HW.out,B1.out⟩
  simp[intOf];omega
 have cf:t=nb:=by omega
 have cj:Hid (nA w3 (.slice (some ⟨bp,0,none⟩) nb nb) (iX f)):=h! (by
  have h1:=aa.out;rw[cf,ac.out,aAG]at h1;have h2:=h1.lists (by unfold iX;rw[jL];have:=ac.out;omega) (zB (by have:=ac.out;omega));have h3:(iX f).length=nb:=by unfold iX;rw[jL,ac.out]
  rw[h3]at h2;exact h2)
 go_wp2;go_ret;exact⟨_,rfl,cj.out,HW.out⟩
end
section
open Go.RowKit
end
section
open Go.RowKit
theorem aCX{w:World}{u v:Value}{xs ys:List (List Int)}(hu:nA w u xs)(hv:nA w v ys):Calls Tryz.prog 71 #[u,v] w fun e w'=>e=.returned (.bool (decide (xs=ys)))/\Below w.heap.size w w':=by
 obtain⟨us,a1,c1,b1,o1,rfl,p1,p2,p3,p4,p5,p6⟩:=hu.parts;obtain⟨vs,a2,c2,b2,o2,rfl,q1,q2,q3,q4,q5,q6⟩:=hv.parts;obtain⟨n1,ad⟩:∃n,n=xs.length:=⟨_,rfl⟩;obtain⟨n2,ae⟩:∃n,n=ys.length:=⟨_,rfl⟩;rw[<-ad]at p1 p3 p4⊢;rw[<-ae]at q1 q3 q4⊢;have aa:=h! ad;have ab:=h! ae;have P4:=h! p4;have P5:=h! p5;have P6:=h! p6;have Q4:=h! q4;have Q5:=h! q5;have Q6:=h! q6;clear hu hv ad ae p4 p5 p6 q4 q5 q6;have HW:=h! (Below.refl w.heap.size w);by_cases hne:n1=n2
 ·subst hne;go_enter Tryz.func71,Tryz.ntmps71;go_wp2_with fail;go_loopw [5] (fun i wr=>∃k:Nat,k<=n1/\i=.int .i64 k/\(∀j,j<k->xs.getD j []=ys.getD j [])/\Below w.heap.size w wr) (fun i _=>n1 - (intOf i).toNat)
  case atStart=>exact⟨0,aL _,rfl,fun j h=>absurd h (eT _),HW.out⟩
  obtain⟨k,hk,rfl,hs,hW⟩:=hrel;have HS:=h! hs;replace HW:=h! hW;clear hs hW;by_cases hlt:k<n1
  ·obtain⟨rfl,an⟩:=P4.out (by omega);obtain⟨rfl,ac⟩:=Q4.out (by omega);have HX:=h! (P6 k (by have:=aa.out;omega));have HY:=h! (Q6 k (by have:=ab.out;omega));have C1:=h! ((HW.cell (p:=⟨b1,o1+k,none⟩) an).trans (P5 k (by have:=aa.out;omega)));have C2:=h! ((HW.cell (p:=⟨b2,o2+k,none⟩) ac).trans (Q5 k (by have:=ab.out;omega)));have aj:=World.block_lt_of_cell? wr _ C1.out;have ag:=World.block_lt_of_cell? wr _ C2.out;obtain⟨c,hc⟩:∃c,c=decide (xs.getD k []=ys.getD k []):=⟨_,rfl⟩;have ah:=h! hc;have ap:Hid (∀w4,Below wr.heap.size wr w4->Calls Tryz.prog 30 #[us.getD k undef,vs.getD k undef] w4 fun e w'=>e=.returned (.bool c)/\Below w4.heap.size w4 w'):=h! (fun w4 hb=>by rw[hc];exact aCP ((HX.below HW.out).below hb) ((HY.below HW.out).below hb));clear hc;have al:=(HX.out).form;have ar:=(HY.out).form;generalize us.getD k undef=uk at*;generalize vs.getD k undef=vk at*;obtain⟨xa,xc,rfl⟩:=al;obtain⟨ya,yc,rfl⟩:=ar;go_upto_region 6 with(fail);refine wp_region_grow 10 (fun kz=>match kz with|8=>.const (.bool c)|_=>.plain) (by kernel_rfl) (by kernel_rfl) ?_ (fun ν=> ?_)
   ·(intro k;(try dsimp only);split<;>first|exact True.intro|(intro u w1 w2 hu hb;exact hu.below hb))
   simp only[aP,aU,aR,aV];iterate 8 (refine Grow.val (v:= ?_) rfl rfl (fun wg hbg hdg=> ?_) ?_;rotate_left;(focus((have hc19:=(hbg.cell (p:=⟨b1,o1+k,none⟩) aj).trans C1.out;have af:=(hbg.cell (p:=⟨b2,o2+k,none⟩) ag).trans C2.out);clear hbg hdg;first|(go_simp;done)|(go_simp;with_reducible rfl)));simp only[Act.put,aB,aE,aF])
   refine Grow.call (f:= ?_) (args:= ?_) rfl (fun wg=> ?_) (fun wg hbg hdg=> ?_) ?_;rotate_left 2;focus(first|(go_simp;done)|(go_simp;refine And.intro ?_ ?_<;>with_reducible rfl)|(go_simp;with_reducible rfl))
   focus exact Calls.mono (ap wg hbg) (fun e w2 ⟨he,ac⟩=>⟨_,he,rfl,ac⟩)
   simp only[Act.put,Known.val,aB,aE,aF];refine Grow.val (v:= ?_) rfl rfl (fun wg hbg hdg=> ?_) ?_;rotate_left;focus((have hc19:=(hbg.cell (p:=⟨b1,o1+k,none⟩) aj).trans C1.out;have af:=(hbg.cell (p:=⟨b2,o2+k,none⟩) ag).trans C2.out);clear hbg hdg;first|(go_simp;done)|(go_simp;with_reducible rfl))
   simp only[Act.put,aB,aE,aF];intro wg hb hf aq;clear aq;replace HW:=w! HW hb;clear hb;clear hf
   cases c
   ·have ai:xs.getD k []≠ys.getD k []:=by have:=ah.out;simpa using this
    have ao:=h! ai;clear ai;go_wp2;go_ret;exact⟨iD (decide_eq_false (fun e=>ao (by rw[e]))).symm,HW.out⟩
   have am:Hid (xs.getD k []=ys.getD k []):=h! (by have:=ah.out;simpa using this);go_wp2;go_roundw
   case rel=>exact⟨k+1,hlt,by go_num,fun j hj=>by
     by_cases e:j=k
     ·subst e;exact am
     exact HS j (by omega),HW.out⟩
   simp[intOf];omega
  have hkn:k=n1:=by omega
  have ak:Hid (xs=ys):=h! (by
   apply bJ;intro j;have h1:=aa.out;have h2:=ab.out;by_cases hj:j<n1
   ·have h3:=HS.out j (by omega);rw[aH,aH]at h3;obtain⟨x,hx⟩:∃x,xs[j]? =some x:=⟨_,aA (by omega)⟩;obtain⟨y,hy⟩:∃y,ys[j]? =some y:=⟨_,aA (by omega)⟩;rw[hx,hy]at h3⊢;simp at h3;rw[h3]
   rw[aS (by omega),aS (by omega)])
  go_wp2;go_ret;exact⟨iD (decide_eq_true ak.out).symm,HW.out⟩
 skip;go_enter Tryz.func71,Tryz.ntmps71;go_wp2;go_ret;exact⟨iD (decide_eq_false (fun e=>hne (by rw[aa.out,ab.out,e]))).symm,HW.out⟩
end
end
section
section
open Go.RowKit
structure Que(W:World)(base:Nat)(bs:List Nat)(v:Value)(xs:List Int):Prop where
 ex:∃(b off cap:Nat),v=.slice (some ⟨b,off,none⟩) xs.length cap/\base<=b/\b∉bs/\b<W.heap.size/\xs.length<=cap/\cap<=maxLen/\(∀(j:Nat) (x:Int),xs[j]? =some x->W.cell? ⟨b,off+j,none⟩=some (.int .i64 x))/\
  ∀j:Nat,j<cap->(W.cell? ⟨b,off+j,none⟩).isSome=true/\W.frozen? ⟨b,off+j,none⟩=false
theorem Que.keep{W W':World}{base:Nat}{bs:List Nat}{v:Value}{xs:List Int}(h:Que W base bs v xs)(hs:W.heap.size<=W'.heap.size)(hk:∀g,v.ownBlock=some g\/(∃a n c,v=.slice (some a) n c/\a.block=g)->W'.heap[g]? =W.heap[g]?):Que W' base bs v xs:=by obtain⟨b,off,aa,e,h1,h2,h3,h4,h5,h6,h7⟩:=h.ex;have hb:=hk b (.inr ⟨_,_,_,e,rfl⟩);exact⟨b,off,aa,e,h1,h2,by omega,h4,h5,fun j x hj=>(World.cell?_of_block (w:=W) (a:=⟨b,off+j,none⟩) hb).trans (h6 j x hj),fun j hj=>by rw[World.cell?_of_block (w:=W) (a:=⟨b,off+j,none⟩) hb,World.frozen?_of_block (w:=W) (a:=⟨b,off+j,none⟩) hb];exact h7 j hj⟩
theorem Que.later{W W':World}{base:Nat}{bs:List Nat}{v:Value}{xs:List Int}(h:Que W base bs v xs)(hb:Below W.heap.size W W'):Que W' base bs v xs:=by obtain⟨b,off,aa,e,h1,h2,h3,h4,h5,h6,h7⟩:=h.ex;have hh:=hb.block b h3;exact⟨b,off,aa,e,h1,h2,by have:=hb.size;omega,h4,h5,fun j x hj=>(World.cell?_of_block (w:=W) (a:=⟨b,off+j,none⟩) hh).trans (h6 j x hj),fun j hj=>by rw[World.cell?_of_block (w:=W) (a:=⟨b,off+j,none⟩) hh,World.frozen?_of_block (w:=W) (a:=⟨b,off+j,none⟩) hh];exact h7 j hj⟩
theorem Que.other{W:World}{base:Nat}{bs:List Nat}{v:Value}{xs:List Int}(h:Que W base bs v xs){p:Addr}(u:Value)(hp:p.block∈bs):Que (W.setCell p u) base bs v xs:=by obtain⟨b,off,aa,e,h1,h2,h3,h4,h5,h6,h7⟩:=h.ex;have hh:=Below.heap_setCell W p u b (fun e=>h2 (e ▸ hp));exact⟨b,off,aa,e,h1,h2,by simpa using h3,h4,h5,fun j x hj=>(World.cell?_of_block (w:=W) (a:=⟨b,off+j,none⟩) hh).trans (h6 j x hj),fun j hj=>by rw[World.cell?_of_block (w:=W) (a:=⟨b,off+j,none⟩) hh,World.frozen?_of_block (w:=W) (a:=⟨b,off+j,none⟩) hh];exact h7 j hj⟩
theorem Que.one{W:World}{base:Nat}{bs:List Nat}{b:Nat}{x:Int}(h:Box W b #[.int .i64 x])(hb:base<=b)(hn:b∉bs):Que W base bs (.slice (some ⟨b,0,none⟩) 1 1) [x]:=by
 refine⟨b,0,1,rfl,hb,hn,h.lt,aC _,by unfold maxLen;omega,fun j y hj=> ?_,fun j hj=> ?_⟩
 ·have:j=0:=by have:=(aD.1 hj).1;simp at this;omega
  subst this;simp at hj;subst hj;exact h.at 0 rfl
 have:j=0:=by omega
 subst this;exact⟨by rw[bM,h.at 0 rfl];rfl,h.free _⟩
theorem Que.tail{W:World}{base:Nat}{bs:List Nat}{b off cap:Nat}{x:Int}{xs:List Int}(h:Que W base bs (.slice (some ⟨b,off,none⟩) (xs.length+1) cap) (x :: xs)):
  Que W base bs (.slice (if cap=1 then some ⟨b,off,none⟩ else some ⟨b,off+1,none⟩) xs.length (cap - 1)) xs:=by
 obtain⟨b',off',cap',e,h1,h2,h3,h4,h5,h6,h7⟩:=h.ex
 cases e;rw[bI]at h4;by_cases hc:cap=1
 ·subst hc;have hx:xs=[]:=cS (by omega);subst hx;exact⟨b,off,0,rfl,h1,h2,h3,by simp,by unfold maxLen;omega,fun j x hj=>by simp at hj,fun j hj=>by omega⟩
 ·rw[if_neg hc];refine⟨b,off+1,cap - 1,rfl,h1,h2,h3,by omega,by omega,fun j y hj=> ?_,fun j hj=> ?_⟩
  ·rw[show off+1+j=off+(j+1) by omega];exact h6 (j+1) y (by simpa using hj)
  rw[show off+1+j=off+(j+1) by omega];exact h7 (j+1) (by omega)
theorem Que.of_own{W:World}{base B:Nat}{bs:List Nat}{e:TypeId}{v:Value}{xs:List Int}(h:W.ownsRow B e 1 v xs.length (xs.map (.int .i64)))(hB:base<=B)(hbs:∀b∈bs,b<B)(h0:0<xs.length):Que W base bs v xs:=by
 rcases h.2 with⟨rfl,h9⟩|⟨g,ac,ab,rfl,hb,hh,k1,k2,k3,k4⟩
 ·omega
 refine⟨g,0,ac,rfl,by omega,fun hm=>by have:=hbs g hm;omega,(aQ.1 hh).1,k1,k2,fun j x hj=> ?_,fun j hj=> ?_⟩
 ·have aa:=(aD.1 hj).1;rw[bM];simp only[World.cell?,hh];have h5:=congrArg (fun l=>l[j]?) k4;simp only[eN,aM,hj,dB]at h5;rw[bF,if_pos aa]at h5;simpa using h5
 rw[bM];refine⟨?_,by simp[World.frozen?,hh]⟩;simp only[World.cell?,hh];simp[show j<ab.size by omega]
theorem kK(w:World)(b o:Nat)(v:Value):w.setCells b o [v]=w.setCell ⟨b,o,none⟩ v:=rfl
theorem aA8{P:Program}{w:World}{ops:Array Oper}{rest:List Oper}{o:Oper}{a:Act}{Q:Exit->Act->World->Prop}(hgd:o.guard=none)(s x:Operand)(t e:TypeId)
  (ho:o.op=.call { callee:=.builtin .append,args:=#[s,x],argTypes:=#[t,t] }) (he:Elem P t e (.int .i64 0) 1 8) {base:Nat} {bs:List Nat}
  {v:Value} {xs:List Int} {y:Int} {B:Nat} (hs:a.eval s=v) (hx:a.eval x=.slice (some ⟨B,0,none⟩) 1 1) (HQ:Que w base bs v xs) (hB:Box w B #[.int .i64 y]) (hlen:xs.length<=17592186044415) (hbase:base<=w.heap.size) (hbs:∀b∈bs,b<w.heap.size)
  (h:∀v' w',Que w' base bs v' (xs++[y])->(∀b A,b∈bs->Box w b A->Box w' b A)->Below base w w'->wpList P ops Q rest (a.put o.dst v') w'):wpList P ops Q (o :: rest) a w:=by
 obtain⟨ht,⟨i,hi,hz,ae,ac⟩,hzc,hp⟩:=he;obtain⟨b,off,ab,rfl,h1,h2,h3,h4,h5,h6,h7⟩:=HQ.ex;have aa:xs.length+1<=ab->∀j,j< [Value.int .i64 y].length->(w.cell? ⟨b,off+xs.length+j,none⟩).isSome=true:=fun hr j hj=>by
  have h0:j=0:=by simpa using hj
  subst h0;exact(h7 xs.length (by omega)).1
 refine wpList_append_arg w hgd s x t ho e i (.int .i64 0) 1 8 ht hi hz ae ac rfl (by omega) b off xs.length ab (xs.map (.int .i64)) hs (by simp) (fun j u hj=> ?_) ⟨B,0,none⟩ 1 1 [.int .i64 y] hx rfl (fun j u hj=> ?_) (by simp[Value.oneCell']) (fun hr j hj=> ?_) (by unfold maxLen;omega) (by omega) (fun hr=> ?_) (fun hg v' w' r1 r2=> ?_)
 ·rw[aM]at hj;obtain⟨z,ad,rfl⟩:=eP.1 hj;exact h6 j z ad
 ·have:j=0:=by have:=(aD.1 hj).1;simp at this;omega
  subst this;simp at hj;subst hj;rw[add_zero];exact hB.at 0 rfl
 ·simp only[bI,dA]at hj;have h0:j=0:=by omega
  subst h0;rw[eN,dE];exact h7 xs.length (by omega)
 ·rw[kK,eN];refine h _ _ ⟨b,off,ab,by rw[List.length_append];rfl,h1,h2,by simpa using h3,by rw[List.length_append];exact hr,h5,fun j z hj=> ?_,fun j hj=> ?_⟩ (fun b' A hb' hA=>hA.other _ (fun e=>h2 (by rw[<-show b'=b from e];exact hb'))) ((Below.refl _ _).setCell (p:=⟨b,off+xs.length,none⟩) h1 _)
  ·have hc:=World.cell?_setCells_in b [.int .i64 y] (off+xs.length) w (aa hr) 0 (by simp);rw[dE,kK]at hc;rw[dF]at hj;split at hj
   ·rename_i hjl;have ho:=World.cell?_setCells_out b [.int .i64 y] (off+xs.length) w ⟨b,off+j,none⟩ (fun _ _=>Or.inl (by simp only;omega));rw[kK]at ho;rw[ho];exact h6 j z hj
   rename_i hjl;have:j=xs.length:=by have:=(aD.1 hj).1;simp at this;omega
   subst this;simp at hj;subst hj;exact hc
  have hf:=World.frozen?_setCells b [.int .i64 y] (off+xs.length) w ⟨b,off+j,none⟩;rw[kK]at hf;rw[hf];refine⟨?_,(h7 j hj).2⟩;by_cases e:j=xs.length
  ·subst e;have hc:=World.cell?_setCells_in b [.int .i64 y] (off+xs.length) w (aa hr) 0 (by simp);rw[dE,kK]at hc;rw[hc];rfl
  have ho:=World.cell?_setCells_out b [.int .i64 y] (off+xs.length) w ⟨b,off+j,none⟩ (fun _ _=>by simp only[bI,dA];omega);rw[kK]at ho;rw[ho];exact(h7 j hj).1
 ·refine h v' w' (Que.of_own (B:=w.heap.size) (e:=e) ?_ hbase hbs (by simp)) (fun b' A hb' hA=> ?_) ((Below.refl _ _).grown r2 hbase (by simp))
  ·rw[aO,bG];exact r1
  exact hA.later ((Below.refl _ _).grown r2 (aC _) (by simp))
end
section
open Go.RowKit
structure WInv(f:FuncD)(gone:Int)(s:List Bool)(q:List Nat):Prop where
 len:s.length=f.blocks.length
 sound:∀b:Nat,s[b]? =some true->Way (toB f) gone b
 que:∀b∈q,s[b]? =some true
 closed:∀b:Nat,s[b]? =some true->b∉q->∀t∈toB f b,(t:Int)≠gone->s[t]? =some true
 zero:s[0]? =some true
structure WIn(f:FuncD)(gone:Int)(c k:Nat)(s:List Bool)(q:List Nat):Prop where
 len:s.length=f.blocks.length
 sound:∀b:Nat,s[b]? =some true->Way (toB f) gone b
 que:∀b∈q,s[b]? =some true
 cur:s[c]? =some true
 closed:∀b:Nat,s[b]? =some true->b∉q->b≠c->∀t∈toB f b,(t:Int)≠gone->s[t]? =some true
 part:∀t∈(toB f c).take k,(t:Int)≠gone->s[t]? =some true
 zero:s[0]? =some true
theorem WInv.take{f:FuncD}{gone:Int}{s:List Bool}{c:Nat}{q:List Nat}(h:WInv f gone s (c :: q)):WIn f gone c 0 s q:=
 ⟨h.len,h.sound,fun b hb=>h.que b (bL _ hb),h.que c dX,fun b hb hq hc=>h.closed b hb (by simp[hq,hc]),by simp,h.zero⟩
theorem WIn.old{f:FuncD}{gone:Int}{c k:Nat}{s:List Bool}{q:List Nat}{t:Nat}(h:WIn f gone c k s q)(hk:(toB f c)[k]? =some t)(ht:s[t]? =some true\/(t:Int)=gone):WIn f gone c (k+1) s q:=
 ⟨h.len,h.sound,h.que,h.cur,h.closed,fun u hu hg=>by
  rw[fR _ _ _ hk]at hu;rcases aJ.1 hu with hu|hu
  ·exact h.part u hu hg
  simp at hu;subst hu;exact ht.resolve_right hg,h.zero⟩
theorem WIn.new{f:FuncD}{gone:Int}{c k:Nat}{s:List Bool}{q:List Nat}{t:Nat}(h:WIn f gone c k s q)(hk:(toB f c)[k]? =some t)(ht:s[t]? =some false)(hg:(t:Int)≠gone):WIn f gone c (k+1) (s.set t true) (q++[t]):=by
 have aa:=(aD.1 ht).1;have up:∀b:Nat,s[b]? =some true->(s.set t true)[b]? =some true:=fun b hb=>mI.2 (.inl hb);have hn:(s.set t true)[t]? =some true:=mI.2 (.inr ⟨rfl,aa⟩);refine⟨by rw[cQ];exact h.len,fun b hb=> ?_,fun b hb=> ?_,up _ h.cur,fun b hb hq hc u hu hg2=> ?_,fun u hu hg2=> ?_,up _ h.zero⟩
 ·rcases mI.1 hb with hb|⟨rfl,_⟩
  ·exact h.sound b hb
  exact .step (h.sound c h.cur) (aG hk) hg
 ·rcases aJ.1 hb with hb|hb
  ·exact up b (h.que b hb)
  simp at hb;subst hb;exact hn
 ·rcases mI.1 hb with hb|⟨rfl,_⟩
  ·exact up u (h.closed b hb (fun hm=>hq (aJ.2 (.inl hm))) hc u hu hg2)
  exact absurd (aJ.2 (.inr (by simp))) hq
 rw[fR _ _ _ hk]at hu;rcases aJ.1 hu with hu|hu
 ·exact up u (h.part u hu hg2)
 simp at hu;subst hu;exact hn
theorem WIn.done{f:FuncD}{gone:Int}{c:Nat}{s:List Bool}{q:List Nat}(h:WIn f gone c (toB f c).length s q):WInv f gone s q:=
 ⟨h.len,h.sound,h.que,fun b hb hq u hu hg=>by
  by_cases e:b=c
  ·subst e;exact h.part u (by rw[cO];exact hu) hg
  exact h.closed b hb hq e u hu hg,h.zero⟩
theorem WInv.is{f:FuncD}{gone:Int}{s:List Bool}(h:WInv f gone s []):pL f gone s:=
 ⟨h.len,fun b=>⟨h.sound b,fun hw=>by
  induction hw with
  | zero _=>exact h.zero
  | step _ ht hg ih=>exact h.closed _ ih (by simp) _ ht hg⟩⟩
theorem WInv.start{f:FuncD}{gone:Int}(hn:1<=f.blocks.length)(hg:gone≠0):WInv f gone ((List.replicate f.blocks.length false).set 0 true) [0]:=by
 have h0:∀b:Nat,((List.replicate f.blocks.length false).set 0 true)[b]? =some true↔b=0:=fun b=>by
  rw[mI];constructor
  ·rintro(h|⟨h,_⟩)
   ·obtain⟨h1,h2⟩:=aD.1 h;simp at h2
   exact h
  intro h;exact .inr ⟨h,by rw[aW];omega⟩
 refine⟨by simp,fun b hb=> ?_,fun b hb=> ?_,fun b hb hq=> ?_,(h0 0).2 rfl⟩
 ·rw[(h0 b).1 hb];exact .zero hg
 ·simp at hb;exact(h0 b).2 hb
 exact absurd ((h0 b).1 hb) (by simpa using hq)
theorem vN(f:FuncD):pL f 0 (List.replicate f.blocks.length false):=by
 refine⟨by simp,fun b=>⟨fun h=> ?_,fun h=> ?_⟩⟩
 ·obtain⟨h1,h2⟩:=aD.1 h;simp at h2
 exfalso;induction h with
 | zero h=>exact h rfl
 | step _ _ _ ih=>exact ih
def isF(v:Option Value):Bool:=match v with|some (.bool false)=>true|_=>false
def tD(W:World)(B n:Nat):Nat:=(List.range n).countP fun j=>isF (W.cell? ⟨B,j,none⟩)
theorem vO{W:World}{B n:Nat}{s:List Bool}(h:Box W B (iJ s))(hn:s.length=n):tD W B n=s.count false:=by
 subst hn;have e1:s=(List.range s.length).map fun j=>s.getD j true:=by
  apply bJ;intro j;by_cases hj:j<s.length
  ·simp[hj]
  simp[hj]
 have e2:s.count false=((List.range s.length).map fun j=>s.getD j true).count false:=by rw[<-e1]
 rw[e2];unfold tD List.count;rw[List.countP_map];refine List.countP_congr fun j hj=> ?_;have aa:=bQ.1 hj;rw[h.cell];have e3:(iJ s)[j]? =some (.bool (s.getD j true)):=lZ (by rw[aH,aA aa];rfl);rw[e3];simp only[Function.comp];generalize s.getD j true=x
 cases x<;>simp[isF]
def lenV(v:Value):Nat:=match v with| .slice _ n _=>n|_=>0
theorem Que.lenV{W:World}{base:Nat}{bs:List Nat}{v:Value}{xs:List Int}(h:Que W base bs v xs):lenV v=xs.length:=by obtain⟨b,off,cap,e,_⟩:=h.ex;rw[e];rfl
theorem vP{W:World}{B n:Nat}{s:List Bool}(h:Box W B (iJ s))(hn:s.length=n)(hb:n<=17592186044416):qK W (.slice (some ⟨B,0,none⟩) n n) s:=by subst hn;have:=Row.of_box (n:=s.length) (size:=1) h (by simp[iJ]) hb;unfold iJ at this;unfold qK;simpa using this
set_option maxHeartbeats 12800000 in
theorem qA{w:World}{v:Value}{f:FuncD}{gone:Int}(hv:gS w v f)(hf:gX f=true):Calls Tryz.prog 75 #[v,.int .i64 gone] w fun e w'=>∃rv S,e=.returned rv/\pL f gone S/\qK w' rv S/\Below w.heap.size w w':=by
 have dp:=h! (fun(b:Nat) (x:BlockD) (h:f.blocks[b]? =some x)=>lR hf h);obtain⟨cq,dn⟩:=jH hf;obtain⟨ap,cp,ab,cb,rfl,hp,ha,hc,hB⟩:=hv.form;obtain⟨a2,c2,bb,bo,dd,dr,hbm,ed,bO,co⟩:=fW hB
 cases dd;obtain⟨np,cs⟩:∃np,np=f.params.length:=⟨_,rfl⟩;obtain⟨nb,bv⟩:∃nb,nb=f.blocks.length:=⟨_,rfl⟩;rw[<-cs];rw[<-bv]at dr bO ed cq dn⊢;obtain⟨rfl,ea⟩:=bO cq;have ah:=h! bv;have da:=h! co;have hn0:(0:Int)<=(nb:Int):=by omega
 clear hp ha hc hB hv co cs bv bO hf;generalize f.arrays=ar at*;generalize f.cells=ce at*;have ch:=run_make_row' (P:=Tryz.prog) 124 4 (.bool false) 1 Tryz.underlying124 uF rfl .i64 .i64 nb (by omega) (by omega)
 cases hg0:(gone == 0)
 ·have ec:Hid (gone≠0):=h! (by simpa using hg0);go_enter Tryz.func75,Tryz.ntmps75;go_upto_region 1 with(fail);have ad:=(Below.refl w.heap.size w).alloc (aC _) (.cells #[.slice ap np cp,.int .i64 ar,.int .i64 ce,.slice (some ⟨bb,bo,none⟩) nb cb] 25);have HW:=h! ad;clear ad;have B1:=h! (Box.new w #[.slice ap np cp,.int .i64 ar,.int .i64 ce,.slice (some ⟨bb,bo,none⟩) nb cb] 25);generalize w.alloc (.cells #[.slice ap np cp,.int .i64 ar,.int .i64 ce,.slice (some ⟨bb,bo,none⟩) nb cb] 25)=wv at*;obtain⟨ag,ak,am⟩:=B1.out;have hwv:=ag;go_upto_region 2 with(fail);have ac:wv.heap.size≠w.heap.size:=fun e=>by have:=ag;omega
  have af:w.heap.size≠wv.heap.size:=fun e=>ac e.symm;clear ag ak am;have ad:=(Below.refl wv.heap.size wv).alloc (aC _) (.cells (madeCells #[.bool false] nb) 4);replace B1:=h! (B1.later ad);replace HW:=w! HW ad;clear ad;have BF:=h! (Box.new wv (madeCells #[.bool false] nb) 4);generalize wv.alloc (.cells (madeCells #[.bool false] nb) 4)=w2 at*;obtain⟨ag,ak,am⟩:=B1.out;obtain⟨cL,cj,cB⟩:=BF.out;clear ch;have aj:Hid (Box w2 wv.heap.size (iJ (List.replicate nb false))):=h! (by rw[<-oH];exact BF);have aw:w.heap.size≠wv.heap.size:=af;have bj:Hid (w.heap.size<wv.heap.size/\wv.heap.size<w2.heap.size):=h! (by have:=BF.lt;omega);obtain⟨bf,bt⟩:∃bf,bf=wv.heap.size:=⟨_,rfl⟩;rw[<-bt]at aj aw bj;clear ag ak am cL cj cB;clear BF af ac;simp only[<-bt];clear bt;obtain⟨lF,cF,fF⟩:=aj.out;have bs:(iJ (List.replicate nb false))[0]? =some (.bool false):=lZ (by rw[dY,if_pos (by omega)]);obtain⟨ag,ak,am⟩:=B1.out;go_upto_region 5 with(fail);clear bs lF cF fF ag ak am;have aa:Hid (Box (w2.setCell ⟨bf,0,none⟩ (.bool true)) bf (iJ ((List.replicate nb false).set 0 true))):=h! (by have:=aj.set 0 (.bool true);rwa[oJ]at this);replace B1:=h! (B1.other (p:=⟨bf,0,none⟩) (.bool true) aw);replace HW:=h! (HW.setCell (p:=⟨bf,0,none⟩) (by have:=bj.out;simp only;omega) (.bool true));have cg:bf<(w2.setCell ⟨bf,0,none⟩ (.bool true)).heap.size:=aa.lt;clear aj;generalize w2.setCell ⟨bf,0,none⟩ (.bool true)=w3 at*;have ax:Hid (WInv f gone ((List.replicate nb false).set 0 true) [0]):=h! (by rw[ah.out];exact WInv.start (by have:=ah.out;omega) ec.out);have bi:Hid (2*((List.replicate nb false).set 0 true).count false+ [0].length<=2048):=h! (by have:=List.count_le_length (a:=false) (l:=(List.replicate nb false).set 0 true);rw[cQ,aW]at this;simp only[bI,dA];omega);generalize (List.replicate nb false).set 0 true=s0 at*;go_wp2_with fail;have ai:=(Below.refl w3.heap.size w3).alloc (aC _) (.cells #[.int .i64 0] 3);have HQ:Hid (Que (w3.alloc (.cells #[.int .i64 0] 3)) w.heap.size [w.heap.size,bf] (.slice (some ⟨w3.heap.size,0,none⟩) 1 1) (natI [0])):=h! (Que.one (Box.new _ _ _) HW.size (by have:=bj.out;simp;omega));replace aa:=h! (aa.later ai);replace B1:=h! (B1.later ai);replace HW:=w! HW ai;clear ai cg;generalize w3.alloc _=w4 at*;go_loopw [6] (fun u wr=>∃(s:List Bool) (q:List Nat),WInv f gone s q/\Que wr w.heap.size [w.heap.size,bf] u (natI q)/\Box wr bf (iJ s)/\2*s.count false+q.length<=2048/\Below w.heap.size w wr/\Box wr w.heap.size #[.slice ap np cp,.int .i64 ar,.int .i64 ce,.slice (some ⟨bb,bo,none⟩) nb cb]) (fun u wr=>2*tD wr bf nb+lenV u)
  case atStart=>exact⟨s0,[0],ax.out,HQ.out,aa.out,bi.out,HW.out,B1.out⟩
  obtain⟨s,q,hS,hQ,hF,hM,hW,az⟩:=hrel;have ax:=h! hS;replace HQ:=h! hQ;replace aa:=h! hF;replace bi:=h! hM;replace HW:=h! hW;replace B1:=h! az;have cv:Hid (2*tD wr bf nb+lenV u6=2*s.count false+q.length):=h! (by rw[vO hF (by rw[hS.len,ah.out]),hQ.lenV,gW]);clear hS hQ hF hM hW az;generalize wr=w5 at*;by_cases hq0:0<q.length
  ·obtain⟨c,q,rfl⟩:∃c q',q=c :: q':=by
    cases q with
    | nil=>simp at hq0
    | cons c q=>exact⟨c,q,rfl⟩
   obtain⟨qb,qo,qc,bg,an,br,hql,cm,dj,ae,bm⟩:=HQ.ex;rw[gW,bI]at bg cm;subst bg;have be:=ae 0 (c:Int) rfl;rw[dE]at be;have hqcm:qc<=9223372036854775807:=by unfold maxLen at dj;omega
   obtain⟨n,hn⟩:∃n,n=q.length:=⟨_,rfl⟩;have HN:=h! hn;have hnM:n<=2048:=by have:=bi.out;rw[bI]at this;omega
   rw[<-hn]at cm HQ⊢;have cr:Hid (Que w5 w.heap.size [w.heap.size,bf] (.slice (if qc=1 then some ⟨qb,qo,none⟩ else some ⟨qb,qo+1,none⟩) n (qc - 1)) (natI q)):=h! (by have h9:=HQ.out;rw[hn,<-gW q]at h9⊢;exact h9.tail);obtain⟨x,ba⟩:∃x,f.blocks[c]? =some x:=⟨_,aA (by have h8:=(aD.1 (ax.que c dX)).1;rw[ax.len]at h8;exact h8)⟩;have hcl:c<nb:=by have h8:=(aD.1 ba).1;have:=ah.out;omega
   obtain⟨api,aii,ati,cpi,cii,cti,hC⟩:=da.out c x ba;obtain⟨ta,tc,ay,bd,ds,ee,htm,cl,cG⟩:=hC.to.parts
   cases ds;obtain⟨k0,k1,k2,k3,k4,k5,q1,q2,q3,q4,q5,q6⟩:=hC.below HW.out ea;obtain⟨tl,ca⟩:∃tl,tl=x.term.to.length:=⟨_,rfl⟩;rw[<-ca]at k4 ee;have dw:=h! cl;have cM:=h! cG;have bh:=h! ca;have ck:=h! (sD ba);have dx:=h! (dp c x ba);have aq:Hid (WIn f gone c 0 s q):=h! ax.take;have al:Hid (2*s.count false+q.length<=2*s.count false+n):=h! (by rw[hn];exact aC _);have bn:Hid (2*s.count false+n<=2047):=h! (by have:=bi.out;rw[bI]at this;omega);have cc:Hid (2*tD w5 bf nb=2*s.count false):=h! (by have h9:2*tD w5 bf nb+(q.length+1)=2*s.count false+(c :: q).length:=cv.out;rw[bI]at h9;omega);obtain⟨M,hM⟩:∃M,M=2*s.count false+n:=⟨_,rfl⟩;rw[<-hM]at al bn;have HM:=h! hM;obtain⟨l1,c1,f1⟩:=B1.out;clear q1 q2 q3 q4 q5 q6 hC ba k0 k1 k2 k3 k5 cl cG ca ae bm an br hM hn hq0 cv;rcases Decidable.em (qc=1)with bz|bz;all_goals
    try (subst bz;obtain rfl:n=0:=by omega)
    go_upto_region 8 with(fail);clear be;go_wp2_with fail;clear l1 c1 f1 k4;go_loopw [6,9] (fun u i wr=>∃(k:Nat) (s:List Bool) (q:List Nat),k<=tl/\i=.int .i64 k/\WIn f gone c k s q/\Que wr w.heap.size [w.heap.size,bf] u (natI q)/\Box wr bf (iJ s)/\2*s.count false+q.length<=M/\Below w.heap.size w wr/\Box wr w.heap.size #[.slice ap np cp,.int .i64 ar,.int .i64 ce,.slice (some ⟨bb,bo,none⟩) nb cb]) (fun _ i _=>tl - (intOf i).toNat)
    case atStart=>exact⟨0,s,q,Nat.zero_le _,rfl,aq.out,by first|simpa using cr.out|simpa [bz]using cr.out,aa.out,al.out,HW.out,B1.out⟩
    obtain⟨k,s2,q2,hk,rfl,hS,hQ,hF,hM,hW,az⟩:=hrel;replace aq:=h! hS;replace HQ:=h! hQ;replace aa:=h! hF;replace al:=h! hM;replace HW:=h! hW;replace B1:=h! az;have hq2l:q2.length<=2047:=by have:=bn.out;omega
    obtain⟨qb2,qo2,qc2,bc,-⟩:=hQ.ex;rw[gW]at bc;subst bc;clear hS hQ hF hM hW az;generalize wr=w6 at*;by_cases hlt:k<tl
    ·obtain⟨rfl,bx⟩:=dw.out (by have:=bh.out;omega);obtain⟨t,ht⟩:∃t,t=x.term.to.getD k 0:=⟨_,rfl⟩;have ao:x.term.to[k]? =some t:=by rw[ht];exact gF _ _ (by have:=bh.out;omega)
     have db:=dx.out t (aG ao);obtain⟨tn,rfl⟩:∃tn:Nat,t=(tn:Int):=⟨t.toNat,by omega⟩;have dz:tn<nb:=by have:=ah.out;omega
     have cx:w6.cell? ⟨ay,bd+k,none⟩=some (.int .i64 tn):=by rw[HW.cell (p:=⟨ay,bd+k,none⟩) bx,cM k (by have:=bh.out;omega),<-ht]
     have cd:Hid ((toB f c)[k]? =some tn):=h! (by rw[ck.out,aM,ao];simp);obtain⟨l2,c2,f2⟩:=aa.out;obtain⟨sb,bp⟩:∃sb,s2[tn]? =some sb:=⟨_,aA (by rw[aq.len,<-ah.out];exact dz)⟩;have bs:=lZ bp;have bk:=h! bp;clear ht ao db bp
     cases sb
     ·cases hng:((tn:Int) != gone)
      ·have bl:=h! hng;go_wp2;go_roundw
       case rel=>exact⟨k+1,s2,q2,hlt,by go_num,aq.old cd.out (.inr (by have:=bl.out;simpa using this)),HQ.out,aa.out,al.out,HW.out,B1.out⟩
       simp[intOf];omega
      have bl:Hid ((tn:Int)≠gone):=h! (by simpa using hng);go_upto_region 15 with(fail);clear l2 c2 f2 bs;have cy:Hid (Box (w6.setCell ⟨bf,tn,none⟩ (.bool true)) bf (iJ (s2.set tn true))):=h! (by have:=aa.set tn (.bool true);rwa[oJ]at this);have de:=h! (HQ.other (p:=⟨bf,tn,none⟩) (.bool true) (by simp));have cf:=h! (HW.setCell (p:=⟨bf,tn,none⟩) (by have:=bj.out;simp only;omega) (.bool true));have cw:=h! (B1.other (p:=⟨bf,tn,none⟩) (.bool true) aw);have hct3:(w6.setCell ⟨bf,tn,none⟩ (.bool true)).cell? ⟨ay,bd+k,none⟩=some (.int .i64 tn):=by rw[cf.cell (p:=⟨ay,bd+k,none⟩) bx,<-HW.cell (p:=⟨ay,bd+k,none⟩) bx];exact cx
      clear cx;generalize w6.setCell ⟨bf,tn,none⟩ (.bool true)=w7 at*;have ai:=(Below.refl w7.heap.size w7).alloc (aC _) (.cells #[.int .i64 tn] 3);have eg:=h! (de.later ai);have df:=h! (Box.new w7 #[.int .i64 tn] 3);have dc:=h! (cy.later ai);have dg:=h! (cw.later ai);have ct:=h! (cf.alloc cf.size (.cells #[.int .i64 tn] 3));have hl7:=cy.lt;have hl8:=cw.lt;clear ai;go_wp2_with (at_builtin;refine aA8 rfl _ _ 22 3 rfl oW rfl rfl eg.out df.out (by rw[gW];omega) ct.size (by intro y hy;simp at hy⊢;omega) ?_;intro v9 w9 ci bq cz;have dk:=h! ci;have dm:=h! (bq _ _ (by simp) dc.out);have dy:=h! (bq _ _ (by simp) dg.out);have ef:=h! (ct.trans cz);clear ci bq cz);have eb:Hid (Que w9 w.heap.size [w.heap.size,bf] v9 (natI (q2++[tn]))):=h! (by
       have e9:natI (q2++[tn])=natI q2++[(tn:Int)]:=by simp[natI]
       rw[e9];exact dk)
      have dt:Hid (2*(s2.set tn true).count false+(q2++[tn]).length<=M):=h! (by have h1:=count_set bk.out;have h2:=al.out;rw[aO];simp only[bI,dA];omega);go_roundw
      case rel=>exact⟨k+1,s2.set tn true,q2++[tn],hlt,by go_num,aq.new cd.out bk.out bl.out,eb.out,dm.out,dt.out,ef.out,dy.out⟩
      simp[intOf];omega
     go_wp2;go_roundw
     case rel=>exact⟨k+1,s2,q2,hlt,by go_num,aq.old cd.out (.inl bk.out),HQ.out,aa.out,al.out,HW.out,B1.out⟩
     simp[intOf];omega
    have di:k=tl:=by omega
    have cn:Hid (WInv f gone s2 q2):=h! (by have h9:=aq.out;rw[di,bh.out,show x.term.to.length=(toB f c).length by rw[ck.out,aZ]]at h9;exact h9.done);have dv:=h! (vO (n:=nb) aa.out (by rw[cn.len,ah.out]));go_wp2;go_roundw
    case rel=>exact⟨s2,q2,cn.out,HQ.out,aa.out,by have h1:=al.out;have h2:=bn.out;omega,HW.out,B1.out⟩
    have h1:=dv.out;have h2:=al.out;have h3:=cc.out;have h4:=HM.out;simp only[lenV];omega
  obtain rfl:q=[]:=cS (by omega);obtain⟨qb,qo,qc,bg,-⟩:=HQ.ex;subst bg;have dl:=h! (ax.is);have bw:=h! (vP (n:=nb) aa.out (by rw[ax.len,ah.out]) (by omega));simp only[natI,fD,dA]at*;go_wp2;go_ret;exact⟨_,s,rfl,dl.out,bw.out,HW.out⟩
 have dh:gone=0:=by simpa using hg0
 subst dh;have dq:Hid (pL f 0 (List.replicate nb false)):=h! (by rw[ah.out];exact vN f);go_enter Tryz.func75,Tryz.ntmps75;go_upto_region 1 with(fail);have ad:=(Below.refl w.heap.size w).alloc (aC _) (.cells #[.slice ap np cp,.int .i64 ar,.int .i64 ce,.slice (some ⟨bb,bo,none⟩) nb cb] 25);have HW:=h! ad;clear ad;have B1:=h! (Box.new w #[.slice ap np cp,.int .i64 ar,.int .i64 ce,.slice (some ⟨bb,bo,none⟩) nb cb] 25);generalize w.alloc (.cells #[.slice ap np cp,.int .i64 ar,.int .i64 ce,.slice (some ⟨bb,bo,none⟩) nb cb] 25)=wv at*;obtain⟨ag,ak,am⟩:=B1.out;go_upto_region 2 with(fail);have ac:wv.heap.size≠w.heap.size:=fun e=>by have:=ag;omega
 have af:w.heap.size≠wv.heap.size:=fun e=>ac e.symm;clear ag ak am;have ad:=(Below.refl wv.heap.size wv).alloc (aC _) (.cells (madeCells #[.bool false] nb) 4);replace B1:=h! (B1.later ad);replace HW:=w! HW ad;clear ad;have BF:=h! (Box.new wv (madeCells #[.bool false] nb) 4);generalize wv.alloc (.cells (madeCells #[.bool false] nb) 4)=w2 at*;obtain⟨ag,ak,am⟩:=B1.out;obtain⟨cL,cj,cB⟩:=BF.out;clear ch;have bw:=h! (vP (n:=nb) (s:=List.replicate nb false) (by rw[<-oH];exact BF) (by simp) (by omega));go_wp2;go_ret;exact⟨_,_,rfl,dq.out,bw.out,HW.out⟩
end
end
end Go.Proofs.YtagabiidbbhhmaaGreat
