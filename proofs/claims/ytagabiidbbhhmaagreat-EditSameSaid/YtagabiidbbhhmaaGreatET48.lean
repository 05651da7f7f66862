/- Part 48. -/
import Derived.Test.YtagabiidbbhhmaaGreatET47
namespace Go.Proofs.YtagabiidbbhhmaaGreat
set_option maxHeartbeats 3200000
set_option linter.all false
set_option maxRecDepth 100000
open Go.RowKit
def yP(f:FuncD)(w:World)(e:Ending)(w':World):Prop:=∃(O:List Nat) (v:Value) (S:Foot),fQ f O/\e=.returned v/\OFunc w' S v (renF f O)/\nH w.heap.size S/\Below w.heap.size w w'
theorem aAH(hren:∀(W:World) (v:Value) (f:FuncD),gS W v f->fO f=0->gE f 0 0->Calls Tryz.prog 37 #[v] W (yP f W)){w:World}{v:Value}{f:FuncD}(hv:gS w v f):
  Calls Tryz.prog 11 #[v] w (RenR f w):=by
 have HV:=h! hv;have ao:=h! hren;obtain⟨ap,cp,ab,cb,rfl,-,-,-,-⟩:=hv.form;clear hv hren;go_enter Tryz.func11,Tryz.ntmps11;go_upto_region 1 with(fail);have ai:=(Below.refl w.heap.size w).alloc (aC _) (.cells #[.slice ap f.params.length cp,.int .i64 f.arrays,.int .i64 f.cells,.slice ab f.blocks.length cb] 25);have HW:=h! ai;clear ai;have B1:=h! (Box.new w #[.slice ap f.params.length cp,.int .i64 f.arrays,.int .i64 f.cells,.slice ab f.blocks.length cb] 25);have aj:(w.alloc (.cells #[.slice ap f.params.length cp,.int .i64 f.arrays,.int .i64 f.cells,.slice ab f.blocks.length cb] 25)).heap.size=w.heap.size+1:=World.size_alloc _ _;generalize w.alloc (.cells #[.slice ap f.params.length cp,.int .i64 f.arrays,.int .i64 f.cells,.slice ab f.blocks.length cb] 25)=ak at*;have ai:=(Below.refl ak.heap.size ak).alloc (aC _) (.cells #[.slice none 0 0,.int .i64 0,.int .i64 0,.slice none 0 0] 25);replace B1:=h! (B1.later ai);replace HW:=w! HW ai;clear ai;have B2:=h! (Box.new ak #[.slice none 0 0,.int .i64 0,.int .i64 0,.slice none 0 0] 25);rw[aj]at B2;clear aj;generalize ak.alloc (.cells #[.slice none 0 0,.int .i64 0,.int .i64 0,.slice none 0 0] 25)=wv at*;obtain⟨af,aa,ae⟩:=B1.out;obtain⟨ac,ag,ad⟩:=B2.out;go_wp2_with fail;refine(aLF (HV.below HW.out)).mono ?_;rintro e w1 ⟨bq,g,rfl,h1,h2,hb⟩;have HS:=h! (SErr.of_check h1 h2);clear h1 h2;clear af aa ae ac ag ad;replace B1:=h! (B1.later hb);replace B2:=h! (B2.later hb);replace HW:=w! HW hb;clear hb;obtain⟨af,aa,ae⟩:=B1.out;obtain⟨ac,ag,ad⟩:=B2.out;by_cases hg:g=0;rotate_left
 ·have am:Hid (RenP f aHK g):=h! ⟨g,HS.out,.inl ⟨hg,rfl,rfl⟩⟩;have hc1:(g != 0)=true:=by simpa using hg
  clear hg;go_wp2;clear af aa ae ac ag ad;have ah:=((((Only.set w1 (w.heap.size+1) 0 (.slice none 0 0)).put 1 (.int .i64 0)).put 2 (.int .i64 0)).put 3 (.slice none 0 0));replace B1:=h! (B1.only ah (by first|assumption|(simp;done)|omega));replace HW:=h! (ah.2.2 HW.out (by first|assumption|omega|(have:=HW.size;omega)|(simp;done)|(simp;omega)));replace B2:=h! (Box.to (A':=#[(.slice none 0 0),(.int .i64 0),(.int .i64 0),(.slice none 0 0)]) ((((B2.set 0 (.slice none 0 0)).set 1 (.int .i64 0)).set 2 (.int .i64 0)).set 3 (.slice none 0 0)) (by first|rfl|simp));clear ah;generalize ((((w1.setCell ⟨w.heap.size+1,0,none⟩ (.slice none 0 0)).setCell ⟨w.heap.size+1,1,none⟩ (.int .i64 0)).setCell ⟨w.heap.size+1,2,none⟩ (.int .i64 0)).setCell ⟨w.heap.size+1,3,none⟩ (.slice none 0 0))=wz at*;obtain⟨af,aa,ae⟩:=B1.out;obtain⟨ac,ag,ad⟩:=B2.out;refine bodyPost_ret (v:=.tuple #[.agg #[.slice none 0 0,.int .i64 0,.int .i64 0,.slice none 0 0],.int .i64 g]) (by simp[results,Tryz.results11,go_sem, *]) rfl ⟨aHK,g,_,Foot.none,am.out,rfl,OFunc.zero,fun _ h=>h.elim,HW.out⟩
 subst hg;have HZ:=h! HS.zero;go_wp2_with fail;refine(ao _ _ _ (HV.below HW.out) HZ.1 HZ.2).mono ?_;rintro e w2 ⟨O,v1,S1,hO,rfl,al,an,hb⟩;obtain⟨ax,cx,bx,dx,rfl,-,-,-,-⟩:=al.reads.form;have HR:Hid (RenP f (renF f O) 0):=h! ⟨0,HS.out,.inr ⟨rfl,rfl,O,hO,rfl⟩⟩;have HA:=h! (((kM al an).from (base':=w.heap.size+1+1) (by omega)).low (bs':=[w.heap.size,w.heap.size+1]) (by intro z hz;simp at hz;omega));clear hO al an;clear af aa ae ac ag ad;replace B1:=h! (B1.later hb);replace B2:=h! (B2.later hb);replace HW:=w! HW hb;clear hb;obtain⟨af,aa,ae⟩:=B1.out;obtain⟨ac,ag,ad⟩:=B2.out;go_wp2;clear af aa ae ac ag ad;have ah:=((((Only.set w2 (w.heap.size+1) 0 (.slice ax (renF f O).params.length cx)).put 1 (.int .i64 (renF f O).arrays)).put 2 (.int .i64 (renF f O).cells)).put 3 (.slice bx (renF f O).blocks.length dx));replace B1:=h! (B1.only ah (by first|assumption|(simp;done)|omega));replace HA:=h! ((((HA.other (p:=⟨w.heap.size+1,0,none⟩) (.slice ax (renF f O).params.length cx) (by simp)).other (p:=⟨w.heap.size+1,1,none⟩) (.int .i64 (renF f O).arrays) (by simp)).other (p:=⟨w.heap.size+1,2,none⟩) (.int .i64 (renF f O).cells) (by simp)).other (p:=⟨w.heap.size+1,3,none⟩) (.slice bx (renF f O).blocks.length dx) (by simp));replace HW:=h! (ah.2.2 HW.out (by first|assumption|omega|(have:=HW.size;omega)|(simp;done)|(simp;omega)));replace B2:=h! (Box.to (A':=#[(.slice ax (renF f O).params.length cx),(.int .i64 (renF f O).arrays),(.int .i64 (renF f O).cells),(.slice bx (renF f O).blocks.length dx)]) ((((B2.set 0 (.slice ax (renF f O).params.length cx)).set 1 (.int .i64 (renF f O).arrays)).set 2 (.int .i64 (renF f O).cells)).set 3 (.slice bx (renF f O).blocks.length dx)) (by first|rfl|simp));clear ah;generalize ((((w2.setCell ⟨w.heap.size+1,0,none⟩ (.slice ax (renF f O).params.length cx)).setCell ⟨w.heap.size+1,1,none⟩ (.int .i64 (renF f O).arrays)).setCell ⟨w.heap.size+1,2,none⟩ (.int .i64 (renF f O).cells)).setCell ⟨w.heap.size+1,3,none⟩ (.slice bx (renF f O).blocks.length dx))=wz at*;obtain⟨af,aa,ae⟩:=B1.out;obtain⟨ac,ag,ad⟩:=B2.out;refine bodyPost_ret (v:=.tuple #[.agg #[.slice ax (renF f O).params.length cx,.int .i64 (renF f O).arrays,.int .i64 (renF f O).cells,.slice bx (renF f O).blocks.length dx],.int .i64 0]) (by simp[results,Tryz.results11,go_sem, *]) rfl ⟨_,0,_,S1,HR.out,rfl,HA.now,fun k hk=>by have:=HA.base k hk;omega,HW.out⟩
theorem aGH{w:World}{mb:Nat}{T:List (Int×Int)}(hm:IMap w mb (encT T))(ty:TypeId):(Builtin.len_ #[93] ty #[.map (some mb)]).run Tryz.prog w=.ok (.int .i64 (T.length:Int)) w:=by obtain⟨es,c,hh,aa,-⟩:=hm.ex;have h1:=congrArg List.length aa;simp only[aZ,encT,Array.length_toList]at h1;rw[run_len_map (P:=Tryz.prog) (w:=w) (t:=93) (ty:=ty) (r:=mb) (es:=es) (clock:=c) (by kernel_rfl) hh,h1];rfl
theorem aAI:Enters Tryz.prog 74:=enters_of Tryz.func74 (by kernel_rfl) rfl
theorem sV:Enters Tryz.prog 73:=enters_of Tryz.func73 (by kernel_rfl) rfl
theorem aK6{w:World}{p mb:Nat}{T:List (Int×Int)}{v:Int}(hp:Box w p #[.map (some mb)])(hm:IMap w mb (encT T)):
  Calls Tryz.prog 74 #[.int .i64 v,.pointer (some ⟨p,0,none⟩)] w fun e w'=>e=.returned (.int .i64 ((tyOf T v).getD 0))/\Below w.heap.size w w':=by
 obtain⟨l1,c1,f1⟩:=hp;obtain⟨t,ht⟩:∃t,t=(tyOf T v).getD 0:=⟨_,rfl⟩;have hlk:(Instr.lookup 93 (.map (some mb)) (.int .i64 v) false).run Tryz.prog w=.ok (.int .i64 t) w:=by
  rw[hm.lookup0 Tryz.underlying93 Tryz.underlying3 (iQ _) v,nI,ht]
  cases tyOf T v<;>rfl
 rw[<-ht];clear ht hm;go_enter Tryz.func74,Tryz.ntmps74;go_wp2;go_ret;exact⟨rfl,Below.refl _ _⟩
theorem aIJ{w:World}{p mb:Nat}{T:List (Int×Int)}{v:Int}(hp:Box w p #[.map (some mb)])(hm:IMap w mb (encT T))(hn:tyOf T v=none)(hpm:p≠mb):
  Calls Tryz.prog 73 #[.int .i64 v,.pointer (some ⟨p,0,none⟩)] w fun e w'=>e=.returned (.int .i64 (T.length:Int))/\IMap w' mb (encT (T++[(v,(T.length:Int))]))/\Turn [mb] w w':=by
 have HP:=h! hp;obtain⟨l1,c1,f1⟩:=hp;have HM:=h! hm;have HN:=h! hn;have ag:=h! hpm;have ae:(Instr.lookup 93 (.map (some mb)) (.int .i64 v) true).run Tryz.prog w=.ok (.tuple #[.int .i64 0,.bool false]) w:=by rw[hm.lookup Tryz.underlying93 Tryz.underlying3 (iQ _) v,nI,hn];rfl
 have ab:=aGH hm;obtain⟨n,aa⟩:∃n:Nat,n=T.length:=⟨_,rfl⟩;rw[<-aa]at ab⊢;have HNN:=h! aa;clear hm hn hpm aa;go_enter Tryz.func73,Tryz.ntmps73;go_upto_region 4 with(at_mapUpdate;refine gC (q:=.i64) (b:=mb) rfl _ _ _ _ (.inl rfl) Tryz.underlying93 Tryz.underlying3 rfl HM.out rfl ?_;intro w2 h1 h2 h3);have af:=h! h3;have ac:Hid (IMap w2 mb (encT (T++[(v,(n:Int))]))):=h! (by rw[<-pO HN.out];exact h1);have ad:=h! (HP.turn h3 (by simpa using ag.out));have hlk2:(Instr.lookup 93 (.map (some mb)) (.int .i64 v) false).run Tryz.prog w2=.ok (.int .i64 (n:Int)) w2:=by rw[ac.lookup0 Tryz.underlying93 Tryz.underlying3 (iQ _) v,nI,nD,HN.out];simp[tyOf]
 clear h1 h2 h3 l1 c1 f1 ae ab;obtain⟨l1,c1,f1⟩:=ad.out;go_wp2;go_ret;exact⟨rfl,ac.out,af.out⟩
theorem iS.ident{W:World}{S:Foot}{v:Value}{ps:List PhiD}(h:iS W S v ps){j:Nat}{p:PhiD}(hj:ps[j]? =some p){g cap:Nat}(hv:v=.slice (some ⟨g,0,none⟩) ps.length cap){y:Int}(hy:In64 y):
  iS (W.setCell ⟨g,j*4,none⟩ (.int .i64 y)) S v (ps.set j { p with id:=y }):=by
 obtain⟨cs,G,F,hp⟩:=h;have ae:=(aD.1 hj).1;have hn:0<ps.length:=by omega
 have hG:G g:=by obtain⟨g',cap',ac,af,-⟩:=hp.row.addr hn;rw[hv]at ac;cases ac;exact af
 obtain⟨⟨a,b,Sf,Sv,ai,h1,h2,ah,i1,i2⟩,ag,q1,q2⟩:=hp.el j p hj;have aa:=Off.set W ⟨g,j*4+0,none⟩ (.int .i64 y);have ad:∀k,F j k->k≠g:=fun k hk e=>hp.free j ae k hk (by rw[e];exact hG);have ab:OPhi (W.setCell ⟨g,j*4+0,none⟩ (.int .i64 y)) (F j) (kI (cs.set (j*4+0) (.int .i64 y)) 4 j) { p with id:=y }:=by rw[gI (by omega),ai];exact⟨⟨a,b,Sf,Sv,rfl,h1.off aa (fun k hk e=>ad k (i1 k hk) e),h2.off aa (fun k hk e=>ad k (i2 k hk) e),ah,i1,i2⟩,fun k hk=>by simpa [World.setCell]using ag k hk,hy,q2⟩
 exact⟨_,G,_,hp.put OPhi.nice hj _ (Fj:=F j) (aa.mono fun k _ hk=>by cases hk;exact .inl hG) (hp.row.set hv (by omega) (j*4+0) _) (fun q hq hne=>jM hne (by omega)) ab (fun k hk=>.inl hk) S (fun k hk=>hk) (fun k hk=>hp.inF j k ae hk) (fun k hk=>by simpa [World.setCell]using hp.lt k hk)⟩
theorem kF.ident{W:World}{S:Foot}{v:Value}{ys:List InstrD}(h:kF W S v ys){j:Nat}{p:InstrD}(hj:ys[j]? =some p){g cap:Nat}(hv:v=.slice (some ⟨g,0,none⟩) ys.length cap){y:Int}(hy:In64 y):
  kF (W.setCell ⟨g,j*4+1,none⟩ (.int .i64 y)) S v (ys.set j { p with id:=y }):=by
 obtain⟨cs,G,F,hp⟩:=h;have ab:=(aD.1 hj).1;have hn:0<ys.length:=by omega
 have hG:G g:=by obtain⟨g',cap',ad,ae,-⟩:=hp.row.addr hn;rw[hv]at ad;cases ad;exact ae
 have hlt:∀k,F j k->k<W.heap.size:=fun k hk=>hp.lt k (hp.inF j k ab hk);obtain⟨⟨a,ag,h1⟩,q1,q2,q3⟩:=hp.el j p hj;have aa:=Off.set W ⟨g,j*4+1,none⟩ (.int .i64 y);have af:∀k,F j k->k≠g:=fun k hk e=>hp.free j ab k hk (by rw[e];exact hG);have ac:OInstr (W.setCell ⟨g,j*4+1,none⟩ (.int .i64 y)) (F j) (kI (cs.set (j*4+1) (.int .i64 y)) 4 j) { p with id:=y }:=by rw[gI (by omega),ag];exact⟨⟨a,rfl,h1.off aa (fun k hk e=>af k hk e)⟩,q1,hy,q3⟩
 exact⟨_,G,_,hp.put OInstr.nice hj _ (Fj:=F j) (aa.mono fun k _ hk=>by cases hk;exact .inl hG) (hp.row.set hv (by omega) (j*4+1) _) (fun q hq hne=>jM hne (by omega)) ac (fun k hk=>.inl hk) S (fun k hk=>hk) (fun k hk=>hp.inF j k ab hk) (fun k hk=>by simpa [World.setCell]using hp.lt k hk)⟩
theorem iS.both{W:World}{S:Foot}{v:Value}{ps:List PhiD}(h:iS W S v ps){j:Nat}{p:PhiD}(hj:ps[j]? =some p):
  ∃(g cap:Nat) (af av:Option Addr) (cf cv:Nat) (Sf Sv:Foot),v=.slice (some ⟨g,0,none⟩) ps.length cap/\g<W.heap.size/\S g/\PhiC W g (j*4) p af av cf cv/\(∀o,W.frozen? ⟨g,o,none⟩=false)/\
   fP W Sf (.slice af p.src.length cf) p.src/\fP W Sv (.slice av p.vals.length cv) p.vals/\Sf.off Sv/\(∀k,Sf k->S k)/\(∀k,Sv k->S k)/\¬Sf g/\¬Sv g/\
   (∀(W':World) (src vals:List Int),Off (Sf.or Sv) W W'->fP W' Sf (.slice af p.src.length cf) src->fP W' Sv (.slice av p.vals.length cv) vals->iS W' S v (ps.set j { p with src:=src,vals:=vals })):=by
 obtain⟨cs,G,F,hp⟩:=h;have ac:=(aD.1 hj).1;obtain⟨g,cap,hv,hG,-,-,ai,aa,ah⟩:=hp.row.addr (by omega);obtain⟨⟨a,b,Sf,Sv,ag,h1,h2,ad,i1,i2⟩,hFl,q1,q2⟩:=hp.el j p hj;obtain⟨af,cf,rfl⟩:=h1.ints.form;obtain⟨av,cv,rfl⟩:=h2.ints.form;have hc:∀o u,o<4->(kI cs 4 j)[o]? =some u->W.cell? ⟨g,j*4+o,none⟩=some u:=fun o u ho hu=>aa _ _ (by rw[<-kR ho];exact hu);rw[ag]at hc;have nG:∀k,F j k->¬G k:=hp.free j ac;have ab:∀k,F j k->S k:=fun k hk=>hp.inF j k ac hk;refine⟨g,cap,af,av,cf,cv,Sf,Sv,hv,ai,hp.inG g hG,⟨hc 0 _ (by omega) rfl,hc 1 _ (by omega) rfl,hc 2 _ (by omega) rfl,hc 3 _ (by omega) rfl,h1.ints,h2.ints,q1,q2⟩,ah,h1,h2,ad,fun k hk=>ab k (i1 k hk),fun k hk=>ab k (i2 k hk),fun hk=>nG g (i1 g hk) hG,fun hk=>nG g (i2 g hk) hG,fun W' src vals ho hs ha=> ?_⟩;have aj:Off (G.or (F j)) W W':=ho.mono fun k _ hk=>.inr (hk.elim (i1 k) (i2 k));have ae:∀k,S k->k<W'.heap.size:=fun k hk=>bD (hp.lt k hk) ho.size;refine⟨cs,G,_,hp.put OPhi.nice hj { p with src:=src,vals:=vals } (Fj:=F j) aj (hp.row.off ho fun k h1 h2=>nG k (h2.elim (i1 k) (i2 k)) h1) (fun _ _ _=>rfl) ?_ (fun k hk=>.inl hk) S (fun k hk=>hk) (fun k hk=>ab k hk) ae⟩;rw[ag];exact⟨⟨_,_,Sf,Sv,rfl,hs,ha,ad,i1,i2⟩,fun k hk=>ae k (ab k hk),q1,q2⟩
open Go.RowKit Go.Shelf
theorem aCY{w:World}{S:Foot}{v:Value}{xs:List Int}(h:fP w S v xs):Calls Tryz.prog 59 #[v] w fun e w'=>e=.returned (.tuple #[])/\fP w' S v (kH xs)/\Off S w w':=by
 obtain⟨⟨hl,hb,ad,hf⟩,ac⟩:=h;have ab:∀x∈kH xs,In64 x:=fun x hx=>ac x ((gM xs).mem_iff.1 hx);have ae:(kH xs).length=xs.length:=(gM xs).length_eq;rcases hf with⟨h0,a,rfl⟩|⟨g,af,cur,rfl,hg,hh,h1,h2,h3,h4⟩
 ·have hx:xs=[]:=cS h0;subst hx;have hs:kH []=[]:=cS (by rw[ae];rfl);refine(Any.slices_Sort_int_none qT a 0 w).mono ?_;rintro e w' ⟨rfl,rfl⟩;rw[hs];exact⟨rfl,⟨⟨hl,hb,ad,.inl ⟨rfl,a,rfl⟩⟩,ac⟩,Off.refl _ _⟩
 refine(Any.slices_Sort_int qT g 0 af xs w (Go.holds_of_blockI hh (by rw[eN]at h4;exact h4)) (aQ.1 hh).1 (by omega)).mono ?_;rintro e w' ⟨rfl,nd,os,hw⟩;have aa:Off S w w':=by rw[hw];exact Off.grown (Go.grownBy_sortedI _) (fun k hk=>by cases hk;exact hg)
 subst hw;refine⟨rfl,⟨?_,ab⟩,aa⟩;rw[ae];exact ORow.of_own (Go.ownsRow_sortedI (base:=0) (List.mergeSort_perm _ _).length_eq (aL _) hh h1 h2 h3) hb (fun k hk=>by cases hk;exact hg) (fun k hk=>bD (ad k hk) aa.size)
theorem OBlock.parts{W:World}{S:Foot}{cs:List Value}{x:BlockD}(h:OBlock W S cs x):
  ∃(ap ai at_:Option Addr) (cp ci ct:Nat) (S1 S2 S3:Foot),cs=[.slice ap x.phis.length cp,.slice ai x.code.length ci,.int .i64 x.term.op,.int .i64 x.term.val,.slice at_ x.term.to.length ct,.int .i64 x.term.n]/\
   iS W S1 (.slice ap x.phis.length cp) x.phis/\kF W S2 (.slice ai x.code.length ci) x.code/\fP W S3 (.slice at_ x.term.to.length ct) x.term.to/\S1.off S2/\S1.off S3/\S2.off S3/\(∀k,S1 k->S k)/\(∀k,S2 k->S k)/\(∀k,S3 k->S k)/\
   In64 x.term.op/\In64 x.term.val/\In64 x.term.n/\
   ∀(W':World) (ps:List PhiD) (ys:List InstrD) (to:List Int),iS W' S1 (.slice ap x.phis.length cp) ps->kF W' S2 (.slice ai x.code.length ci) ys->fP W' S3 (.slice at_ x.term.to.length ct) to->W.heap.size<=W'.heap.size->OBlock W' S cs ⟨ps,ys,{ x.term with to:=to }⟩:=by
 obtain⟨⟨pv,uv,t,S1,S2,S3,rfl,h1,h2,h3,ac,aa,ab,i1,i2,i3⟩,hl⟩:=h;obtain⟨⟨tv,rfl,ad⟩,q1,q2,q3⟩:=h3;obtain⟨ap,cp,rfl⟩:=(h1.reads (R0:=PhiR) fun _ _ _ h=>h.reads).form;obtain⟨ai,ci,rfl⟩:=(h2.reads (R0:=jD) fun _ _ _ h=>h.reads).form;obtain⟨at_,ct,rfl⟩:=ad.ints.form;refine⟨ap,ai,at_,cp,ci,ct,S1,S2,S3,rfl,h1,h2,ad,ac,aa,ab,i1,i2,i3,q1,q2,q3,fun W' ps ys to hp hc ht hs=> ?_⟩;exact⟨⟨_,_,_,S1,S2,S3,rfl,hp,hc,⟨⟨_,rfl,ht⟩,q1,q2,q3⟩,ac,aa,ab,i1,i2,i3⟩,fun k hk=>bD (hl k hk) hs⟩
def nM{α:Type}(ys xs:List α)(j:Nat):List α:=ys.take j++xs.drop j
theorem xA{α:Type}(ys xs:List α):nM ys xs 0=xs:=by simp[nM]
theorem oF{α:Type}{ys xs:List α}(h:ys.length=xs.length)(j:Nat):(nM ys xs j).length=xs.length:=by unfold nM;rw[aO,bB,dH];omega
theorem aAJ{α:Type}{ys xs:List α}(h:ys.length=xs.length):nM ys xs xs.length=ys:=by unfold nM;rw[List.drop_length,cV,aI (by omega)]
theorem aAK{α:Type}{ys xs:List α}(h:ys.length=xs.length){j:Nat}{y:α}(hj:ys[j]? =some y):(nM ys xs j).set j y=nM ys xs (j+1):=by
 have hl:=(aD.1 hj).1;apply bJ;intro q;unfold nM;rw[cT,dF,dF];simp only[aO,bB,dH,bF,bU];by_cases e:j=q
 ·subst e;rw[if_pos rfl,if_pos (by omega),if_pos (by omega),if_pos (by omega),hj]
 rw[if_neg e];by_cases h2:q<j
 ·rw[if_pos (by omega),if_pos h2,if_pos (by omega),if_pos (by omega)]
 rw[if_neg (by omega),if_neg (by omega)];congr 1;omega
theorem aGI{O:List Nat}{src:List Int}(hn:src.Nodup)(hm:∀q∈src,0<=q/\q.toNat∈O):(src.map (plO O)).Nodup:=by
 have aa:∀q∈src,∀r∈src,plO O q=plO O r->q=r:=fun q hq r hr e=>by
  have h1:=aX (hm q hq).2;have h2:=aX (hm r hr).2;unfold plO at e;have h3:O.idxOf q.toNat=O.idxOf r.toNat:=by omega
  have h4:O[O.idxOf q.toNat]=O[O.idxOf r.toNat]:=by simp only[h3]
  rw[cA,cA]at h4;have:=(hm q hq).1;have:=(hm r hr).1;omega
 rw[bX,dR];rw[bX]at hn;exact(List.Pairwise.and_mem.1 hn).imp fun⟨ha,hb,hne⟩ e=>hne (aa _ ha _ hb e)
theorem aGJ{O:List Nat}{n:Nat}{q:Int}(hm:q.toNat∈O)(hl:q.toNat<n):(jG n O O.length)[q.toNat]? =some (plO O q):=by unfold jG plO;rw[aM,dK hl,dB,cO,if_pos hm]
def oT(O:List Nat)(p:PhiD):List (Int×Int):=(p.src.map (plO O)).zip p.vals
theorem aAL{O:List Nat}{p:PhiD}(hn:p.src.Nodup)(hm:∀q∈p.src,0<=q/\q.toNat∈O){j:Nat}{q v:Int}(hq:p.src[j]? =some q)(hv:p.vals[j]? =some v):
  mput (encT ((oT O p).take j)) (plO O q) (.int .i64 v)=encT ((oT O p).take (j+1)):=by
 have hz:(oT O p)[j]? =some (plO O q,v):=by unfold oT;rw[cP];exact⟨by rw[aM,hq];rfl,hv⟩
 rw[fR _ _ _ hz];refine pO (iA.2 fun hmem=> ?_);obtain⟨⟨k,u⟩,h1,h2⟩:=aN.1 hmem;simp only at h2;obtain⟨i,hi⟩:=bP h1;rw[bF]at hi;split at hi
 ·rename_i hij;unfold oT at hi;rw[cP]at hi;have h3:(p.src.map (plO O))[j]? =some (plO O q):=by rw[aM,hq];rfl
  have h4:=hi.1;rw[h2]at h4;obtain⟨h5,h6⟩:=aD.1 h3;obtain⟨h7,h8⟩:=aD.1 h4;have:=(dP (aGI hn hm)).1 (h6.trans h8.symm);omega
 ·cases hi
theorem uU{T:List (Int×Int)}(h:∀p∈T,In64 p.2)(v:Int):In64 ((tyOf T v).getD 0):=by
 cases ht:tyOf T v with
 | none=>exact⟨by simp,by simp⟩
 | some t=>exact h _ (nJ ht)
theorem aAM{np:Nat}{ids:List Int}(h:np+ids.length<=1000000):∀p∈gH np ids,In64 p.2:=by
 intro p hp;unfold gH at hp;rw[aJ]at hp;rcases hp with hp|hp
 ·unfold parJ at hp;obtain⟨i,hi,rfl⟩:=aN.1 hp;rw[bQ]at hi;exact⟨by simp only;omega,by simp only;omega⟩
 unfold jC at hp;obtain⟨⟨u,i⟩,hi,rfl⟩:=aN.1 hp;rw[bA]at hi;have:=(aD.1 hi).1;simp only at this;exact⟨by simp only;omega,by simp only;omega⟩
theorem Turn.off{b:Nat}{w w':World}(h:Turn [b] w w'):Off (Foot.one b) w w':=⟨h.os,h.tape,h.output,h.size,fun k hk hn=>h.block k hk (by rw[cC];exact hn)⟩
def OldK(W W2:World):Prop:=∀k,k<W.heap.size->W2.heap[k]? =W.heap[k]?
theorem aCZ(W:World):Holds [] 0 W (fun k=>k<W.heap.size) (OldK W):=
 ⟨fun _ _=>rfl,fun W1 W2 h1 hk k hl=>(hk k hl).trans (h1 k hl),fun k hk=>hk,fun _ _=>aL _,fun _ _ hm=>by cases hm⟩
theorem OldK.cell{W W2:World}(h:OldK W W2){b o:Nat}(hb:b<W.heap.size):W2.cell? ⟨b,o,none⟩=W.cell? ⟨b,o,none⟩:=by have h1:=h b hb;unfold World.cell?;simp only[h1]
theorem xB{f:FuncD}{O:List Nat}(hc:fO f=0)(hO:fQ f O)(hall:∀d,d<f.blocks.length->Way (toB f) (-1) d):f.params.length+(idsO f O).length<=4112:=by
 have h1:=(qN hc hO hall).length_eq;have h2:=qL (fT hc).1;unfold fX at h2;rw[aO]at h2;rw[h1,aZ];have h3:(parT f.params).length=f.params.length:=by simp[parT]
 omega
theorem yQ{f:FuncD}{O:List Nat}{j b:Nat}(hj:O[j]? =some b):idsO f (O.take (j+1))=idsO f (O.take j)++iH (iK f b):=by unfold idsO;exact iO _ O j b hj
theorem aC0{f:FuncD}{O:List Nat}{j b:Nat}(hj:O[j]? =some b):∃post,idsO f O=idsO f (O.take j)++iH (iK f b)++post:=by refine⟨idsO f (O.drop (j+1)), ?_⟩;rw[<-yQ hj];unfold idsO;rw[<-List.flatMap_append,dJ]
def idP(g:Int->Int)(p:PhiD):PhiD:={ p with id:=g p.id }
def idX(g:Int->Int)(y:InstrD):InstrD:={ y with id:=if 0<=y.id then g y.id else y.id }
theorem aK7(g:Int->Int)(O:List Nat)(x:BlockD):idB g O x=⟨x.phis.map (idP g),x.code.map (idX g),{ x.term with to:=x.term.to.map (plO O) }⟩:=rfl
def gY(A:List PhiD):List Int:=A.map (·.id)
def gN(C:List InstrD):List Int:=(C.filter fun y=>decide (0<=y.id)).map (·.id)
theorem uV(x:BlockD):iH x=gY x.phis++gN x.code:=rfl
theorem aGK{np:Nat}{pre post B:List Int}{A:List PhiD}{k:Nat}{p:PhiD}(h:Named np (pre++(gY A++B)++post))(hp:A[k]? =some p):
  tyOf (gH np (pre++gY (A.take k))) p.id=none/\gH np (pre++gY (A.take (k+1)))=gH np (pre++gY (A.take k))++[(p.id,(((gH np (pre++gY (A.take k))).length:Nat):Int))]/\renV np (pre++(gY A++B)++post) p.id=(((gH np (pre++gY (A.take k))).length:Nat):Int):=by
 have hA:gY A=gY (A.take k)++p.id :: gY (A.drop (k+1)):=by
  unfold gY;conv=>lhs;rw[<-List.take_append_drop (k+1) A]
  rw[fR _ _ _ hp];simp
 have hs:gY (A.take (k+1))=gY (A.take k)++[p.id]:=by unfold gY;rw[fR _ _ _ hp];simp
 have hw:pre++(gY A++B)++post=(pre++gY (A.take k))++p.id :: (gY (A.drop (k+1))++B++post):=by rw[hA];simp
 rw[hw]at h⊢;rw[hs,<-List.append_assoc];exact sX h
theorem aC1{np:Nat}{pre post:List Int}{C:List InstrD}{k:Nat}{y:InstrD}(h:Named np (pre++gN C++post))(hy:C[k]? =some y)(h0:0<=y.id):
  tyOf (gH np (pre++gN (C.take k))) y.id=none/\gH np (pre++gN (C.take (k+1)))=gH np (pre++gN (C.take k))++[(y.id,(((gH np (pre++gN (C.take k))).length:Nat):Int))]/\renV np (pre++gN C++post) y.id=(((gH np (pre++gN (C.take k))).length:Nat):Int):=by
 have hC:gN C=gN (C.take k)++y.id :: gN (C.drop (k+1)):=by
  unfold gN;conv=>lhs;rw[<-List.take_append_drop (k+1) C]
  rw[fR _ _ _ hy];simp[eR,h0]
 have hs:gN (C.take (k+1))=gN (C.take k)++[y.id]:=by unfold gN;rw[fR _ _ _ hy];simp[eR,h0]
 have hw:pre++gN C++post=(pre++gN (C.take k))++y.id :: (gN (C.drop (k+1))++post):=by rw[hC];simp
 rw[hw]at h⊢;rw[hs,<-List.append_assoc];exact sX h
theorem aC2{C:List InstrD}{k:Nat}{y:InstrD}(hy:C[k]? =some y)(h0:¬0<=y.id):gN (C.take (k+1))=gN (C.take k):=by unfold gN;rw[fR _ _ _ hy];simp[eR,h0]
theorem aAN{α:Type}{g:α->α}{xs:List α}{i:Nat}{x:α}(h:xs[i]? =some x)(hx:g x=x):iU g xs (i+1)=iU g xs i:=by
 rw[<-jA h,hx];apply bJ;intro q;rw[cT];by_cases e:i=q
 ·subst e;rw[if_pos rfl,jI,h,if_pos (by rw[gA];exact(aD.1 h).1)]
 rw[if_neg e]
theorem aI0{f:FuncD}{O:List Nat}{g:Int->Int}(hf:gX f=true)(hO:∀d∈O,d<f.blocks.length)(hall:∀d,d<f.blocks.length->d∈O){x:BlockD}(hx:x∈O.map fun b=>mapB g (idB g O (iK f b))){p:PhiD}(hp:p∈x.phis):
  p.src.Nodup/\p.src.length=p.vals.length/\∀q∈p.src,0<=q/\q.toNat∈O/\q.toNat<f.blocks.length:=by
 obtain⟨b,hb,rfl⟩:=aN.1 hx;have aa:=hO b hb;rw[gK (aA aa)]at hp;unfold mapB idB at hp;simp only[bN,aN,Function.comp]at hp;obtain⟨p0,ab,rfl⟩:=hp;obtain⟨h1,h2,h3⟩:=rG hf (aA aa) ab;unfold mapP;refine⟨h1,by simpa using h2,fun q hq=> ?_⟩;have h4:=h3 q hq;exact⟨h4.1,hall _ (by omega),by omega⟩
theorem uW{f:FuncD}{O:List Nat}(hO:fQ f O)(hall:∀d,d<f.blocks.length->Way (toB f) (-1) d):∀d,d<f.blocks.length->d∈O:=fun d hd=>(hO.facts.2.1 d).2 (hall d hd)
theorem aAO{f:FuncD}{O:List Nat}(g:Int->Int):(O.map fun b=>mapB g (idB g O (iK f b))).map (xF O)=O.map fun b=>renB g O (iK f b):=by rw[bN];apply bT;intro b _;exact aDN g O _
theorem OldK.box{W W2:World}{b:Nat}{A:Array Value}(h:OldK W W2)(hb:Box W b A):Box W2 b A:=by
 have hh:=h b hb.lt;have hl:b<W2.heap.size:=by rw[bE hb.lt]at hh;exact(aQ.1 hh).1
 exact⟨hl,fun o=>(World.cell?_of_block (w:=W) (a:=⟨b,o,none⟩) hh).trans (hb.cell o),fun o=>(World.frozen?_of_block (w:=W) (a:=⟨b,o,none⟩) hh).trans (hb.free o)⟩
theorem OldK.off{W1 W W':World}{S:Foot}(h:OldK W1 W)(ho:Off S W W')(hs:∀k,S k->W1.heap.size<=k)(hz:W1.heap.size<=W.heap.size):OldK W1 W':=fun k hk=>(ho.block k (by omega) (fun hm=>by have:=hs k hm;omega)).trans (h k hk)
theorem Off.frozenA{S:Foot}{W W':World}(h:Off S W W'){p:Addr}(hl:p.block<W.heap.size)(hn:¬S p.block):W'.frozen? p=W.frozen? p:=World.frozen?_of_block (w:=W) (h.block p.block hl hn)
theorem Off.cellA{S:Foot}{W W':World}(h:Off S W W'){p:Addr}(hl:p.block<W.heap.size)(hn:¬S p.block):W'.cell? p=W.cell? p:=World.cell?_of_block (w:=W) (h.block p.block hl hn)
theorem aGL{O:List Nat}(h:O.Nodup){i b:Nat}(hi:O[i]? =some b):b∉O.take i:=by
 intro hm;obtain⟨j,hj⟩:=bP hm;rw[bF]at hj;split at hj
 ·obtain⟨h1,h2⟩:=aD.1 hi;obtain⟨h3,h4⟩:=aD.1 hj;have:=(dP h).1 (h4.trans h2.symm);omega
 cases hj
theorem IMap.off{W W':World}{b:Nat}{m:List (Int×Value)}{S:Foot}(h:IMap W b m)(ho:Off S W W')(hn:¬S b):IMap W' b m:=h.keep (ho.block b h.lt hn)
theorem aC3(j:Nat):mput (encT (parJ j)) (j:Int) (.int .i64 (j:Int))=encT (parJ (j+1)):=by rw[pO (iA.2 (fun h=>by have:=(pG (np:=j) (v:=(j:Int))).1 h;omega))];unfold parJ;rw[fK,bG];rfl
theorem aC4(np:Nat):gH np []=parJ np:=by unfold gH jC;simp
end Go.Proofs.YtagabiidbbhhmaaGreat
