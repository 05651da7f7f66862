/- Part 44. -/
import Derived.Test.YtagabiidbbhhmaaGreatET31
import Derived.Test.YtagabiidbbhhmaaGreatET42
namespace Go.Proofs.YtagabiidbbhhmaaGreat
set_option linter.all false
set_option maxRecDepth 100000
section
open Go.RowKit
def wS:BlockD:=⟨[],[],⟨0,0,[],0⟩⟩
def oE:List Value:=[.slice none 0 0,.slice none 0 0,.int .i64 0,.int .i64 0,.slice none 0 0,.int .i64 0]
theorem OBlock.zero{W:World}:OBlock W Foot.none oE wS:=
 ⟨⟨_,_,_,Foot.none,Foot.none,Foot.none,rfl,OSl.nil none,OSl.nil none,⟨⟨_,rfl,fP.nil none⟩,⟨by decide,by decide⟩,⟨by decide,by decide⟩,⟨by decide,by decide⟩⟩,fun _ h=>h.elim,fun _ h=>h.elim,fun _ h=>h.elim,fun _ h=>h,fun _ h=>h,fun _ h=>h⟩,fun _ h=>h.elim⟩
theorem aFS(n j:Nat)(hj:j<n):kI (madeCells oE.toArray (n*6)).toList 6 j=oE:=by
 unfold kI madeCells;apply bJ;intro k;rw[bF];by_cases hk:k<6
 ·rw[if_pos hk,bU];have h1:j*6+k<n*6:=by omega
  have h2:(j*6+k) % 6=k:=by omega
  simp only[Array.toList_map,Array.toList_range,aM,dK h1,dB];have hs:oE.toArray.size=6:=rfl;rw[hs,h2];rcases k with _|_|_|_|_|_|k;all_goals first|rfl|omega
 rw[if_neg hk,aS (by show 6<=k;omega)]
theorem wT{W:World}{base g n:Nat}(h:W.ownsRow base 63 6 (.slice (some ⟨g,0,none⟩) n n) n (madeCells oE.toArray (n*6)).toList)(hn:n<=17592186044416)(hg:g<W.heap.size):
  fZ W (Foot.one g) (.slice (some ⟨g,0,none⟩) n n) (List.replicate n wS):=by
 refine⟨_,Foot.one g,fun _=>Foot.none,ORow.of_own (by rw[aW];exact h) (by rw[aW];exact hn) (fun k hk=>by cases hk;rfl) (fun k hk=>by cases hk;exact hg),fun j x hj=> ?_,fun _ _ _ _ _ _ h=>h.elim,fun _ _ _ h=>h.elim,fun _ h=>h,fun _ _ _ h=>h.elim,fun k hk=>by cases hk;exact hg⟩;have aa:=(aD.1 hj).1;rw[aW]at aa;have hx:x=wS:=cY (aG hj);rw[hx,aFS n j aa];exact OBlock.zero
theorem pW{w:World}{ops:Array Oper}{rest:List Oper}{o:Oper}{a:Act}{Q:Exit->Act->World->Prop}(hg:o.guard=none)(l c:Operand)(hop:o.op=Op.makeSlice 23 l c)(n:Nat){L C:Int}
  (hl:a.eval l=.int .i64 L) (hc:a.eval c=.int .i64 C) (hL:L=n) (hC:C=n) (hn:n<=100000)
  (hK:∀w',fZ w' (Foot.one w.heap.size) (.slice (some ⟨w.heap.size,0,none⟩) n n) (List.replicate n wS)->Below w.heap.size w w'->wpList Tryz.prog ops Q rest (a.put o.dst (.slice (some ⟨w.heap.size,0,none⟩) n n)) w'):
  wpList Tryz.prog ops Q (o :: rest) a w:=by
 obtain⟨ht,⟨i,hi,hz,ab,aa⟩,hzc,hp⟩:=aD5;refine wpList_make_full w hg l c _ hop w.heap.size _ i _ 6 ht hi hz ab .i64 .i64 L C n hl hc hL hC (by rw[aa];omega) (by unfold maxLen;omega) (aC _) fun w' h1 h2=> ?_;have ac:w.heap.size<w'.heap.size:=by
  rcases h1.2 with⟨h,_⟩|⟨g,cap,cur,h,_,hh,_⟩
  ·cases h
  cases h;exact(aQ.1 hh).1
 exact hK w' (wT h1 (by omega) ac) ((Below.refl _ _).grown h2 (aC _) (by simp))
theorem set6{l:List Value}(h:l.length=6)(a b c d e f:Value):(((((l.set 0 a).set 1 b).set 2 c).set 3 d).set 4 e).set 5 f=[a,b,c,d,e,f]:=by
 match l,h with
 | [_,_,_,_,_,_],_=>rfl
def put6(W:World)(g o:Nat)(a b c d e f:Value):World:=(((((W.setCell ⟨g,o,none⟩ a).setCell ⟨g,o+1,none⟩ b).setCell ⟨g,o+2,none⟩ c).setCell ⟨g,o+3,none⟩ d).setCell ⟨g,o+4,none⟩ e).setCell ⟨g,o+5,none⟩ f
theorem uP(W:World)(g o:Nat)(a b c d e f:Value):Off (Foot.one g) W (put6 W g o a b c d e f):=
 (((((Off.set W ⟨g,o,none⟩ a).trans (Off.set _ ⟨g,o+1,none⟩ b)).trans (Off.set _ ⟨g,o+2,none⟩ c)).trans (Off.set _ ⟨g,o+3,none⟩ d)).trans (Off.set _ ⟨g,o+4,none⟩ e)).trans (Off.set _ ⟨g,o+5,none⟩ f)
theorem wU{W:World}{S:Foot}{v:Value}{xs:List BlockD}(h:fZ W S v xs){j:Nat}{y x:BlockD}(hj:xs[j]? =some y){g cap:Nat}(hv:v=.slice (some ⟨g,0,none⟩) xs.length cap)
  {a b c d e f:Value} {Fn:Foot} (hx:OBlock W Fn [a,b,c,d,e,f] x) (hF:Fn.off S):fZ (put6 W g (j*6) a b c d e f) (fun k=>S k\/Fn k) v (xs.set j x):=by
 obtain⟨cs,G,F,hp⟩:=h;have ad:=(aD.1 hj).1;have hn:0<xs.length:=by omega
 have hG:G g:=by obtain⟨g',cap',ab,ac,-⟩:=hp.row.addr hn;rw[hv]at ab;cases ab;exact ac
 have hsz:(put6 W g (j*6) a b c d e f).heap.size=W.heap.size:=by simp[put6,World.setCell]
 have aa:=(((((hp.row.set hv hn (j*6+0) a).set hv hn (j*6+1) b).set hv hn (j*6+2) c).set hv hn (j*6+3) d).set hv hn (j*6+4) e).set hv hn (j*6+5) f;refine⟨_,G,_,hp.put OBlock.nice hj x (Fj:=Fn) ?_ aa (fun i hi hne=> ?_) ?_ ?_ _ (fun k hk=>.inl hk) (fun k hk=>.inr hk) (fun k hk=> ?_)⟩
 ·exact(uP W g (j*6) a b c d e f).mono fun k _ hk=>.inl (by cases hk;exact hG)
 ·rw[jM hne (by omega),jM hne (by omega),jM hne (by omega),jM hne (by omega),jM hne (by omega),jM hne (by omega)]
 ·rw[gI (by omega),gI (by omega),gI (by omega),gI (by omega),gI (by omega),gI (by omega),set6 (aFJ hp.row.len ad)];exact OBlock.nice.off hx (uP W g (j*6) a b c d e f) fun k h1 h2=>hF k h1 (by cases h2;exact hp.inG _ hG)
 ·exact fun k hk=>.inr (hF k hk)
 ·simp only[World.setCell,Array.size_modify];exact hk.elim (hp.lt k) (hx.lt k)
theorem fZ.open{W:World}{S:Foot}{v:Value}{xs:List BlockD}(h:fZ W S v xs){j:Nat}{x:BlockD}(hj:xs[j]? =some x):
  ∃(g cap:Nat) (ap ai at_:Option Addr) (cp ci ct:Nat) (S1 S2 S3:Foot),v=.slice (some ⟨g,0,none⟩) xs.length cap/\g<W.heap.size/\S g/\BlockC W g (j*6) x ap ai at_ cp ci ct/\(∀o,W.frozen? ⟨g,o,none⟩=false)/\
   iS W S1 (.slice ap x.phis.length cp) x.phis/\kF W S2 (.slice ai x.code.length ci) x.code/\fP W S3 (.slice at_ x.term.to.length ct) x.term.to/\
   (∀k,S1 k->S k)/\(∀k,S2 k->S k)/\(∀k,S3 k->S k)/\S1.off S2/\S1.off S3/\S2.off S3/\(¬S1 g/\¬S2 g/\¬S3 g)/\
   (∀(W':World) (S1':Foot) (ps:List PhiD),Off S1 W W'->iS W' S1' (.slice ap x.phis.length cp) ps->(∀k,S1' k->S1 k\/W.heap.size<=k)->fZ W' (fun k=>S k\/S1' k) v (xs.set j { x with phis:=ps }))/\
   (∀(W':World) (S2':Foot) (ys:List InstrD),Off S2 W W'->kF W' S2' (.slice ai x.code.length ci) ys->(∀k,S2' k->S2 k\/W.heap.size<=k)->fZ W' (fun k=>S k\/S2' k) v (xs.set j { x with code:=ys }))/\
   (∀(W':World) (to:List Int),Off S3 W W'->fP W' S3 (.slice at_ x.term.to.length ct) to->fZ W' S v (xs.set j { x with term:={ x.term with to:=to } })):=by
 obtain⟨cs,G,F,hp⟩:=h;have al:=(aD.1 hj).1;have hn:0<xs.length:=by omega
 obtain⟨g,cap,hv,hG,-,-,ar,ag,ao⟩:=hp.row.addr hn;obtain⟨⟨pv,uv,t,S1,S2,S3,aj,h1,h2,h3,af,ad,ae,i1,i2,i3⟩,hFl⟩:=hp.el j x hj;obtain⟨⟨tv,rfl,ac⟩,q1,q2,q3⟩:=h3;obtain⟨ap,cp,rfl⟩:=(h1.reads (R0:=PhiR) fun _ _ _ h=>h.reads).form;obtain⟨ai,ci,rfl⟩:=(h2.reads (R0:=jD) fun _ _ _ h=>h.reads).form;obtain⟨at_,ct,rfl⟩:=ac.ints.form;have hc:∀o u,o<6->(kI cs 6 j)[o]? =some u->W.cell? ⟨g,j*6+o,none⟩=some u:=fun o u ho hu=>ag _ _ (by rw[<-kR ho];exact hu);rw[aj]at hc;have nG:∀k,F j k->¬G k:=hp.free j al;have ab:∀k,F j k->S k:=fun k hk=>hp.inF j k al hk;refine⟨g,cap,ap,ai,at_,cp,ci,ct,S1,S2,S3,hv,ar,hp.inG g hG,⟨hc 0 _ (by omega) rfl,hc 1 _ (by omega) rfl,hc 2 _ (by omega) rfl,hc 3 _ (by omega) rfl,hc 4 _ (by omega) rfl,hc 5 _ (by omega) rfl,h1.reads fun _ _ _ h=>h.reads,h2.reads fun _ _ _ h=>h.reads,ac.ints,q1,q2,q3⟩,ao,h1,h2,ac,
  fun k hk=>ab k (i1 k hk),fun k hk=>ab k (i2 k hk),fun k hk=>ab k (i3 k hk),af,ad,ae,⟨fun h=>nG g (i1 g h) hG,fun h=>nG g (i2 g h) hG,fun h=>nG g (i3 g h) hG⟩,fun W' S1' ps ho hps hS=> ?_,fun W' S2' ys ho hys hS=> ?_,fun W' to ho ht=> ?_⟩
 ·have ah:Off (G.or (F j)) W W':=ho.mono fun k _ hk=>.inr (i1 k hk);have aa:=hp.row.off ho (fun k h1 h2=>nG k (i1 k h2) h1);refine⟨cs,G,_,hp.put OBlock.nice hj { x with phis:=ps } (Fj:=fun k=>(S1' k\/S2 k)\/S3 k) ah aa (fun _ _ _=>rfl) ?_ (fun k hk=> ?_) _ (fun k hk=>.inl hk) (fun k hk=> ?_) (fun k hk=> ?_)⟩
  ·rw[aj];have ak:S1'.off S2:=fun k a b=>by
    rcases hS k a with c|c
    ·exact af k c b
    have:=h2.lt k b;omega
   have aq:S1'.off S3:=fun k a b=>by
    rcases hS k a with c|c
    ·exact ad k c b
    have:=ac.lt k b;omega
   have k2:=h2.off OInstr.nice ho af.symm;have k3:=ac.off ho ad.symm;exact⟨⟨_,_,_,S1',S2,S3,rfl,hps,k2,⟨⟨_,rfl,k3⟩,q1,q2,q3⟩,ak,aq,ae,fun k h=>.inl (.inl h),fun k h=>.inl (.inr h),fun k h=>.inr h⟩,fun k hk=>by
    rcases hk with(hk|hk)|hk
    ·exact hps.lt k hk
    ·exact k2.lt k hk
    exact k3.lt k hk⟩
  ·rcases hk with(hk|hk)|hk
   ·rcases hS k hk with c|c
    ·exact .inl (i1 k c)
    exact .inr fun hs=>by have:=hp.lt k hs;omega
   ·exact .inl (i2 k hk)
   exact .inl (i3 k hk)
  ·rcases hk with(hk|hk)|hk
   ·exact .inr hk
   ·exact .inl (ab k (i2 k hk))
   exact .inl (ab k (i3 k hk))
  rcases hk with hk|hk
  ·exact bD (hp.lt k hk) ho.size
  exact hps.lt k hk
 ·have ah:Off (G.or (F j)) W W':=ho.mono fun k _ hk=>.inr (i2 k hk);have aa:=hp.row.off ho (fun k h1 h2=>nG k (i2 k h2) h1);refine⟨cs,G,_,hp.put OBlock.nice hj { x with code:=ys } (Fj:=fun k=>(S1 k\/S2' k)\/S3 k) ah aa (fun _ _ _=>rfl) ?_ (fun k hk=> ?_) _ (fun k hk=>.inl hk) (fun k hk=> ?_) (fun k hk=> ?_)⟩
  ·rw[aj];have ak:S1.off S2':=fun k a b=>by
    rcases hS k b with c|c
    ·exact af k a c
    have:=h1.lt k a;omega
   have an:S2'.off S3:=fun k a b=>by
    rcases hS k a with c|c
    ·exact ae k c b
    have:=ac.lt k b;omega
   have k1:=h1.off OPhi.nice ho af;have k3:=ac.off ho ae.symm;exact⟨⟨_,_,_,S1,S2',S3,rfl,k1,hys,⟨⟨_,rfl,k3⟩,q1,q2,q3⟩,ak,ad,an,fun k h=>.inl (.inl h),fun k h=>.inl (.inr h),fun k h=>.inr h⟩,fun k hk=>by
    rcases hk with(hk|hk)|hk
    ·exact k1.lt k hk
    ·exact hys.lt k hk
    exact k3.lt k hk⟩
  ·rcases hk with(hk|hk)|hk
   ·exact .inl (i1 k hk)
   ·rcases hS k hk with c|c
    ·exact .inl (i2 k c)
    exact .inr fun hs=>by have:=hp.lt k hs;omega
   exact .inl (i3 k hk)
  ·rcases hk with(hk|hk)|hk
   ·exact .inl (ab k (i1 k hk))
   ·exact .inr hk
   exact .inl (ab k (i3 k hk))
  rcases hk with hk|hk
  ·exact bD (hp.lt k hk) ho.size
  exact hys.lt k hk
 ·have ah:Off (G.or (F j)) W W':=ho.mono fun k _ hk=>.inr (i3 k hk);have aa:=hp.row.off ho (fun k h1 h2=>nG k (i3 k h2) h1);have am:∀k,S k->k<W'.heap.size:=fun k hk=>bD (hp.lt k hk) ho.size;refine⟨cs,G,_,hp.put OBlock.nice hj { x with term:={ x.term with to:=to } } (Fj:=F j) ah aa (fun _ _ _=>rfl) ?_ (fun k hk=>.inl hk) _ (fun k hk=>hk) (fun k hk=>ab k hk) am⟩;rw[aj];exact⟨⟨_,_,_,S1,S2,S3,rfl,h1.off OPhi.nice ho ad,h2.off OInstr.nice ho ae,⟨⟨_,rfl,ht⟩,q1,q2,q3⟩,af,ad,ae,i1,i2,i3⟩,fun k hk=>am k (ab k hk)⟩
end
section
open Go.RowKit
theorem aHJ{α:Type}{xs:List α}{z x:α}{j:Nat}(hx:xs[j]? =some x):(xs.take j++List.replicate (xs.length - j) z)[j]? =some z/\(xs.take j++List.replicate (xs.length - j) z).set j x=xs.take (j+1)++List.replicate (xs.length - (j+1)) z:=by
 have hl:=(aD.1 hx).1;have ht:(xs.take j).length=j:=by rw[bB];omega
 obtain⟨m,hm⟩:∃m,xs.length - j=m+1:=⟨xs.length - j - 1,by omega⟩;have aa:xs.length - (j+1)=m:=by omega
 rw[hm,aa,List.replicate_succ];constructor
 ·rw[cU (by omega),ht,eG];rfl
 rw[List.set_append_right _ _ (by omega),ht,eG,aE,cX,hx,Option.toList_some,cD];rfl
def aNB(f:FuncD)(w:World)(e:Ending)(w':World):Prop:=∃v S,e=.returned v/\OFunc w' S v f/\nH w.heap.size S/\Below w.heap.size w w'
set_option maxHeartbeats 25600000 in
theorem aL9{w:World}{v:Value}{f:FuncD}(hv:gS w v f)(hsz:∀x∈f.blocks,x.phis.length<=100000/\x.code.length<=100000)(hnb:f.blocks.length<=100000):Calls Tryz.prog 48 #[v] w (aNB f w):=by
 have HV:=h! hv;obtain⟨ap,cp,ab,cb,rfl,hp,bh,bd,hB⟩:=hv.form;have cm:=h! (And.intro bh bd);obtain⟨a2,c2,bb,bo,cL,dg,hbm,dj,ch,ct⟩:=fW hB
 cases cL;obtain⟨np,bp⟩:∃np,np=f.params.length:=⟨_,rfl⟩;obtain⟨ar,cg⟩:∃ar,ar=f.arrays:=⟨_,rfl⟩;obtain⟨ce,bt⟩:∃ce,ce=f.cells:=⟨_,rfl⟩;obtain⟨nb,aw⟩:∃nb,nb=f.blocks.length:=⟨_,rfl⟩;rw[<-aw]at dg ch dj hnb;rw[<-aw,<-bp,<-cg,<-bt];rw[<-bp]at hp;have dd:=h! hp;have cM:=h! bp;have bw:=h! aw;have dm:=h! ch;have cG:=h! ct;have cr:Hid (ar=f.arrays/\ce=f.cells):=h! ⟨cg,bt⟩;have dh:=h! hsz;clear hp hB hv ct bp aw ch cg bt bh bd hsz HV;go_enter Tryz.func48,Tryz.ntmps48;go_upto_region 2 with(fail);have ae:=(Below.refl w.heap.size w).alloc (aC _) (.cells #[.slice ap np cp,.int .i64 ar,.int .i64 ce,.slice ab nb cb] 25);have HW:=h! ae;clear ae;have B1:=h! (Box.new w #[.slice ap np cp,.int .i64 ar,.int .i64 ce,.slice ab nb cb] 25);have ay:(w.alloc (.cells #[.slice ap np cp,.int .i64 ar,.int .i64 ce,.slice ab nb cb] 25)).heap.size=w.heap.size+1:=World.size_alloc _ _;generalize w.alloc (.cells #[.slice ap np cp,.int .i64 ar,.int .i64 ce,.slice ab nb cb] 25)=bk at*;have ae:=(Below.refl bk.heap.size bk).alloc (aC _) (.cells #[.slice none 0 0,.int .i64 0,.int .i64 0,.slice none 0 0] 25);replace B1:=h! (B1.later ae);replace HW:=w! HW ae;clear ae;have B2:=h! (Box.new bk #[.slice none 0 0,.int .i64 0,.int .i64 0,.slice none 0 0] 25);rw[ay]at B2;have ba:(bk.alloc (.cells #[.slice none 0 0,.int .i64 0,.int .i64 0,.slice none 0 0] 25)).heap.size=w.heap.size+1+1:=by rw[World.size_alloc,ay]
 clear ay;generalize bk.alloc (.cells #[.slice none 0 0,.int .i64 0,.int .i64 0,.slice none 0 0] 25)=bm at*;have ae:=(Below.refl bm.heap.size bm).alloc (aC _) (.cells #[.slice ap np cp,.int .i64 ar,.int .i64 ce,.slice ab nb cb] 25);replace B1:=h! (B1.later ae);replace B2:=h! (B2.later ae);replace HW:=w! HW ae;clear ae;have B3:=h! (Box.new bm #[.slice ap np cp,.int .i64 ar,.int .i64 ce,.slice ab nb cb] 25);rw[ba]at B3;clear ba;generalize bm.alloc (.cells #[.slice ap np cp,.int .i64 ar,.int .i64 ce,.slice ab nb cb] 25)=wv at*;obtain⟨ad,af,ak⟩:=B1.out;obtain⟨aa,ah,ag⟩:=B2.out;obtain⟨ac,aj,ai⟩:=B3.out;go_wp2_with fail;refine(tM (dd.below HW.out)).mono ?_;rintro e w2 ⟨pv2,SQ,rfl,hI,hF,hb⟩;obtain⟨am,al,rfl⟩:=hI.ints.form;rw[<-cM.out]at hI⊢;have HQ:Hid (Holds [w.heap.size,w.heap.size+1,w.heap.size+1+1] (w.heap.size+3) w2 SQ (fun W=>fP W SQ (.slice am np al) f.params)):=h! (((iW hI hF).from (by have:=B3.lt;omega)).low (by simp));clear hI hF;clear ad af ak aa ah ag ac aj ai;replace B1:=h! (B1.later hb);replace B2:=h! (B2.later hb);replace B3:=h! (B3.later hb);replace HW:=w! HW hb;clear hb;obtain⟨ad,af,ak⟩:=B1.out;obtain⟨aa,ah,ag⟩:=B2.out;obtain⟨ac,aj,ai⟩:=B3.out;go_upto_region 3 with(fail);clear ad af ak aa ah ag ac aj ai;have aq:=(Only.set w2 (w.heap.size+1+1) 0 (.slice am np al));replace B1:=h! (B1.only aq (by first|assumption|(simp;done)|omega));replace B2:=h! (B2.only aq (by first|assumption|(simp;done)|omega));replace HQ:=h! (HQ.other (p:=⟨w.heap.size+1+1,0,none⟩) (.slice am np al) (by simp));replace HW:=h! (aq.2.2 HW.out (by first|assumption|omega|(have:=HW.size;omega)|(simp;done)|(simp;omega)));replace B3:=h! (Box.to (A':=#[(.slice am np al),.int .i64 ar,.int .i64 ce,.slice ab nb cb]) (B3.set 0 (.slice am np al)) (by first|rfl|simp));clear aq;generalize (w2.setCell ⟨w.heap.size+1+1,0,none⟩ (.slice am np al))=w3 at*;obtain⟨ad,af,ak⟩:=B1.out;obtain⟨aa,ah,ag⟩:=B2.out;obtain⟨ac,aj,ai⟩:=B3.out;have co:w.heap.size+3<=w3.heap.size:=by omega
 have cw:=h! co;have bx:=h! HQ.lt;clear co;go_upto_region 4 with(at_make;refine pW rfl _ _ rfl nb rfl rfl rfl rfl hnb ?_;intro w4 hmk hgr;have hB3:=B3.later hgr;obtain⟨lx,cx,fx⟩:=hB3);clear lx cx fx;have bc:Hid (Holds [w.heap.size,w.heap.size+1,w.heap.size+1+1] (w.heap.size+3) w4 (Foot.one w3.heap.size) (fun W=>fZ W (Foot.one w3.heap.size) (.slice (some ⟨w3.heap.size,0,none⟩) nb nb) (List.replicate nb wS))):=h! ((pK OBlock.nice hmk (fun k hk=>by cases hk;exact cw)).low (by simp));clear hmk;clear ad af ak aa ah ag ac aj ai;replace B1:=h! (B1.later hgr);replace B2:=h! (B2.later hgr);replace B3:=h! (B3.later hgr);replace HQ:=h! (HQ.later hgr);replace HW:=w! HW hgr;clear hgr;obtain⟨ad,af,ak⟩:=B1.out;obtain⟨aa,ah,ag⟩:=B2.out;obtain⟨ac,aj,ai⟩:=B3.out;clear ad af ak aa ah ag ac aj ai;have aq:=(Only.set w4 (w.heap.size+1+1) 3 (.slice (some ⟨w3.heap.size,0,none⟩) nb nb));replace B1:=h! (B1.only aq (by first|assumption|(simp;done)|omega));replace B2:=h! (B2.only aq (by first|assumption|(simp;done)|omega));replace HQ:=h! (HQ.other (p:=⟨w.heap.size+1+1,3,none⟩) (.slice (some ⟨w3.heap.size,0,none⟩) nb nb) (by simp));replace bc:=h! (bc.other (p:=⟨w.heap.size+1+1,3,none⟩) (.slice (some ⟨w3.heap.size,0,none⟩) nb nb) (by simp));replace HW:=h! (aq.2.2 HW.out (by first|assumption|omega|(have:=HW.size;omega)|(simp;done)|(simp;omega)));replace B3:=h! (Box.to (A':=#[(.slice am np al),.int .i64 ar,.int .i64 ce,(.slice (some ⟨w3.heap.size,0,none⟩) nb nb)]) (B3.set 3 (.slice (some ⟨w3.heap.size,0,none⟩) nb nb)) (by first|rfl|simp));clear aq;generalize (w4.setCell ⟨w.heap.size+1+1,3,none⟩ (.slice (some ⟨w3.heap.size,0,none⟩) nb nb))=w5 at*;obtain⟨ad,af,ak⟩:=B1.out;obtain⟨aa,ah,ag⟩:=B2.out;obtain⟨ac,aj,ai⟩:=B3.out;obtain⟨gB,cj⟩:∃g,g=w3.heap.size:=⟨_,rfl⟩;rw[<-cj]at bc B3 cw bx;have cv:Hid (SQ.off (Foot.one gB)):=h! (fun k h1 h2=>by cases h2;have:=bx.out _ h1;omega);simp only[<-cj];clear cj bx;go_wp2_with fail;go_loopw [19] (fun i wr=>∃(j:Nat) (SB:Foot),j<=nb/\i=.int .i64 j/\Below w.heap.size w wr/\Box wr w.heap.size #[.slice ap np cp,.int .i64 ar,.int .i64 ce,.slice ab nb cb]/\Box wr (w.heap.size+1) #[.slice none 0 0,.int .i64 0,.int .i64 0,.slice none 0 0]/\Box wr (w.heap.size+1+1) #[.slice am np al,.int .i64 ar,.int .i64 ce,.slice (some ⟨gB,0,none⟩) nb nb]/\
   Holds [w.heap.size,w.heap.size+1,w.heap.size+1+1] (w.heap.size+3) wr SQ (fun W=>fP W SQ (.slice am np al) f.params)/\Holds [w.heap.size,w.heap.size+1,w.heap.size+1+1] (w.heap.size+3) wr SB (fun W=>fZ W SB (.slice (some ⟨gB,0,none⟩) nb nb) (f.blocks.take j++List.replicate (nb - j) wS))/\SQ.off SB) (fun i _=>nb - (intOf i).toNat)
 case atStart=>exact⟨0,Foot.one gB,Nat.zero_le _,rfl,HW.out,B1.out,B2.out,B3.out,HQ.out,by simpa using bc.out,cv.out⟩
 obtain⟨j,SB,hj,rfl,hW,h1,h2,h3,h4,h5,h6⟩:=hrel;clear ad af ak aa ah ag ac aj ai;replace HW:=h! hW;replace B1:=h! h1;replace B2:=h! h2;replace B3:=h! h3;replace HQ:=h! h4;have an:=h! h5;have bg:=h! h6;clear hW h1 h2 h3 h4 h5 h6 bc cv;generalize wr=w6 at*;obtain⟨ad,af,ak⟩:=B1.out;obtain⟨aa,ah,ag⟩:=B2.out;obtain⟨ac,aj,ai⟩:=B3.out;by_cases hlt:j<nb
 ·obtain⟨rfl,de⟩:=dm.out (by omega);obtain⟨x,bl⟩:∃x,f.blocks[j]? =some x:=⟨_,aA (by have:=bw.out;omega)⟩;obtain⟨cc,cf,ck,bs,bO,ci,hC⟩:=cG.out j x bl;have dk:=h! hC.blockV;obtain⟨k0,k1,k2,k3,k4,k5,-,-,-,-,-,-⟩:=hC.below HW.out de;have cF:=h! (dh x (aG bl));have bn:=h! (aHJ (z:=wS) bl);rw[<-bw.out]at bn;clear bl hC;have bz:Hid (∀k,SB k->k<w6.heap.size):=h! an.lt;have br:Hid (∀k,SQ k->k<w6.heap.size):=h! HQ.lt;have hl6:w.heap.size+3<=w6.heap.size:=by omega
  go_upto_region 7 with(fail);have be:w6.heap.size≠w.heap.size:=fun e=>by have:=ad;omega
  have nB1BL:w.heap.size≠w6.heap.size:=fun e=>be e.symm;have bf:w6.heap.size≠w.heap.size+1:=fun e=>by have:=aa;omega
  have nB2BL:w.heap.size+1≠w6.heap.size:=fun e=>bf e.symm;have bj:w6.heap.size≠w.heap.size+1+1:=fun e=>by have:=ac;omega
  have nB3BL:w.heap.size+1+1≠w6.heap.size:=fun e=>bj e.symm;clear ad af ak aa ah ag ac aj ai;have ae:=(Below.refl w6.heap.size w6).alloc (aC _) (.cells #[.slice cc x.phis.length bs,.slice cf x.code.length bO,.int .i64 x.term.op,.int .i64 x.term.val,.slice ck x.term.to.length ci,.int .i64 x.term.n] 63);replace B1:=h! (B1.later ae);replace B2:=h! (B2.later ae);replace B3:=h! (B3.later ae);replace HQ:=h! (HQ.later ae);replace an:=h! (an.later ae);replace HW:=w! HW ae;clear ae;have BL:=h! (Box.new w6 #[.slice cc x.phis.length bs,.slice cf x.code.length bO,.int .i64 x.term.op,.int .i64 x.term.val,.slice ck x.term.to.length ci,.int .i64 x.term.n] 63);generalize w6.alloc (.cells #[.slice cc x.phis.length bs,.slice cf x.code.length bO,.int .i64 x.term.op,.int .i64 x.term.val,.slice ck x.term.to.length ci,.int .i64 x.term.n] 63)=w7 at*;obtain⟨ad,af,ak⟩:=B1.out;obtain⟨aa,ah,ag⟩:=B2.out;obtain⟨ac,aj,ai⟩:=B3.out;obtain⟨ca,bq,cl⟩:=BL.out;clear k0 k1 k2 k3 k4 k5;have bv:Hid (w6.heap.size<=w7.heap.size):=h! (by have:=BL.lt;omega);refine Four.wp_region_grow (XF:=(fun _=>Foot.none)) (I:=(fun _=>True)) 5 (fun ν kz=>match kz with|4=>.holds (fun u w'=>∃(pv uv tv:Value) (S:Foot),u=.agg #[pv,uv,.int .i64 x.term.op,.int .i64 x.term.val,tv,.int .i64 x.term.n]/\Holds [] w7.heap.size w' S (fun W=>OBlock W S [pv,uv,.int .i64 x.term.op,.int .i64 x.term.val,tv,.int .i64 x.term.n] x))|_=>.plain) (by kernel_rfl) (by kernel_rfl) ?_ ?_ (fun _ _ h=>h.elim) (fun _ _ _ _=>trivial) trivial ?_ (fun ν=> ?_)
  ·(intro ν k;(try dsimp only);split<;>first|exact True.intro|(intro u w1 w2 hu hb;(obtain⟨pv,uv,tv,S,h1,h2⟩:=hu;exact⟨pv,uv,tv,S,h1,h2.off hb (fun _ _ ⟨_,_,h⟩=>h.elim)⟩)))
  ·(intro ν ν' k h;first|rfl|((try dsimp only);split<;>first|rfl))
  ·(intro ν j B mk A h;(try dsimp only at h);split at h<;>first|(cases h;exact Nat.le_refl _)|cases h)
  simp only[aP,aU,aR,aV];iterate 4 (refine Four.Grow.val (v:= ?_) rfl rfl (fun wg hbg hdg=> ?_) ?_;rotate_left;(focus((obtain⟨lg0,cg0,fg0⟩:=B1.off hbg.off (fun⟨_,h⟩=>h.elim));(obtain⟨lg1,cg1,fg1⟩:=B2.off hbg.off (fun⟨_,h⟩=>h.elim));(obtain⟨lg2,cg2,fg2⟩:=B3.off hbg.off (fun⟨_,h⟩=>h.elim));(obtain⟨lg3,cg3,fg3⟩:=BL.off hbg.off (fun⟨_,h⟩=>h.elim));clear hbg hdg;first|(go_simp;done)|(go_simp;with_reducible rfl)));simp only[Act.put,aB,aE,aF])
  refine Four.Grow.call (f:= ?_) (args:= ?_) rfl (fun wg=> ?_) (fun wg hbg hdg=> ?_) ?_;rotate_left 2;focus(first|(go_simp;done)|(go_simp;refine And.intro ?_ ?_<;>with_reducible rfl)|(go_simp;with_reducible rfl))
  focus(exact(aD0 (dk.below (HW.trans ((pre0 hbg).mono HW.size))) cF.1 cF.2).mono (fun e w2 ⟨pv,uv,tv,S,he,hO,hF,hw⟩=>⟨_,he,⟨pv,uv,tv,S,rfl,(oG OBlock.nice hO hF).from hbg.1.size⟩,hw⟩))
  simp only[Act.put,Known.val,aB,aE,aF];intro wg hb hf di;clear di;clear ad af ak aa ah ag ac aj ai ca bq cl;replace B1:=h! (B1.off hb.1 (fun⟨_,h⟩=>h.elim));replace B2:=h! (B2.off hb.1 (fun⟨_,h⟩=>h.elim));replace B3:=h! (B3.off hb.1 (fun⟨_,h⟩=>h.elim));replace BL:=h! (BL.off hb.1 (fun⟨_,h⟩=>h.elim));replace HQ:=h! (HQ.off hb.1 (fun _ _ ⟨_,h⟩=>h.elim));replace an:=h! (an.off hb.1 (fun _ _ ⟨_,h⟩=>h.elim));replace HW:=h! (HW.trans (hb.1.below HW.size (fun _ _ ⟨_,h⟩=>h.elim)));obtain⟨ad,af,ak⟩:=B1.out;obtain⟨aa,ah,ag⟩:=B2.out;obtain⟨ac,aj,ai⟩:=B3.out;obtain⟨ca,bq,cl⟩:=BL.out;simp only[bM,Nat.reduceAdd];have h4:∃(pv uv tv:Value) (S:Foot),ν 4=.agg #[pv,uv,.int .i64 x.term.op,.int .i64 x.term.val,tv,.int .i64 x.term.n]/\Holds [] w7.heap.size wg S (fun W=>OBlock W S [pv,uv,.int .i64 x.term.op,.int .i64 x.term.val,tv,.int .i64 x.term.n] x):=hf 4 (by omega);obtain⟨pv,uv,tv,SN,e4,k4⟩:=h4;obtain⟨⟨_,_,_,S1,S2,S3,e5,o1,o2,o3,-⟩,-⟩:=k4.now;obtain⟨⟨tv',e6,o4⟩,-⟩:=o3
  cases e5
  cases e6;obtain⟨pa,cq,rfl⟩:=(o1.reads (R0:=PhiR) fun _ _ _ h=>h.reads).form;obtain⟨ua,cy,rfl⟩:=(o2.reads (R0:=jD) fun _ _ _ h=>h.reads).form;obtain⟨cn,cB,rfl⟩:=o4.ints.form;simp only[e4];have K4:=h! k4;clear e4 k4 hf o1 o2 o4 hb;obtain⟨g,dl,z1,z2,z3,z4,z5,z6,T1,T2,T3,hv,df,cs,hC,db,-⟩:=an.now.open bn.1;obtain⟨rfl,rfl⟩:gB=g/\nb=dl:=by injection hv with h1 h2 h3;injection h1 with h1;injection h1 with h1;exact⟨h1,h3⟩
  obtain⟨c0,c1,c2,c3,c4,c5,-,-,-,-,-,-⟩:=hC;have bi:=h! cs;have da:Hid (SN.off SB):=h! (fun k h1 h2=>by have:=bz.out k h2;have:=K4.base k h1;have:=bv.out;omega);have dc:Hid (SQ.off SN):=h! (fun k h1 h2=>by have:=br.out k h1;have:=K4.base k h2;have:=bv.out;omega);have ax:=h! (wU an.now bn.1 hv K4.now da.out);have ao:=h! (uP wg gB (j*6) (.slice pa x.phis.length cq) (.slice ua x.code.length cy) (.int .i64 x.term.op) (.int .i64 x.term.val) (.slice cn x.term.to.length cB) (.int .i64 x.term.n));unfold put6 at ax ao;rw[bn.2]at ax;clear hv df cs;go_upto_region 8 with(fail);clear c0 c1 c2 c3 c4 c5 db;clear ad af ak aa ah ag ac aj ai ca bq cl;generalize ((((((wg.setCell ⟨gB,j*6,none⟩ (.slice pa x.phis.length cq)).setCell ⟨gB,j*6+1,none⟩ (.slice ua x.code.length cy)).setCell ⟨gB,j*6+2,none⟩ (.int .i64 x.term.op)).setCell ⟨gB,j*6+3,none⟩ (.int .i64 x.term.val)).setCell ⟨gB,j*6+4,none⟩ (.slice cn x.term.to.length cB)).setCell ⟨gB,j*6+5,none⟩ (.int .i64 x.term.n))=w8 at*;replace B1:=h! (B1.off ao.out (fun h=>an.free _ bi.out (by rw[<-h];simp)));replace B2:=h! (B2.off ao.out (fun h=>an.free _ bi.out (by rw[<-h];simp)));replace B3:=h! (B3.off ao.out (fun h=>an.free _ bi.out (by rw[<-h];simp)));replace HQ:=h! (HQ.off ao.out (fun k h1 h2=>bg k h1 (by cases h2;exact bi)));replace HW:=h! (HW.trans (ao.below HW.size (fun k _ hk=>by cases hk;have:=an.base _ bi.out;omega)));have cd:Hid (Holds [w.heap.size,w.heap.size+1,w.heap.size+1+1] (w.heap.size+3) w8 (fun k=>SB k\/SN k) (fun W=>fZ W (fun k=>SB k\/SN k) (.slice (some ⟨gB,0,none⟩) nb nb) (f.blocks.take (j+1)++List.replicate (nb - (j+1)) wS))):=
   h! ((pK OBlock.nice ax.out (fun k hk=>by rcases hk with hk|hk;exact an.base k hk;have:=K4.base k hk;have:=bv.out;omega)).low (by simp))
  replace bg:Hid (SQ.off (fun k=>SB k\/SN k)):=h! (fun k h1 h2=>by rcases h2 with h2|h2;exact bg k h1 h2;exact dc k h1 h2);clear an ax ao K4 BL;obtain⟨ad,af,ak⟩:=B1.out;obtain⟨aa,ah,ag⟩:=B2.out;obtain⟨ac,aj,ai⟩:=B3.out;go_wp2;go_roundw
  case rel=>exact⟨j+1,_,hlt,by go_num,HW.out,B1.out,B2.out,B3.out,HQ.out,cd.out,bg.out⟩
  simp[intOf];omega
 have cz:j=nb:=by omega
 have az:Hid (Holds [w.heap.size,w.heap.size+1,w.heap.size+1+1] (w.heap.size+3) w6 SB (fun W=>fZ W SB (.slice (some ⟨gB,0,none⟩) nb nb) f.blocks)):=h! (by have h9:=an.out;rw[cz,eG,aI (by have:=bw.out;omega)]at h9;simpa using h9);clear an cz;go_wp2;clear ad af ak aa ah ag ac aj ai;have aq:=((((Only.set w6 (w.heap.size+1) 0 (.slice am np al)).put 1 (.int .i64 ar)).put 2 (.int .i64 ce)).put 3 (.slice (some ⟨gB,0,none⟩) nb nb));replace B1:=h! (B1.only aq (by first|assumption|(simp;done)|omega));replace B3:=h! (B3.only aq (by first|assumption|(simp;done)|omega));replace HQ:=h! ((((HQ.other (p:=⟨w.heap.size+1,0,none⟩) (.slice am np al) (by simp)).other (p:=⟨w.heap.size+1,1,none⟩) (.int .i64 ar) (by simp)).other (p:=⟨w.heap.size+1,2,none⟩) (.int .i64 ce) (by simp)).other (p:=⟨w.heap.size+1,3,none⟩) (.slice (some ⟨gB,0,none⟩) nb nb) (by simp));replace az:=h! ((((az.other (p:=⟨w.heap.size+1,0,none⟩) (.slice am np al) (by simp)).other (p:=⟨w.heap.size+1,1,none⟩) (.int .i64 ar) (by simp)).other (p:=⟨w.heap.size+1,2,none⟩) (.int .i64 ce) (by simp)).other (p:=⟨w.heap.size+1,3,none⟩) (.slice (some ⟨gB,0,none⟩) nb nb) (by simp));replace HW:=h! (aq.2.2 HW.out (by first|assumption|omega|(have:=HW.size;omega)|(simp;done)|(simp;omega)));replace B2:=h! (Box.to (A':=#[(.slice am np al),(.int .i64 ar),(.int .i64 ce),(.slice (some ⟨gB,0,none⟩) nb nb)]) ((((B2.set 0 (.slice am np al)).set 1 (.int .i64 ar)).set 2 (.int .i64 ce)).set 3 (.slice (some ⟨gB,0,none⟩) nb nb)) (by first|rfl|simp));clear aq;generalize ((((w6.setCell ⟨w.heap.size+1,0,none⟩ (.slice am np al)).setCell ⟨w.heap.size+1,1,none⟩ (.int .i64 ar)).setCell ⟨w.heap.size+1,2,none⟩ (.int .i64 ce)).setCell ⟨w.heap.size+1,3,none⟩ (.slice (some ⟨gB,0,none⟩) nb nb))=w7 at*;obtain⟨ad,af,ak⟩:=B1.out;obtain⟨aa,ah,ag⟩:=B2.out;obtain⟨ac,aj,ai⟩:=B3.out;refine bodyPost_ret (v:=.agg #[.slice am np al,.int .i64 ar,.int .i64 ce,.slice (some ⟨gB,0,none⟩) nb nb]) (by simp[results,Tryz.results48,go_sem, *]) rfl ⟨_,fun q=>SQ q\/SB q,rfl,⟨⟨_,_,SQ,SB,by rw[cr.1,cr.2],HQ.now,az.now,bg.out,fun k h=>.inl h,fun k h=>.inr h⟩,fun k hk=>hk.elim (HQ.lt k) (az.lt k),cm.1,cm.2⟩,fun k hk=> ?_,HW.out⟩;rcases hk with hk|hk
 ·have:=HQ.base k hk;omega
 have:=az.base k hk;omega
theorem iS.open{W:World}{S:Foot}{v:Value}{ps:List PhiD}(h:iS W S v ps){j:Nat}{p:PhiD}(hj:ps[j]? =some p):
  ∃(g cap:Nat) (af av:Option Addr) (cf cv:Nat) (cs:List Value) (G Sf Sv:Foot),v=.slice (some ⟨g,0,none⟩) ps.length cap/\g<W.heap.size/\G g/\(∀k,G k->S k)/\PhiC W g (j*4) p af av cf cv/\(∀o,W.frozen? ⟨g,o,none⟩=false)/\cs[j*4+2]? =some (.slice af p.src.length cf)/\cs[j*4+3]? =some (.slice av p.vals.length cv)/\
   ORow W G 78 4 v ps.length cs/\fP W Sf (.slice af p.src.length cf) p.src/\fP W Sv (.slice av p.vals.length cv) p.vals/\(∀k,Sf k->S k)/\(∀k,Sv k->S k)/\Sf.off Sv/\Sf.off G/\Sv.off G/\
   (∀(W':World) (u2 u3:Value) (src vals:List Int) (Sf' Sv':Foot),Off (G.or (Sf.or Sv)) W W'->ORow W' G 78 4 v ps.length ((cs.set (j*4+2) u2).set (j*4+3) u3)->fP W' Sf' u2 src->fP W' Sv' u3 vals->Sf'.off Sv'->
    (∀k,Sf' k->Sf k\/W.heap.size<=k)->(∀k,Sv' k->Sv k\/W.heap.size<=k)->iS W' (fun k=>S k\/Sf' k\/Sv' k) v (ps.set j { p with src:=src,vals:=vals })):=by
 obtain⟨cs,G,F,hp⟩:=h;have ac:=(aD.1 hj).1;have hn:0<ps.length:=by omega
 obtain⟨g,cap,hv,hG,-,-,ai,ab,ag⟩:=hp.row.addr hn;obtain⟨⟨a,b,Sf,Sv,ae,h1,h2,ah,i1,i2⟩,hFl,q1,q2⟩:=hp.el j p hj;obtain⟨af,cf,rfl⟩:=h1.ints.form;obtain⟨av,cv,rfl⟩:=h2.ints.form;have hc:∀o u,o<4->(kI cs 4 j)[o]? =some u->W.cell? ⟨g,j*4+o,none⟩=some u:=fun o u ho hu=>ab _ _ (by rw[<-kR ho];exact hu);have aa:=ae;rw[ae]at hc;have nG:∀k,F j k->¬G k:=hp.free j ac;have ad:∀k,F j k->S k:=fun k hk=>hp.inF j k ac hk;refine⟨g,cap,af,av,cf,cv,cs,G,Sf,Sv,hv,ai,hG,hp.inG,⟨hc 0 _ (by omega) rfl,hc 1 _ (by omega) rfl,hc 2 _ (by omega) rfl,hc 3 _ (by omega) rfl,h1.ints,h2.ints,q1,q2⟩,ag,by rw[<-kR (by omega),aa];rfl,by rw[<-kR (by omega),aa];rfl,hp.row,h1,h2,
  fun k hk=>ad k (i1 k hk),fun k hk=>ad k (i2 k hk),ah,fun k a b=>nG k (i1 k a) b,fun k a b=>nG k (i2 k a) b,fun W' u2 u3 src vals Sf' Sv' ho hrow ha hb hab hf' hv'=> ?_⟩
 have aj:Off (G.or (F j)) W W':=ho.mono fun k _ hk=>by
  rcases hk with hk|hk|hk
  ·exact .inl hk
  ·exact .inr (i1 k hk)
  exact .inr (i2 k hk)
 refine⟨_,G,_,hp.put OPhi.nice hj { p with src:=src,vals:=vals } (Fj:=fun k=>Sf' k\/Sv' k) aj hrow (fun i hi hne=> ?_) ?_ (fun k hk=> ?_) _ (fun k hk=>.inl hk) (fun k hk=>.inr hk) (fun k hk=> ?_)⟩
 ·rw[jM hne (by omega),jM hne (by omega)]
 ·rw[gI (by omega),gI (by omega),aa];exact⟨⟨u2,u3,Sf',Sv',rfl,ha,hb,hab,fun k h=>.inl h,fun k h=>.inr h⟩,fun k hk=>hk.elim (ha.lt k) (hb.lt k),q1,q2⟩
 ·rcases hk with hk|hk
  ·rcases hf' k hk with c|c
   ·exact .inl (i1 k c)
   exact .inr fun hs=>by have:=hp.lt k hs;omega
  rcases hv' k hk with c|c
  ·exact .inl (i2 k c)
  exact .inr fun hs=>by have:=hp.lt k hs;omega
 ·rcases hk with hk|hk|hk
  ·exact bD (hp.lt k hk) ho.size
  ·exact ha.lt k hk
  exact hb.lt k hk
theorem fP.addr{W:World}{S:Foot}{v:Value}{xs:List Int}(h:fP W S v xs){i:Nat}{x:Int}(hi:xs[i]? =some x):
  ∃g cap,v=.slice (some ⟨g,0,none⟩) xs.length cap/\S g/\g<W.heap.size/\W.cell? ⟨g,i,none⟩=some (.int .i64 x)/\(∀o,W.frozen? ⟨g,o,none⟩=false)/\∀y,In64 y->fP (W.setCell ⟨g,i,none⟩ (.int .i64 y)) S v (xs.set i y):=by
 have ab:=(aD.1 hi).1;obtain⟨g,cap,hv,hG,-,-,ad,aa,ac⟩:=h.1.addr (by omega);exact⟨g,cap,hv,hG,ad,aa i _ (by rw[aM,hi];rfl),ac,fun y hy=>h.set hv ab hy⟩
def aHK:FuncD:=⟨[],0,0,[]⟩
theorem getD_some{α:Type}{l:List α}{i:Nat}{x d:α}(h:l[i]? =some x):l.getD i d=x:=by rw[aH,h];rfl
theorem tK{α:Type}{l:List α}{i:Nat}{x:α}(g:α->α)(h:l[i]? =some x):l.modify i g=l.set i (g x):=by
 apply bJ;intro j;rw[List.getElem?_modify,cT];by_cases e:i=j
 ·subst e;have:=(aD.1 h).1;rw[h,if_pos rfl,if_pos this];simp
 simp[e]
theorem Off.grow{S S':Foot}{A B C:World}(h:Off S A B)(k:Off S' B C)(hs:∀q,S' q->S q\/A.heap.size<=q):Off S A C:=
 ⟨k.os.trans h.os,k.tape.trans h.tape,k.output.trans h.output,aT h.size k.size,fun i hi hn=>(k.block i (bD hi h.size) fun hm=>(hs i hm).elim hn (fun h=>by omega)).trans (h.block i hi hn)⟩
theorem OFunc.zero{W:World}:OFunc W Foot.none (.agg #[.slice none 0 0,.int .i64 0,.int .i64 0,.slice none 0 0]) aHK:=
 ⟨⟨_,_,Foot.none,Foot.none,rfl,fP.nil none,OSl.nil none,fun _ h=>h.elim,fun _ h=>h.elim,fun _ h=>h.elim⟩,fun _ h=>h.elim,⟨by decide,by decide⟩,⟨by decide,by decide⟩⟩
theorem fP.narrow{W:World}{S:Foot}{xs:List Int}{g cap n:Nat}(h:fP W S (.slice (some ⟨g,0,none⟩) n cap) xs)(hn:0<xs.length):fP W (Foot.one g) (.slice (some ⟨g,0,none⟩) n cap) xs/\S g:=by
 obtain⟨⟨h1,h2,h3,h4⟩,h5⟩:=h;rcases h4 with⟨h4,_⟩|⟨g',cap',aa,hv,hg,r⟩
 ·omega
 cases hv;exact⟨⟨⟨h1,h2,fun k hk=>by cases hk;exact h3 g hg,.inr ⟨g,cap,aa,rfl,rfl,r⟩⟩,h5⟩,hg⟩
theorem aBK{w:World}{o:Oper}{a:Act}(s x:Operand)
  (ho:o.op=.call { callee:=.builtin .append,args:=#[s,x],argTypes:=#[22,22] }) {v:Value} {B:Nat} {y:Int} (hs:a.eval s=v) (hx:a.eval x=.slice (some ⟨B,0,none⟩) 1 1) {S:Foot} {xs:List Int} {n:Nat} (hn:xs.length=n)
  (H:fP w S v xs) (hB:Box w B #[.int .i64 y]) (hy:In64 y) (hlen:n+1<=100000) {XF:Nat->Foot} {i:Nat} (hX:∀k,S k->XF i k):
  ∃u w'',(execOp a.eval o).run Tryz.prog w=.ok (.value u) w''/\(∃g cap,u=.slice (some ⟨g,0,none⟩) (n+1) cap/\fP w'' (Foot.one g) u (xs++[y])/\(S g\/w.heap.size<=g))/\Four.Step XF (fun _=>True) i w w'':=by
 obtain⟨v',w',G',aa,r1,r2,r3,-⟩:=wC (P:=Tryz.prog) s x 22 3 ho oW hs hx H.1 (uE (n:=1) (size:=1) (ds:=[.int .i64 y]) hB rfl (by omega)) (by intro u hu;simp at hu;subst hu;rfl) (by omega) (by omega);have hO:fP w' G' v' (xs++[y]):=by
  refine⟨?_,fun z hz=> ?_⟩
  ·rw[aO,bG];exact r1
  rcases aJ.1 hz with h|h
  ·exact H.2 z h
  simp at h;subst h;exact hy
 obtain⟨g,cap,rfl,hg,-⟩:=hO.1.addr (by simp);have hl:(xs++[y]).length=n+1:=by simp[hn]
 rw[hl]at hO aa;obtain⟨k1,k2⟩:=hO.narrow (by omega);exact⟨_,w',aa,⟨g,cap,rfl,k1,r2 g k2⟩,r3.mono fun k _ hk=>hX k hk,fun h=>h⟩
theorem xU{w:World}{o:Oper}{a:Act}(s x:Operand)
  (ho:o.op=.call { callee:=.builtin .append,args:=#[s,x],argTypes:=#[22,22] }) {v:Value} {B:Nat} {y:Int} (hs:a.eval s=v) (hx:a.eval x=.slice (some ⟨B,0,none⟩) 1 1) {S:Foot} {xs:List Int} {n:Nat} (hn:xs.length=n)
  (H:fP w S v xs) (hB:Box w B #[.int .i64 y]) (hy:In64 y) (hlen:n+1<=100000) {XF:Nat->Foot} {i:Nat} (hX:∀k,S k->XF i k) {Z:Value->World->Prop}
  (hZ:∀g cap w'',fP w'' (Foot.one g) (.slice (some ⟨g,0,none⟩) (n+1) cap) (xs++[y])->(S g\/w.heap.size<=g)->Z (.slice (some ⟨g,0,none⟩) (n+1) cap) w''):
  ∃u w'',(execOp a.eval o).run Tryz.prog w=.ok (.value u) w''/\Z u w''/\Four.Step XF (fun _=>True) i w w'':=by
 obtain⟨u,w'',h1,⟨g,c,e,h2,h3⟩,h4⟩:=aBK (XF:=XF) (i:=i) s x ho hs hx hn H hB hy hlen hX;subst e;exact⟨_,w'',h1,hZ g c w'' h2 h3,h4⟩
theorem Off.cell{S:Foot}{W W':World}(h:Off S W W'){b o:Nat}(hl:b<W.heap.size)(hn:¬S b):W'.cell? ⟨b,o,none⟩=W.cell? ⟨b,o,none⟩:=World.cell?_of_block (w:=W) (a:=⟨b,o,none⟩) (h.block b hl hn)
theorem aHL{xs:List Int}{x:Int}(h:x∈xs):idxI xs x=(xs.idxOf x:Nat):=if_pos h
theorem rZ{f:FuncD}(hc:fO f=0):(∀x∈f.blocks,x.phis.length<=100000/\x.code.length<=100000)/\f.blocks.length<=100000:=by
 have hf:=(fT hc).1;have hs:=(kY hf).size;have hn:=(jH hf).2;refine⟨fun x hx=> ?_,by omega⟩;have h1:iB x<=mE f:=by
  unfold mE;have:∀(l:List BlockD),x∈l->iB x<=(l.map iB).sum/\0<=(l.map iB).sum:=by
   intro l;induction l with
   | nil=>intro h;cases h
   | cons y l ih=>
    intro h
    have hy:0<=iB y:=by unfold iB;omega
    have aa:∀(l:List BlockD),0<=(l.map iB).sum:=by
     intro l;induction l with
     | nil=>simp
     | cons z l ih=>have:0<=iB z:=(by unfold iB;omega);simp only[cI,fJ];omega
    have:=aa l
    simp only[cI,fJ]
    rcases bZ.1 h with rfl|h
    ·omega
    have:=(ih h).1;omega
  exact(this _ hx).1
 unfold iB at h1;omega
theorem xV{α:Type}{R:World->Foot->List Value->α->Prop}(hR:Nice R){P:Program}{w:World}{o:Oper}{a:Act}(s x:Operand)(t e:TypeId)
  (ho:o.op=.call { callee:=.builtin .append,args:=#[s,x],argTypes:=#[t,t] }) {z:Value} {size bytes:Nat} (he:Elem P t e z size bytes)
  {v:Value} {B:Nat} {ds:List Value} (hs:a.eval s=v) (hx:a.eval x=.slice (some ⟨B,0,none⟩) 1 1) {bs:List Nat} {base:Nat} {S Fn:Foot} {xs:List α} {y:α} {n:Nat} (hn:xs.length=n)
  (H:Holds bs base w S (fun W=>OSl R e size W S v xs)) (hB:Box w B ds.toArray) (hds:ds.length=size) (hel:R w Fn ds y) (hF:Fn.off S) (hFb:nH base Fn) (hbs:∀b∈bs,b<base) (hbase:base<=w.heap.size)
  (h1:∀u∈ds,u.oneCell'=true) (hlen:n+1<=17592186044416) (hbytes:(n+1)*bytes<=140737488355328) {XF:Nat->Foot} {i lim:Nat} (hFl:∀k,Fn k->lim<=k) (hl:lim<=w.heap.size) (hX:∀k,S k->XF i k):
  ∃u w'',(execOp a.eval o).run P w=.ok (.value u) w''/\(∃S',Holds bs base w'' S' (fun W=>OSl R e size W S' u (xs++[y]))/\(∀k,S' k->S k\/lim<=k)/\∃g cap,u=.slice (some ⟨g,0,none⟩) (n+1) cap)/\Four.Step XF (fun _=>True) i w w'':=by
 obtain⟨v',w',S',q0,q1,q2,q3,q4⟩:=aBB hR s x t e ho he hs hx hn H hB hds hel hF hFb hbs hbase h1 hlen hbytes;refine⟨v',w',q0,⟨S',q1,fun k hk=> ?_,q4⟩,q3.mono fun k _ hk=>hX k hk,fun h=>h⟩;rcases q2 k hk with h|h|h
 ·exact .inl h
 ·exact .inr (hFl k h)
 ·exact .inr (by omega)
theorem OBlock.one{W:World}{S:Foot}{cs:List Value}{b:BlockD}(h:OBlock W S cs b):∀u∈cs,u.oneCell'=true:=by obtain⟨⟨v,u,t,S1,S2,S3,rfl,h1,h2,⟨⟨tv,rfl,h3⟩,-⟩,-⟩,-⟩:=h;obtain⟨a1,c1,rfl⟩:=(h1.reads (R0:=PhiR) fun _ _ _ h=>h.reads).form;obtain⟨a2,c2,rfl⟩:=(h2.reads (R0:=jD) fun _ _ _ h=>h.reads).form;obtain⟨a3,c3,rfl⟩:=h3.ints.form;simp[Value.oneCell']
end
end Go.Proofs.YtagabiidbbhhmaaGreat
