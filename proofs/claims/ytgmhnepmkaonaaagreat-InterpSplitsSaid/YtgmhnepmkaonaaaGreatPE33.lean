/- Part 33. -/
import Derived.Test.YtgmhnepmkaonaaaGreatPE32
import Derived.Test.YtgmhnepmkaonaaaGreatPE6
namespace Go.Proofs.YtgmhnepmkaonaaaGreat
set_option linter.all false
open Go.RowKit
def tE:BlockD:=⟨[],[],⟨0,0,[],0⟩⟩
def lT:List Value:=[.slice none 0 0,.slice none 0 0,.int .i64 0,.int .i64 0,.slice none 0 0,.int .i64 0]
theorem OBlock.zero {W:World}:OBlock W Foot.none lT tE :=
 ⟨⟨_,_,_,Foot.none,Foot.none,Foot.none,rfl,OSl.nil none,OSl.nil none,⟨⟨_,rfl,eV.nil none⟩,⟨by decide,by decide⟩,⟨by decide,by decide⟩,⟨by decide,by decide⟩⟩,fun _ h=>h.elim,fun _ h=>h.elim,fun _ h=>h.elim,fun _ h=>h,fun _ h=>h,fun _ h=>h⟩,fun _ h=>h.elim⟩
theorem aCI (n j:Nat) (hj:j < n):j3 (madeCells lT.toArray (n * 6)).toList 6 j=lT:=by
 unfold j3 madeCells
 apply bJ
 intro k
 rw [bD]
 by_cases hk:k < 6
 ·rw [if_pos hk,bM]
  have h1:j * 6+k < n * 6:=by omega
  have h2:(j * 6+k) % 6=k:=by omega
  simp only [Array.toList_map,Array.toList_range,aN,eQ h1,cG]
  have hs:lT.toArray.size=6:=rfl
  rw [hs,h2]
  rcases k with _ | _ | _ | _ | _ | _ | k
  all_goals first | rfl | omega
 rw [if_neg hk,aX (by show 6 <= k;omega)]
theorem tF {W:World} {base g n:Nat} (h:W.ownsRow base 75 6 (.slice (some ⟨g,0,none⟩) n n) n (madeCells lT.toArray (n * 6)).toList) (hn:n <= 17592186044416) (hg:g < W.heap.size) :
  gS W (Foot.one g) (.slice (some ⟨g,0,none⟩) n n) (List.replicate n tE):=by
 refine ⟨_,Foot.one g,fun _=>Foot.none,ORow.of_own (by rw [aS];exact h) (by rw [aS];exact hn) (fun k hk=>by cases hk;rfl) (fun k hk=>by cases hk;exact hg),fun j x hj => ?_,fun _ _ _ _ _ _ h=>h.elim,fun _ _ _ h=>h.elim,fun _ h=>h,fun _ _ _ h=>h.elim,fun k hk=>by cases hk;exact hg⟩
 have hjl:=(aD.1 hj).1
 rw [aS] at hjl
 have hx:x=tE:=cE (aG hj)
 rw [hx,aCI n j hjl]
 exact OBlock.zero
theorem nF {w:World} {ops:Array Oper} {rest:List Oper} {o:Oper} {a:Act} {Q:Exit -> Act -> World -> Prop} (hg:o.guard=none) (l c:Operand) (hop:o.op=Op.makeSlice 23 l c) (n:Nat) {L C:Int}
  (hl:a.eval l = .int .i64 L) (hc:a.eval c = .int .i64 C) (hL:L=n) (hC:C=n) (hn:n <= 100000)
  (hK:∀ w',gS w' (Foot.one w.heap.size) (.slice (some ⟨w.heap.size,0,none⟩) n n) (List.replicate n tE) -> Below w.heap.size w w' -> wpList Tryz.prog ops Q rest (a.put o.dst (.slice (some ⟨w.heap.size,0,none⟩) n n)) w') :
  wpList Tryz.prog ops Q (o :: rest) a w:=by
 obtain ⟨ht,⟨i,hi,hz,hsz,hby⟩,hzc,hp⟩:=aB9
 refine wpList_make_full w hg l c _ hop w.heap.size _ i _ 6 ht hi hz hsz .i64 .i64 L C n hl hc hL hC (by rw [hby];omega) (by unfold maxLen;omega) (aB _) fun w' h1 h2 => ?_
 have hlt:w.heap.size < w'.heap.size:=by
  rcases h1.2 with ⟨h,_⟩ | ⟨g,cap,cur,h,_,hh,_⟩
  ·cases h
  cases h;exact (aL.1 hh).1
 exact hK w' (tF h1 (by omega) hlt) ((Below.refl _ _).grown h2 (aB _) (by simp))
theorem set6 {l:List Value} (h:l.length=6) (a b c d e f:Value):(((((l.set 0 a).set 1 b).set 2 c).set 3 d).set 4 e).set 5 f=[a,b,c,d,e,f]:=by
 match l,h with
 | [_,_,_,_,_,_],_=>rfl
def put6 (W:World) (g o:Nat) (a b c d e f:Value):World:=(((((W.setCell ⟨g,o,none⟩ a).setCell ⟨g,o+1,none⟩ b).setCell ⟨g,o+2,none⟩ c).setCell ⟨g,o+3,none⟩ d).setCell ⟨g,o+4,none⟩ e).setCell ⟨g,o+5,none⟩ f
theorem rO (W:World) (g o:Nat) (a b c d e f:Value):Off (Foot.one g) W (put6 W g o a b c d e f) :=
 (((((Off.set W ⟨g,o,none⟩ a).trans (Off.set _ ⟨g,o+1,none⟩ b)).trans (Off.set _ ⟨g,o+2,none⟩ c)).trans (Off.set _ ⟨g,o+3,none⟩ d)).trans (Off.set _ ⟨g,o+4,none⟩ e)).trans (Off.set _ ⟨g,o+5,none⟩ f)
theorem tG {W:World} {S:Foot} {v:Value} {xs:List BlockD} (h:gS W S v xs) {j:Nat} {y x:BlockD} (hj:xs[j]? = some y) {g cap:Nat} (hv:v = .slice (some ⟨g,0,none⟩) xs.length cap)
  {a b c d e f:Value} {Fn:Foot} (hx:OBlock W Fn [a,b,c,d,e,f] x) (hF:Fn.off S):gS (put6 W g (j * 6) a b c d e f) (fun k=>S k \/ Fn k) v (xs.set j x):=by
 obtain ⟨cs,G,F,hp⟩:=h
 have hjl:=(aD.1 hj).1
 have hn:0 < xs.length:=by omega
 have hG:G g:=by
  obtain ⟨g',cap',hv',hg', -⟩:=hp.row.addr hn
  rw [hv] at hv';cases hv';exact hg'
 have hsz:(put6 W g (j * 6) a b c d e f).heap.size=W.heap.size:=by simp [put6,World.setCell]
 have hrow:=(((((hp.row.set hv hn (j * 6+0) a).set hv hn (j * 6+1) b).set hv hn (j * 6+2) c).set hv hn (j * 6+3) d).set hv hn (j * 6+4) e).set hv hn (j * 6+5) f
 refine ⟨_,G,_,hp.put OBlock.nice hj x (Fj:=Fn) ?_ hrow (fun i hi hne => ?_) ?_ ?_ _ (fun k hk=>.inl hk) (fun k hk=>.inr hk) (fun k hk => ?_)⟩
 ·exact (rO W g (j * 6) a b c d e f).mono fun k _ hk=>.inl (by cases hk;exact hG)
 ·rw [jQ hne (by omega),jQ hne (by omega),jQ hne (by omega),jQ hne (by omega),jQ hne (by omega),jQ hne (by omega)]
 ·rw [f8 (by omega),f8 (by omega),f8 (by omega),f8 (by omega),f8 (by omega),f8 (by omega),set6 (aCP hp.row.len hjl)]
  exact OBlock.nice.off hx (rO W g (j * 6) a b c d e f) fun k h1 h2=>hF k h1 (by cases h2;exact hp.inG _ hG)
 ·exact fun k hk=>.inr (hF k hk)
 ·simp only [World.setCell,Array.size_modify]
  exact hk.elim (hp.lt k) (hx.lt k)
theorem gS.open {W:World} {S:Foot} {v:Value} {xs:List BlockD} (h:gS W S v xs) {j:Nat} {x:BlockD} (hj:xs[j]? = some x) :
  ∃ (g cap:Nat) (ap ai at_:Option Addr) (cp ci ct:Nat) (S1 S2 S3:Foot),v = .slice (some ⟨g,0,none⟩) xs.length cap/\g < W.heap.size/\S g/\BlockC W g (j * 6) x ap ai at_ cp ci ct/\(∀ o,W.frozen? ⟨g,o,none⟩=false) /\
   nM W S1 (.slice ap x.phis.length cp) x.phis/\aCQ W S2 (.slice ai x.code.length ci) x.code/\eV W S3 (.slice at_ x.term.to.length ct) x.term.to /\
   (∀ k,S1 k -> S k)/\(∀ k,S2 k -> S k)/\(∀ k,S3 k -> S k)/\S1.off S2/\S1.off S3/\S2.off S3/\(¬ S1 g /\ ¬ S2 g /\ ¬ S3 g) /\
   (∀ (W' : World) (S1' : Foot) (ps:List PhiD),Off S1 W W' -> nM W' S1' (.slice ap x.phis.length cp) ps -> (∀ k,S1' k -> S1 k \/ W.heap.size <= k) -> gS W' (fun k=>S k \/ S1' k) v (xs.set j { x with phis:=ps })) /\
   (∀ (W' : World) (S2' : Foot) (ys:List InstrD),Off S2 W W' -> aCQ W' S2' (.slice ai x.code.length ci) ys -> (∀ k,S2' k -> S2 k \/ W.heap.size <= k) -> gS W' (fun k=>S k \/ S2' k) v (xs.set j { x with code:=ys })) /\
   (∀ (W' : World) (to:List Int),Off S3 W W' -> eV W' S3 (.slice at_ x.term.to.length ct) to -> gS W' S v (xs.set j { x with term := { x.term with to:=to } })):=by
 obtain ⟨cs,G,F,hp⟩:=h
 have hjl:=(aD.1 hj).1
 have hn:0 < xs.length:=by omega
 obtain ⟨g,cap,hv,hG, -, -,hgl,hcell,hfr⟩:=hp.row.addr hn
 obtain ⟨⟨pv,uv,t,S1,S2,S3,hch,h1,h2,h3,h12,h13,h23,i1,i2,i3⟩,hFl⟩:=hp.el j x hj
 obtain ⟨⟨tv,rfl,hto⟩,q1,q2,q3⟩:=h3
 obtain ⟨ap,cp,rfl⟩:=(h1.reads (R0:=PhiR) fun _ _ _ h=>h.reads).form
 obtain ⟨ai,ci,rfl⟩:=(h2.reads (R0:=jH) fun _ _ _ h=>h.reads).form
 obtain ⟨at_,ct,rfl⟩:=hto.ints.form
 have hc:∀ o u,o < 6 -> (j3 cs 6 j)[o]? = some u -> W.cell? ⟨g,j * 6+o,none⟩=some u:=fun o u ho hu=>hcell _ _ (by rw [<-l6 ho];exact hu)
 rw [hch] at hc
 have nG:∀ k,F j k -> ¬ G k:=hp.free j hjl
 have inS:∀ k,F j k -> S k:=fun k hk=>hp.inF j k hjl hk
 refine ⟨g,cap,ap,ai,at_,cp,ci,ct,S1,S2,S3,hv,hgl,hp.inG g hG,⟨hc 0 _ (by omega) rfl,hc 1 _ (by omega) rfl,hc 2 _ (by omega) rfl,hc 3 _ (by omega) rfl,hc 4 _ (by omega) rfl,hc 5 _ (by omega) rfl,h1.reads fun _ _ _ h=>h.reads,h2.reads fun _ _ _ h=>h.reads,hto.ints,q1,q2,q3⟩,hfr,h1,h2,hto,
  fun k hk=>inS k (i1 k hk),fun k hk=>inS k (i2 k hk),fun k hk=>inS k (i3 k hk),h12,h13,h23,⟨fun h=>nG g (i1 g h) hG,fun h=>nG g (i2 g h) hG,fun h=>nG g (i3 g h) hG⟩,fun W' S1' ps ho hps hS => ?_,fun W' S2' ys ho hys hS => ?_,fun W' to ho ht => ?_⟩
 ·have ho2:Off (G.or (F j)) W W':=ho.mono fun k _ hk=>.inr (i1 k hk)
  have hrow:=hp.row.off ho (fun k h1 h2=>nG k (i1 k h2) h1)
  refine ⟨cs,G,_,hp.put OBlock.nice hj { x with phis:=ps } (Fj:=fun k=>(S1' k \/ S2 k) \/ S3 k) ho2 hrow (fun _ _ _=>rfl) ?_ (fun k hk => ?_) _ (fun k hk=>.inl hk) (fun k hk => ?_) (fun k hk => ?_)⟩
  ·rw [hch]
   have a12:S1'.off S2:=fun k a b=>by
    rcases hS k a with c | c
    ·exact h12 k c b
    have:=h2.lt k b;omega
   have a13:S1'.off S3:=fun k a b=>by
    rcases hS k a with c | c
    ·exact h13 k c b
    have:=hto.lt k b;omega
   have k2:=h2.off OInstr.nice ho h12.symm
   have k3:=hto.off ho h13.symm
   exact ⟨⟨_,_,_,S1',S2,S3,rfl,hps,k2,⟨⟨_,rfl,k3⟩,q1,q2,q3⟩,a12,a13,h23,fun k h=>.inl (.inl h),fun k h=>.inl (.inr h),fun k h=>.inr h⟩,fun k hk=>by
    rcases hk with (hk | hk) | hk
    ·exact hps.lt k hk
    ·exact k2.lt k hk
    exact k3.lt k hk⟩
  ·rcases hk with (hk | hk) | hk
   ·rcases hS k hk with c | c
    ·exact .inl (i1 k c)
    exact .inr fun hs=>by have:=hp.lt k hs;omega
   ·exact .inl (i2 k hk)
   exact .inl (i3 k hk)
  ·rcases hk with (hk | hk) | hk
   ·exact .inr hk
   ·exact .inl (inS k (i2 k hk))
   exact .inl (inS k (i3 k hk))
  rcases hk with hk | hk
  ·exact bH (hp.lt k hk) ho.size
  exact hps.lt k hk
 ·have ho2:Off (G.or (F j)) W W':=ho.mono fun k _ hk=>.inr (i2 k hk)
  have hrow:=hp.row.off ho (fun k h1 h2=>nG k (i2 k h2) h1)
  refine ⟨cs,G,_,hp.put OBlock.nice hj { x with code:=ys } (Fj:=fun k=>(S1 k \/ S2' k) \/ S3 k) ho2 hrow (fun _ _ _=>rfl) ?_ (fun k hk => ?_) _ (fun k hk=>.inl hk) (fun k hk => ?_) (fun k hk => ?_)⟩
  ·rw [hch]
   have a12:S1.off S2':=fun k a b=>by
    rcases hS k b with c | c
    ·exact h12 k a c
    have:=h1.lt k a;omega
   have a23:S2'.off S3:=fun k a b=>by
    rcases hS k a with c | c
    ·exact h23 k c b
    have:=hto.lt k b;omega
   have k1:=h1.off OPhi.nice ho h12
   have k3:=hto.off ho h23.symm
   exact ⟨⟨_,_,_,S1,S2',S3,rfl,k1,hys,⟨⟨_,rfl,k3⟩,q1,q2,q3⟩,a12,h13,a23,fun k h=>.inl (.inl h),fun k h=>.inl (.inr h),fun k h=>.inr h⟩,fun k hk=>by
    rcases hk with (hk | hk) | hk
    ·exact k1.lt k hk
    ·exact hys.lt k hk
    exact k3.lt k hk⟩
  ·rcases hk with (hk | hk) | hk
   ·exact .inl (i1 k hk)
   ·rcases hS k hk with c | c
    ·exact .inl (i2 k c)
    exact .inr fun hs=>by have:=hp.lt k hs;omega
   exact .inl (i3 k hk)
  ·rcases hk with (hk | hk) | hk
   ·exact .inl (inS k (i1 k hk))
   ·exact .inr hk
   exact .inl (inS k (i3 k hk))
  rcases hk with hk | hk
  ·exact bH (hp.lt k hk) ho.size
  exact hys.lt k hk
 ·have ho2:Off (G.or (F j)) W W':=ho.mono fun k _ hk=>.inr (i3 k hk)
  have hrow:=hp.row.off ho (fun k h1 h2=>nG k (i3 k h2) h1)
  have hlt:∀ k,S k -> k < W'.heap.size:=fun k hk=>bH (hp.lt k hk) ho.size
  refine ⟨cs,G,_,hp.put OBlock.nice hj { x with term := { x.term with to:=to } } (Fj:=F j) ho2 hrow (fun _ _ _=>rfl) ?_ (fun k hk=>.inl hk) _ (fun k hk=>hk) (fun k hk=>inS k hk) hlt⟩
  rw [hch]
  exact ⟨⟨_,_,_,S1,S2,S3,rfl,h1.off OPhi.nice ho h13,h2.off OInstr.nice ho h23,⟨⟨_,rfl,ht⟩,q1,q2,q3⟩,h12,h13,h23,i1,i2,i3⟩,fun k hk=>hlt k (inS k hk)⟩
theorem nM.open {W:World} {S:Foot} {v:Value} {ps:List PhiD} (h:nM W S v ps) {j:Nat} {p:PhiD} (hj:ps[j]? = some p) :
  ∃ (g cap:Nat) (af av:Option Addr) (cf cv:Nat) (cs:List Value) (G Sf Sv:Foot),v = .slice (some ⟨g,0,none⟩) ps.length cap/\g < W.heap.size/\G g/\(∀ k,G k -> S k)/\PhiC W g (j * 4) p af av cf cv/\(∀ o,W.frozen? ⟨g,o,none⟩=false)/\cs[j * 4+2]? = some (.slice af p.src.length cf)/\cs[j * 4+3]? = some (.slice av p.vals.length cv) /\
   ORow W G 83 4 v ps.length cs/\eV W Sf (.slice af p.src.length cf) p.src/\eV W Sv (.slice av p.vals.length cv) p.vals/\(∀ k,Sf k -> S k)/\(∀ k,Sv k -> S k)/\Sf.off Sv/\Sf.off G/\Sv.off G /\
   (∀ (W' : World) (u2 u3:Value) (src vals:List Int) (Sf' Sv' : Foot),Off (G.or (Sf.or Sv)) W W' -> ORow W' G 83 4 v ps.length ((cs.set (j * 4+2) u2).set (j * 4+3) u3) -> eV W' Sf' u2 src -> eV W' Sv' u3 vals -> Sf'.off Sv' ->
    (∀ k,Sf' k -> Sf k \/ W.heap.size <= k) -> (∀ k,Sv' k -> Sv k \/ W.heap.size <= k) -> nM W' (fun k=>S k \/ Sf' k \/ Sv' k) v (ps.set j { p with src:=src,vals:=vals })):=by
 obtain ⟨cs,G,F,hp⟩:=h
 have hjl:=(aD.1 hj).1
 have hn:0 < ps.length:=by omega
 obtain ⟨g,cap,hv,hG, -, -,hgl,hcell,hfr⟩:=hp.row.addr hn
 obtain ⟨⟨a,b,Sf,Sv,hch,h1,h2,h12,i1,i2⟩,hFl,q1,q2⟩:=hp.el j p hj
 obtain ⟨af,cf,rfl⟩:=h1.ints.form
 obtain ⟨av,cv,rfl⟩:=h2.ints.form
 have hc:∀ o u,o < 4 -> (j3 cs 4 j)[o]? = some u -> W.cell? ⟨g,j * 4+o,none⟩=some u:=fun o u ho hu=>hcell _ _ (by rw [<-l6 ho];exact hu)
 have hch2:=hch
 rw [hch] at hc
 have nG:∀ k,F j k -> ¬ G k:=hp.free j hjl
 have inS:∀ k,F j k -> S k:=fun k hk=>hp.inF j k hjl hk
 refine ⟨g,cap,af,av,cf,cv,cs,G,Sf,Sv,hv,hgl,hG,hp.inG,⟨hc 0 _ (by omega) rfl,hc 1 _ (by omega) rfl,hc 2 _ (by omega) rfl,hc 3 _ (by omega) rfl,h1.ints,h2.ints,q1,q2⟩,hfr,by rw [<-l6 (by omega),hch2];rfl,by rw [<-l6 (by omega),hch2];rfl,hp.row,h1,h2,
  fun k hk=>inS k (i1 k hk),fun k hk=>inS k (i2 k hk),h12,fun k a b=>nG k (i1 k a) b,fun k a b=>nG k (i2 k a) b,fun W' u2 u3 src vals Sf' Sv' ho hrow ha hb hab hf' hv' => ?_⟩
 have ho2:Off (G.or (F j)) W W':=ho.mono fun k _ hk=>by
  rcases hk with hk | hk | hk
  ·exact .inl hk
  ·exact .inr (i1 k hk)
  exact .inr (i2 k hk)
 refine ⟨_,G,_,hp.put OPhi.nice hj { p with src:=src,vals:=vals } (Fj:=fun k=>Sf' k \/ Sv' k) ho2 hrow (fun i hi hne => ?_) ?_ (fun k hk => ?_) _ (fun k hk=>.inl hk) (fun k hk=>.inr hk) (fun k hk => ?_)⟩
 ·rw [jQ hne (by omega),jQ hne (by omega)]
 ·rw [f8 (by omega),f8 (by omega),hch2]
  exact ⟨⟨u2,u3,Sf',Sv',rfl,ha,hb,hab,fun k h=>.inl h,fun k h=>.inr h⟩,fun k hk=>hk.elim (ha.lt k) (hb.lt k),q1,q2⟩
 ·rcases hk with hk | hk
  ·rcases hf' k hk with c | c
   ·exact .inl (i1 k c)
   exact .inr fun hs=>by have:=hp.lt k hs;omega
  rcases hv' k hk with c | c
  ·exact .inl (i2 k c)
  exact .inr fun hs=>by have:=hp.lt k hs;omega
 ·rcases hk with hk | hk | hk
  ·exact bH (hp.lt k hk) ho.size
  ·exact ha.lt k hk
  exact hb.lt k hk
theorem eV.addr {W:World} {S:Foot} {v:Value} {xs:List Int} (h:eV W S v xs) {i:Nat} {x:Int} (hi:xs[i]? = some x) :
  ∃ g cap,v = .slice (some ⟨g,0,none⟩) xs.length cap/\S g/\g < W.heap.size/\W.cell? ⟨g,i,none⟩=some (.int .i64 x)/\(∀ o,W.frozen? ⟨g,o,none⟩=false) /\ ∀ y,In64 y -> eV (W.setCell ⟨g,i,none⟩ (.int .i64 y)) S v (xs.set i y):=by
 have hil:=(aD.1 hi).1
 obtain ⟨g,cap,hv,hG, -, -,hgl,hcell,hfr⟩:=h.1.addr (by omega)
 exact ⟨g,cap,hv,hG,hgl,hcell i _ (by rw [aN,hi];rfl),hfr,fun y hy=>h.set hv hil hy⟩
def fD (b n:Int) (still:Bool) (p:PhiD):PhiD :=
 if b ∈ p.src then
  if still then { p with src:=p.src ++ [n],vals:=p.vals ++ [p.vals.getD (p.src.idxOf b) 0] } else { p with src:=p.src.set (p.src.idxOf b) n }
 else p
def fR (k:Nat) (n:Int) (x:BlockD):BlockD := { x with term := { x.term with to:=x.term.to.set k n } }
def jE (b n:Int) (still:Bool) (y:BlockD):BlockD := { y with phis:=y.phis.map (fD b n still) }
def nH (t:Int):BlockD:=⟨[],[],⟨1, -1,[t],0⟩⟩
def eZ (f:FuncD) (b k t:Nat) (still:Bool):FuncD :=
 { f with blocks:=(f.blocks.modify b (fR k f.blocks.length)).modify t (jE b f.blocks.length still) ++ [nH t] }
theorem l5 {α β : Type} (φ : α -> β) (g : α -> α) (h:∀ y, φ (g y) = φ y) (l:List α) (i:Nat):(l.modify i g).map φ = l.map φ := by
 apply bJ
 intro j
 rw [aN,aN,dQ]
 cases l[j]? with
 | none=>rfl
 | some a=>by_cases e:i=j <;> simp [e,h]
theorem iJ (f:FuncD) (b k t:Nat) (still:Bool) (i:Nat):(eZ f b k t still).blocks[i]? =
  if i < f.blocks.length then (f.blocks[i]?).map (fun y=>if i=t then jE b f.blocks.length still (if i=b then fR k f.blocks.length y else y) else if i=b then fR k f.blocks.length y else y)
  else if i=f.blocks.length then some (nH t) else none:=by
 unfold eZ
 simp only
 rw [dA]
 simp only [List.length_modify]
 by_cases h:i < f.blocks.length
 ·rw [if_pos h,if_pos h,dQ,dQ]
  rw [aC h]
  by_cases e1:t=i <;> by_cases e2:b=i <;> simp [e1,e2,eq_comm]
 ·rw [if_neg h,if_neg h]
  by_cases e:i=f.blocks.length
  ·subst e;simp
  rw [if_neg e]
  have:i - f.blocks.length ≠ 0:=by omega
  cases hq:i - f.blocks.length with
  | zero=>omega
  | succ q=>simp
theorem lU (f:FuncD) (b k t:Nat) (still:Bool):(eZ f b k t still).blocks.length=f.blocks.length+1:=by
 unfold eZ;simp
theorem yZ (f:FuncD) (b k t:Nat) (still:Bool):jF (eZ f b k t still)=jF f+1:=by
 unfold jF eZ
 simp only
 rw [bF,List.sum_append,l5 gD _ (fun y=>by simp [gD,jE]),l5 gD _ (fun y=>by simp [gD,fR])]
 rfl
theorem mN (b n:Int) (still:Bool) (p:PhiD):(fD b n still p).id=p.id/\(fD b n still p).typ=p.typ:=by
 unfold fD
 split
 ·split <;> exact ⟨rfl,rfl⟩
 exact ⟨rfl,rfl⟩
theorem aD7 (b n:Int) (still:Bool) (y:BlockD):iI (jE b n still y)=iI y:=by
 unfold iI jE
 simp only [cX]
 congr 1
 apply dD
 intro p _
 simp [mN]
theorem qM (f:FuncD) (b k t:Nat) (still:Bool):m8 (eZ f b k t still)=m8 f:=by
 unfold m8 eZ
 simp only [List.flatMap_def]
 rw [bF,l5 iI _ (fun y=>aD7 _ _ _ y),l5 iI (fR k f.blocks.length) (fun y=>rfl)]
 simp [nH,iI]
theorem y7 (f:FuncD) (b k t:Nat) (still:Bool):eY (eZ f b k t still)=eY f:=by
 unfold eY
 rw [qM];rfl
theorem uQ {nb:Nat} {b:Int} {still:Bool} {p:PhiD} (h:iH nb p=true):iH (nb+1) (fD b nb still p)=true:=by
 unfold iH at h ⊢
 simp only [aI,aU,decide_eq_true_eq,beq_iff_eq] at h
 obtain ⟨⟨⟨h1,h2⟩,h3⟩,h4⟩:=h
 have hm:∀ x ∈ p.src,numB (nb+1) x=true:=fun x hx=>by
  have:=h3 x hx
  unfold numB at this ⊢
  simp at this ⊢;omega
 have hno:(nb:Int) ∉ p.src:=fun hx=>by
  have:=h3 _ hx
  unfold numB at this
  simp at this
 have hnb:numB (nb+1) (nb:Int)=true:=by unfold numB;simp;omega
 simp only [aI,aU,decide_eq_true_eq,beq_iff_eq]
 unfold fD
 split
 ·rename_i hb
  split
  ·refine ⟨⟨⟨h1,by simp [h2]⟩,fun x hx => ?_⟩, ?_⟩
   ·rcases aK.1 hx with hx | hx
    ·exact hm x hx
    rw [cL.1 hx];exact hnb
   rw [cI]
   exact ⟨h4,by simp,fun a ha c hc e=>by rw [cL] at hc;exact hno (by rw [<-hc, <-e];exact ha)⟩
  refine ⟨⟨⟨h1,by simp [h2]⟩,fun x hx => ?_⟩, ?_⟩
  ·rcases dL hx with hx | hx
   ·exact hm x hx
   rw [hx];exact hnb
  rw [eI,List.pairwise_iff_getElem]
  intro i j hi hj hij
  rw [List.getElem_set,List.getElem_set]
  have hi' : i < p.src.length:=by simpa using hi
  have hj' : j < p.src.length:=by simpa using hj
  split
  ·split
   ·omega
   intro e;exact hno (e ▸ dV hj')
  split
  ·intro e;exact hno (e ▸ dV hi')
  intro e
  rw [eI,List.pairwise_iff_getElem] at h4
  exact h4 i j hi' hj' hij e
 exact ⟨⟨⟨h1,h2⟩,hm⟩,h4⟩
theorem uR {b n:Int} {still:Bool} {p:PhiD} {nb:Nat} (h:iH nb p=true):∀ u ∈ mM (fD b n still p),u ∈ mM p:=by
 unfold iH at h
 simp only [aI,aU,decide_eq_true_eq,beq_iff_eq] at h
 obtain ⟨⟨⟨-,h2⟩, -⟩, -⟩:=h
 intro u hu
 unfold fD at hu
 split at hu
 ·rename_i hb
  split at hu
  ·unfold mM at hu ⊢
   simp only [bF,aK,cQ,eD,cL] at hu
   rcases hu with hu | hu
   ·exact hu
   rw [hu,aZ]
   have hl:p.src.idxOf b < p.vals.length:=by rw [<-h2];exact cM hb
   exact ⟨_,by rw [aH,aC hl];exact dV hl,rfl⟩
  exact hu
 exact hu
theorem qN (T us:List (Int × Int)):kD T us=0 ↔ ∀ u ∈ us,(tyOf T u.1).isSome=true/\lA T u=false:=by
 unfold kD
 constructor
 ·intro h u hu
  split at h
  ·cases h
  split at h
  ·cases h
  rename_i h1 h2
  simp only [dJ,List.any_eq_false] at h1 h2
  exact ⟨by simpa using h1 u hu,by simpa using h2 u hu⟩
 intro h
 have h1:us.any (fun u => !(tyOf T u.1).isSome)=false:=by rw [List.any_eq_false];intro u hu;simp [(h u hu).1]
 have h2:us.any (lA T)=false:=by rw [List.any_eq_false];intro u hu;simp [(h u hu).2]
 rw [h1,h2];simp
theorem iM {f:FuncD}:d7 f=0 ↔ iU f=true/\f.params.all kB=true/\(∀ i x,f.blocks[i]? = some x -> fU f.blocks.length f.arrays f.cells (x,i)=true)/\idsF f=true /\ ∀ x ∈ f.blocks, ∀ u ∈ l9 x,(tyOf (eY f) u.1).isSome=true/\lA (eY f) u=false:=by
 unfold d7 gJ
 constructor
 ·intro h
  split at h
  ·rename_i h1
   simp only [aI] at h1
   refine ⟨h1.1.1.1,h1.1.1.2,fun i x hi=>aU.1 h1.1.2 (x,i) (by rw [bR];exact hi),h1.2,fun x hx u hu=>(qN _ _).1 h u ?_⟩
   unfold kC
   rw [bK]
   exact ⟨x,hx,hu⟩
  cases h
 rintro ⟨h1,h2,h3,h4,h5⟩
 have h6:f.blocks.zipIdx.all (fU f.blocks.length f.arrays f.cells)=true:=by
  rw [aU]
  rintro ⟨x,i⟩ hx
  rw [bR] at hx
  exact h3 i x hx
 rw [h1,h2,h6,h4]
 simp only [Bool.and_self,if_true]
 rw [qN]
 intro u hu
 unfold kC at hu
 rw [bK] at hu
 obtain ⟨x,hx,hu⟩:=hu
 exact h5 x hx u hu
theorem fX {nb:Nat} {ar ce:Int} {x:BlockD} {i:Nat}:fU nb ar ce (x,i)=true ↔ (i=0 -> x.phis=[])/\(∀ p ∈ x.phis,iH nb p=true)/\(x.code.all (fZ ar ce))=true/\gH nb x.term=true:=by
 unfold fU
 simp only [aI,aU,Bool.not_eq_true',Bool.and_eq_false_iff,decide_eq_false_iff_not]
 constructor
 ·rintro ⟨⟨⟨h1,h2⟩,h3⟩,h4⟩
  refine ⟨fun hi => ?_,h2,h3,h4⟩
  rcases h1 with h1 | h1
  ·exact absurd hi h1
  exact cO (by omega)
 rintro ⟨h1,h2,h3,h4⟩
 refine ⟨⟨⟨?_,h2⟩,h3⟩,h4⟩
 by_cases hi:i=0
 ·right;rw [h1 hi];simp
 left;exact hi
theorem vV {nb:Nat} {t:TermD} (h:gH nb t=true):gH (nb+1) t=true:=by
 unfold gH at h ⊢
 rw [aI] at h ⊢
 refine ⟨?_,h.2⟩
 rw [aU]
 intro b hb
 have:=aU.1 h.1 b hb
 simp at this ⊢;omega
theorem aCJ {nb:Nat} {t:TermD} {k:Nat} (h:gH nb t=true) (h1:1 <= nb):gH (nb+1) { t with to:=t.to.set k nb } = true:=by
 have h9:=vV h
 unfold gH at h9 ⊢
 rw [aI] at h9 ⊢
 simp only [bT]
 refine ⟨?_,h9.2⟩
 rw [aU]
 intro b hb
 rcases dL hb with hb | hb
 ·exact aU.1 h9.1 b hb
 subst hb;simp;omega
theorem aD8 {nb:Nat} {t:TermD} (h:gH nb t=true) {k:Nat} {q:Int} (hk:t.to[k]? = some q):1 <= q/\q < nb:=by
 unfold gH at h
 rw [aI] at h
 have:=aU.1 h.1 q (aG hk)
 simpa using this
theorem aD9 {nb:Nat} {p:PhiD} (h:iH nb p=true):iH (nb+1) p=true:=by
 unfold iH at h ⊢
 simp only [aI] at h ⊢
 refine ⟨⟨h.1.1, ?_⟩,h.2⟩
 rw [aU]
 intro b hb
 have:=aU.1 h.1.2 b hb
 unfold numB at this ⊢
 simp at this ⊢;omega
theorem uS {f:FuncD} (h:d7 f=0) {b k t:Nat} {x:BlockD} (hb:f.blocks[b]? = some x) (hk:x.term.to[k]? = some (t:Int)) (hn:f.blocks.length < 512) (hs:jF f < 4096) (still:Bool):d7 (eZ f b k t still)=0:=by
 obtain ⟨h1,h2,h3,h4,h5⟩:=iM.1 h
 rw [iM]
 have ht:=aD8 (fX.1 (h3 b x hb)).2.2.2 hk
 refine ⟨?_,h2,fun i y' hy => ?_, ?_,fun y' hy' u hu => ?_⟩
 ·unfold iU at h1 ⊢
  rw [yZ,lU]
  simp only [aI,decide_eq_true_eq] at h1 ⊢
  obtain ⟨⟨⟨⟨⟨⟨⟨k1,k2⟩,k3⟩,k4⟩,k5⟩,k6⟩,k7⟩,k8⟩:=h1
  exact ⟨⟨⟨⟨⟨⟨⟨k1,k2⟩,k3⟩,k4⟩,k5⟩,by omega⟩,by omega⟩,by omega⟩
 ·rw [lU]
  show fU (f.blocks.length+1) f.arrays f.cells (y',i)=true
  rw [iJ] at hy
  split at hy
  ·rename_i hi
   rw [dU] at hy
   obtain ⟨y,hy,rfl⟩:=hy
   obtain ⟨q1,q2,q3,q4⟩:=fX.1 (h3 i y hy)
   have q5:(if i=b then fR k f.blocks.length y else y).phis=y.phis/\(if i=b then fR k f.blocks.length y else y).code=y.code/\gH (f.blocks.length+1) (if i=b then fR k f.blocks.length y else y).term=true:=by
    split
    ·exact ⟨rfl,rfl,aCJ q4 (by omega)⟩
    exact ⟨rfl,rfl,vV q4⟩
   obtain ⟨e1,e2,e3⟩:=q5
   generalize (if i=b then fR k f.blocks.length y else y)=z at *
   rw [fX]
   split
   ·refine ⟨fun hi0=>by omega,fun p hp => ?_,by show (z.code.all _)=true;rw [e2];exact q3,e3⟩
    unfold jE at hp
    simp only [aZ] at hp
    obtain ⟨p0,hp0,rfl⟩:=hp
    rw [e1] at hp0
    exact uQ (q2 p0 hp0)
   rw [e1,e2]
   exact ⟨q1,fun p hp=>aD9 (q2 p hp),q3,e3⟩
  split at hy
  ·cases hy
   rw [fX]
   refine ⟨fun _=>rfl,fun p hp=>absurd hp (by simp [nH]),rfl, ?_⟩
   unfold gH nH
   simp only [List.all_cons,List.all_nil,Bool.and_true,aI]
   refine ⟨by simp;omega,by simp⟩
  cases hy
 ·unfold idsF
  rw [qM]
  exact h4
 rw [y7]
 obtain ⟨i,hi⟩:=cU hy'
 rw [iJ] at hi
 split at hi
 ·rw [dU] at hi
  obtain ⟨y,hy,rfl⟩:=hi
  refine h5 y (aG hy) u ?_
  obtain ⟨q1,q2,q3,q4⟩:=fX.1 (h3 i y hy)
  have q5:(if i=b then fR k f.blocks.length y else y).phis=y.phis/\(if i=b then fR k f.blocks.length y else y).code=y.code/\nW (if i=b then fR k f.blocks.length y else y).term=nW y.term:=by
   split
   ·exact ⟨rfl,rfl,rfl⟩
   exact ⟨rfl,rfl,rfl⟩
  obtain ⟨e1,e2,e3⟩:=q5
  generalize (if i=b then fR k f.blocks.length y else y)=z at *
  split at hu
  ·unfold l9 jE at hu
   simp only at hu
   rw [e1,e2,e3] at hu
   unfold l9
   simp only [aK] at hu ⊢
   rcases hu with (hu | hu) | hu
   ·refine .inl (.inl ?_)
    rw [bK] at hu ⊢
    obtain ⟨p',hp',hu⟩:=hu
    rw [aZ] at hp'
    obtain ⟨p,hp,rfl⟩:=hp'
    exact ⟨p,hp,uR (q2 p hp) u hu⟩
   ·exact .inl (.inr hu)
   exact .inr hu
  unfold l9 at hu ⊢
  rw [e1,e2,e3] at hu
  exact hu
 split at hi
 ·cases hi
  simp [l9,nH,nW] at hu
 cases hi
end Go.Proofs.YtgmhnepmkaonaaaGreat
