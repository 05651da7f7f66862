/- Part 40. -/
import Derived.Test.YtagabiidbbhhmaaGreatEU39
namespace Go.Proofs.YtagabiidbbhhmaaGreat
set_option linter.all false
open Go.RowKit
def rS:BlockD:=⟨[],[],⟨0,0,[],0⟩⟩
def lJ:List Value:=[.slice none 0 0,.slice none 0 0,.int .i64 0,.int .i64 0,.slice none 0 0,.int .i64 0]
theorem OBlock.zero {W:World}:OBlock W Foot.none lJ rS :=
 ⟨⟨_,_,_,Foot.none,Foot.none,Foot.none,rfl,OSl.nil none,OSl.nil none,⟨⟨_,rfl,eR.nil none⟩,⟨by decide,by decide⟩,⟨by decide,by decide⟩,⟨by decide,by decide⟩⟩,fun _ h=>h.elim,fun _ h=>h.elim,fun _ h=>h.elim,fun _ h=>h,fun _ h=>h,fun _ h=>h⟩,fun _ h=>h.elim⟩
theorem aAO (n j:Nat) (hj:j < n):iP (madeCells lJ.toArray (n * 6)).toList 6 j=lJ:=by
 unfold iP madeCells
 apply bG
 intro k
 rw [aW]
 by_cases hk:k < 6
 ·rw [if_pos hk,bK]
  have h1:j * 6+k < n * 6:=by omega
  have h2:(j * 6+k) % 6=k:=by omega
  simp only [Array.toList_map,Array.toList_range,aO,dL h1,cP]
  have hs:lJ.toArray.size=6:=rfl
  rw [hs,h2]
  rcases k with _ | _ | _ | _ | _ | _ | k
  all_goals first | rfl | omega
 rw [if_neg hk,aT (by show 6 <= k;omega)]
theorem rT {W:World} {base g n:Nat} (h:W.ownsRow base 63 6 (.slice (some ⟨g,0,none⟩) n n) n (madeCells lJ.toArray (n * 6)).toList) (hn:n <= 17592186044416) (hg:g < W.heap.size) :
  eX W (Foot.one g) (.slice (some ⟨g,0,none⟩) n n) (List.replicate n rS):=by
 refine ⟨_,Foot.one g,fun _=>Foot.none,ORow.of_own (by rw [aQ];exact h) (by rw [aQ];exact hn) (fun k hk=>by cases hk;rfl) (fun k hk=>by cases hk;exact hg),fun j x hj => ?_,fun _ _ _ _ _ _ h=>h.elim,fun _ _ _ h=>h.elim,fun _ h=>h,fun _ _ _ h=>h.elim,fun k hk=>by cases hk;exact hg⟩
 have aa:=(aD.1 hj).1
 rw [aQ] at aa
 have hx:x=rS:=cS (aG hj)
 rw [hx,aAO n j aa]
 exact OBlock.zero
theorem mU {w:World} {ops:Array Oper} {rest:List Oper} {o:Oper} {a:Act} {Q:Exit -> Act -> World -> Prop} (hg:o.guard=none) (l c:Operand) (hop:o.op=Op.makeSlice 23 l c) (n:Nat) {L C:Int}
  (hl:a.eval l = .int .i64 L) (hc:a.eval c = .int .i64 C) (hL:L=n) (hC:C=n) (hn:n <= 100000)
  (hK:∀ w',eX w' (Foot.one w.heap.size) (.slice (some ⟨w.heap.size,0,none⟩) n n) (List.replicate n rS) -> Below w.heap.size w w' -> wpList Tryz.prog ops Q rest (a.put o.dst (.slice (some ⟨w.heap.size,0,none⟩) n n)) w') :
  wpList Tryz.prog ops Q (o :: rest) a w:=by
 obtain ⟨ht,⟨i,hi,hz,ab,ac⟩,hzc,hp⟩:=tX
 refine wpList_make_full w hg l c _ hop w.heap.size _ i _ 6 ht hi hz ab .i64 .i64 L C n hl hc hL hC (by rw [ac];omega) (by unfold maxLen;omega) (aC _) fun w' h1 h2 => ?_
 have aa:w.heap.size < w'.heap.size:=by
  rcases h1.2 with ⟨h,_⟩ | ⟨g,cap,cur,h,_,hh,_⟩
  ·cases h
  cases h;exact (aM.1 hh).1
 exact hK w' (rT h1 (by omega) aa) ((Below.refl _ _).grown h2 (aC _) (by simp))
theorem set6 {l:List Value} (h:l.length=6) (a b c d e f:Value):(((((l.set 0 a).set 1 b).set 2 c).set 3 d).set 4 e).set 5 f=[a,b,c,d,e,f]:=by
 match l,h with
 | [_,_,_,_,_,_],_=>rfl
def put6 (W:World) (g o:Nat) (a b c d e f:Value):World:=(((((W.setCell ⟨g,o,none⟩ a).setCell ⟨g,o+1,none⟩ b).setCell ⟨g,o+2,none⟩ c).setCell ⟨g,o+3,none⟩ d).setCell ⟨g,o+4,none⟩ e).setCell ⟨g,o+5,none⟩ f
theorem qO (W:World) (g o:Nat) (a b c d e f:Value):Off (Foot.one g) W (put6 W g o a b c d e f) :=
 (((((Off.set W ⟨g,o,none⟩ a).trans (Off.set _ ⟨g,o+1,none⟩ b)).trans (Off.set _ ⟨g,o+2,none⟩ c)).trans (Off.set _ ⟨g,o+3,none⟩ d)).trans (Off.set _ ⟨g,o+4,none⟩ e)).trans (Off.set _ ⟨g,o+5,none⟩ f)
theorem rU {W:World} {S:Foot} {v:Value} {xs:List BlockD} (h:eX W S v xs) {j:Nat} {y x:BlockD} (hj:xs[j]? = some y) {g cap:Nat} (hv:v = .slice (some ⟨g,0,none⟩) xs.length cap)
  {a b c d e f:Value} {Fn:Foot} (hx:OBlock W Fn [a,b,c,d,e,f] x) (hF:Fn.off S):eX (put6 W g (j * 6) a b c d e f) (fun k=>S k \/ Fn k) v (xs.set j x):=by
 obtain ⟨cs,G,F,hp⟩:=h
 have ad:=(aD.1 hj).1
 have hn:0 < xs.length:=by omega
 have hG:G g:=by
  obtain ⟨g',cap',ab,ac, -⟩:=hp.row.addr hn
  rw [hv] at ab;cases ab;exact ac
 have hsz:(put6 W g (j * 6) a b c d e f).heap.size=W.heap.size:=by simp [put6,World.setCell]
 have aa:=(((((hp.row.set hv hn (j * 6+0) a).set hv hn (j * 6+1) b).set hv hn (j * 6+2) c).set hv hn (j * 6+3) d).set hv hn (j * 6+4) e).set hv hn (j * 6+5) f
 refine ⟨_,G,_,hp.put OBlock.nice hj x (Fj:=Fn) ?_ aa (fun i hi hne => ?_) ?_ ?_ _ (fun k hk=>.inl hk) (fun k hk=>.inr hk) (fun k hk => ?_)⟩
 ·exact (qO W g (j * 6) a b c d e f).mono fun k _ hk=>.inl (by cases hk;exact hG)
 ·rw [gL hne (by omega),gL hne (by omega),gL hne (by omega),gL hne (by omega),gL hne (by omega),gL hne (by omega)]
 ·rw [fA (by omega),fA (by omega),fA (by omega),fA (by omega),fA (by omega),fA (by omega),set6 (aAL hp.row.len ad)]
  exact OBlock.nice.off hx (qO W g (j * 6) a b c d e f) fun k h1 h2=>hF k h1 (by cases h2;exact hp.inG _ hG)
 ·exact fun k hk=>.inr (hF k hk)
 ·simp only [World.setCell,Array.size_modify]
  exact hk.elim (hp.lt k) (hx.lt k)
theorem eX.open {W:World} {S:Foot} {v:Value} {xs:List BlockD} (h:eX W S v xs) {j:Nat} {x:BlockD} (hj:xs[j]? = some x) :
  ∃ (g cap:Nat) (ap ai at_:Option Addr) (cp ci ct:Nat) (S1 S2 S3:Foot),v = .slice (some ⟨g,0,none⟩) xs.length cap/\g < W.heap.size/\S g/\BlockC W g (j * 6) x ap ai at_ cp ci ct/\(∀ o,W.frozen? ⟨g,o,none⟩=false) /\
   fV W S1 (.slice ap x.phis.length cp) x.phis/\gX W S2 (.slice ai x.code.length ci) x.code/\eR W S3 (.slice at_ x.term.to.length ct) x.term.to /\
   (∀ k,S1 k -> S k)/\(∀ k,S2 k -> S k)/\(∀ k,S3 k -> S k)/\S1.off S2/\S1.off S3/\S2.off S3/\(¬ S1 g /\ ¬ S2 g /\ ¬ S3 g) /\
   (∀ (W' : World) (S1' : Foot) (ps:List PhiD),Off S1 W W' -> fV W' S1' (.slice ap x.phis.length cp) ps -> (∀ k,S1' k -> S1 k \/ W.heap.size <= k) -> eX W' (fun k=>S k \/ S1' k) v (xs.set j { x with phis:=ps })) /\
   (∀ (W' : World) (S2' : Foot) (ys:List InstrD),Off S2 W W' -> gX W' S2' (.slice ai x.code.length ci) ys -> (∀ k,S2' k -> S2 k \/ W.heap.size <= k) -> eX W' (fun k=>S k \/ S2' k) v (xs.set j { x with code:=ys })) /\
   (∀ (W' : World) (to:List Int),Off S3 W W' -> eR W' S3 (.slice at_ x.term.to.length ct) to -> eX W' S v (xs.set j { x with term := { x.term with to:=to } })):=by
 obtain ⟨cs,G,F,hp⟩:=h
 have al:=(aD.1 hj).1
 have hn:0 < xs.length:=by omega
 obtain ⟨g,cap,hv,hG, -, -,aq,ah,ar⟩:=hp.row.addr hn
 obtain ⟨⟨pv,uv,t,S1,S2,S3,aj,h1,h2,h3,ae,af,ad,i1,i2,i3⟩,hFl⟩:=hp.el j x hj
 obtain ⟨⟨tv,rfl,ac⟩,q1,q2,q3⟩:=h3
 obtain ⟨ap,cp,rfl⟩:=(h1.reads (R0:=PhiR) fun _ _ _ h=>h.reads).form
 obtain ⟨ai,ci,rfl⟩:=(h2.reads (R0:=gZ) fun _ _ _ h=>h.reads).form
 obtain ⟨at_,ct,rfl⟩:=ac.ints.form
 have hc:∀ o u,o < 6 -> (iP cs 6 j)[o]? = some u -> W.cell? ⟨g,j * 6+o,none⟩=some u:=fun o u ho hu=>ah _ _ (by rw [<-jL ho];exact hu)
 rw [aj] at hc
 have nG:∀ k,F j k -> ¬ G k:=hp.free j al
 have ab:∀ k,F j k -> S k:=fun k hk=>hp.inF j k al hk
 refine ⟨g,cap,ap,ai,at_,cp,ci,ct,S1,S2,S3,hv,aq,hp.inG g hG,⟨hc 0 _ (by omega) rfl,hc 1 _ (by omega) rfl,hc 2 _ (by omega) rfl,hc 3 _ (by omega) rfl,hc 4 _ (by omega) rfl,hc 5 _ (by omega) rfl,h1.reads fun _ _ _ h=>h.reads,h2.reads fun _ _ _ h=>h.reads,ac.ints,q1,q2,q3⟩,ar,h1,h2,ac,
  fun k hk=>ab k (i1 k hk),fun k hk=>ab k (i2 k hk),fun k hk=>ab k (i3 k hk),ae,af,ad,⟨fun h=>nG g (i1 g h) hG,fun h=>nG g (i2 g h) hG,fun h=>nG g (i3 g h) hG⟩,fun W' S1' ps ho hps hS => ?_,fun W' S2' ys ho hys hS => ?_,fun W' to ho ht => ?_⟩
 ·have ag:Off (G.or (F j)) W W':=ho.mono fun k _ hk=>.inr (i1 k hk)
  have aa:=hp.row.off ho (fun k h1 h2=>nG k (i1 k h2) h1)
  refine ⟨cs,G,_,hp.put OBlock.nice hj { x with phis:=ps } (Fj:=fun k=>(S1' k \/ S2 k) \/ S3 k) ag aa (fun _ _ _=>rfl) ?_ (fun k hk => ?_) _ (fun k hk=>.inl hk) (fun k hk => ?_) (fun k hk => ?_)⟩
  ·rw [aj]
   have ak:S1'.off S2:=fun k a b=>by
    rcases hS k a with c | c
    ·exact ae k c b
    have:=h2.lt k b;omega
   have an:S1'.off S3:=fun k a b=>by
    rcases hS k a with c | c
    ·exact af k c b
    have:=ac.lt k b;omega
   have k2:=h2.off OInstr.nice ho ae.symm
   have k3:=ac.off ho af.symm
   exact ⟨⟨_,_,_,S1',S2,S3,rfl,hps,k2,⟨⟨_,rfl,k3⟩,q1,q2,q3⟩,ak,an,ad,fun k h=>.inl (.inl h),fun k h=>.inl (.inr h),fun k h=>.inr h⟩,fun k hk=>by
    rcases hk with (hk | hk) | hk
    ·exact hps.lt k hk
    ·exact k2.lt k hk
    exact k3.lt k hk⟩
  ·rcases hk with (hk | hk) | hk
   ·rcases hS k hk with c | c
    ·exact .inl (i1 k c)
    exact .inr fun hs=>by have:=hp.lt k hs;omega
   ·exact .inl (i2 k hk)
   exact .inl (i3 k hk)
  ·rcases hk with (hk | hk) | hk
   ·exact .inr hk
   ·exact .inl (ab k (i2 k hk))
   exact .inl (ab k (i3 k hk))
  rcases hk with hk | hk
  ·exact aR (hp.lt k hk) ho.size
  exact hps.lt k hk
 ·have ag:Off (G.or (F j)) W W':=ho.mono fun k _ hk=>.inr (i2 k hk)
  have aa:=hp.row.off ho (fun k h1 h2=>nG k (i2 k h2) h1)
  refine ⟨cs,G,_,hp.put OBlock.nice hj { x with code:=ys } (Fj:=fun k=>(S1 k \/ S2' k) \/ S3 k) ag aa (fun _ _ _=>rfl) ?_ (fun k hk => ?_) _ (fun k hk=>.inl hk) (fun k hk => ?_) (fun k hk => ?_)⟩
  ·rw [aj]
   have ak:S1.off S2':=fun k a b=>by
    rcases hS k b with c | c
    ·exact ae k a c
    have:=h1.lt k a;omega
   have ao:S2'.off S3:=fun k a b=>by
    rcases hS k a with c | c
    ·exact ad k c b
    have:=ac.lt k b;omega
   have k1:=h1.off OPhi.nice ho ae
   have k3:=ac.off ho ad.symm
   exact ⟨⟨_,_,_,S1,S2',S3,rfl,k1,hys,⟨⟨_,rfl,k3⟩,q1,q2,q3⟩,ak,af,ao,fun k h=>.inl (.inl h),fun k h=>.inl (.inr h),fun k h=>.inr h⟩,fun k hk=>by
    rcases hk with (hk | hk) | hk
    ·exact k1.lt k hk
    ·exact hys.lt k hk
    exact k3.lt k hk⟩
  ·rcases hk with (hk | hk) | hk
   ·exact .inl (i1 k hk)
   ·rcases hS k hk with c | c
    ·exact .inl (i2 k c)
    exact .inr fun hs=>by have:=hp.lt k hs;omega
   exact .inl (i3 k hk)
  ·rcases hk with (hk | hk) | hk
   ·exact .inl (ab k (i1 k hk))
   ·exact .inr hk
   exact .inl (ab k (i3 k hk))
  rcases hk with hk | hk
  ·exact aR (hp.lt k hk) ho.size
  exact hys.lt k hk
 ·have ag:Off (G.or (F j)) W W':=ho.mono fun k _ hk=>.inr (i3 k hk)
  have aa:=hp.row.off ho (fun k h1 h2=>nG k (i3 k h2) h1)
  have am:∀ k,S k -> k < W'.heap.size:=fun k hk=>aR (hp.lt k hk) ho.size
  refine ⟨cs,G,_,hp.put OBlock.nice hj { x with term := { x.term with to:=to } } (Fj:=F j) ag aa (fun _ _ _=>rfl) ?_ (fun k hk=>.inl hk) _ (fun k hk=>hk) (fun k hk=>ab k hk) am⟩
  rw [aj]
  exact ⟨⟨_,_,_,S1,S2,S3,rfl,h1.off OPhi.nice ho af,h2.off OInstr.nice ho ad,⟨⟨_,rfl,ht⟩,q1,q2,q3⟩,ae,af,ad,i1,i2,i3⟩,fun k hk=>am k (ab k hk)⟩
end Go.Proofs.YtagabiidbbhhmaaGreat
