/- Part 45. -/
import Derived.Test.YtagabiidbbhhmaaGreatEC33
import Derived.Test.YtagabiidbbhhmaaGreatEC43
namespace Go.Proofs.YtagabiidbbhhmaaGreat
set_option linter.all false
section
open Go.RowKit
def rZ:BlockD:=⟨[],[],⟨0,0,[],0⟩⟩
def lK:List Value:=[.slice none 0 0,.slice none 0 0,.int .i64 0,.int .i64 0,.slice none 0 0,.int .i64 0]
theorem OBlock.zero {W:World}:OBlock W Foot.none lK rZ :=
 ⟨⟨_,_,_,Foot.none,Foot.none,Foot.none,rfl,OSl.nil none,OSl.nil none,⟨⟨_,rfl,eP.nil none⟩,⟨by decide,by decide⟩,⟨by decide,by decide⟩,⟨by decide,by decide⟩⟩,fun _ h=>h.elim,fun _ h=>h.elim,fun _ h=>h.elim,fun _ h=>h,fun _ h=>h,fun _ h=>h⟩,fun _ h=>h.elim⟩
theorem aAU (n j:Nat) (hj:j < n):iM (madeCells lK.toArray (n * 6)).toList 6 j=lK:=by
 unfold iM madeCells
 apply bK
 intro k
 rw [aZ]
 by_cases hk:k < 6
 ·rw [if_pos hk,bM]
  have h1:j * 6+k < n * 6:=by omega
  have h2:(j * 6+k) % 6=k:=by omega
  simp only [Array.toList_map,Array.toList_range,aR,dV h1,cN]
  have hs:lK.toArray.size=6:=rfl
  rw [hs,h2]
  rcases k with _ | _ | _ | _ | _ | _ | k
  all_goals first | rfl | omega
 rw [if_neg hk,aQ (by show 6 <= k;omega)]
theorem sA {W:World} {base g n:Nat} (h:W.ownsRow base 63 6 (.slice (some ⟨g,0,none⟩) n n) n (madeCells lK.toArray (n * 6)).toList) (hn:n <= 17592186044416) (hg:g < W.heap.size) :
  eU W (Foot.one g) (.slice (some ⟨g,0,none⟩) n n) (List.replicate n rZ):=by
 refine ⟨_,Foot.one g,fun _=>Foot.none,ORow.of_own (by rw [aP];exact h) (by rw [aP];exact hn) (fun k hk=>by cases hk;rfl) (fun k hk=>by cases hk;exact hg),fun j x hj => ?_,fun _ _ _ _ _ _ h=>h.elim,fun _ _ _ h=>h.elim,fun _ h=>h,fun _ _ _ h=>h.elim,fun k hk=>by cases hk;exact hg⟩
 have hjl:=(aD.1 hj).1
 rw [aP] at hjl
 have hx:x=rZ:=cS (aG hj)
 rw [hx,aAU n j hjl]
 exact OBlock.zero
theorem mY {w:World} {ops:Array Oper} {rest:List Oper} {o:Oper} {a:Act} {Q:Exit -> Act -> World -> Prop} (hg:o.guard=none) (l c:Operand) (hop:o.op=Op.makeSlice 23 l c) (n:Nat) {L C:Int}
  (hl:a.eval l = .int .i64 L) (hc:a.eval c = .int .i64 C) (hL:L=n) (hC:C=n) (hn:n <= 100000)
  (hK:∀ w',eU w' (Foot.one w.heap.size) (.slice (some ⟨w.heap.size,0,none⟩) n n) (List.replicate n rZ) -> Below w.heap.size w w' -> wpList Tryz.prog ops Q rest (a.put o.dst (.slice (some ⟨w.heap.size,0,none⟩) n n)) w') :
  wpList Tryz.prog ops Q (o :: rest) a w:=by
 obtain ⟨ht,⟨i,hi,hz,hsz,hby⟩,hzc,hp⟩:=tB
 refine wpList_make_full w hg l c _ hop w.heap.size _ i _ 6 ht hi hz hsz .i64 .i64 L C n hl hc hL hC (by rw [hby];omega) (by unfold maxLen;omega) (aA _) fun w' h1 h2 => ?_
 have hlt:w.heap.size < w'.heap.size:=by
  rcases h1.2 with ⟨h,_⟩ | ⟨g,cap,cur,h,_,hh,_⟩
  ·cases h
  cases h;exact (aL.1 hh).1
 exact hK w' (sA h1 (by omega) hlt) ((Below.refl _ _).grown h2 (aA _) (by simp))
theorem set6 {l:List Value} (h:l.length=6) (a b c d e f:Value):(((((l.set 0 a).set 1 b).set 2 c).set 3 d).set 4 e).set 5 f=[a,b,c,d,e,f]:=by
 match l,h with
 | [_,_,_,_,_,_],_=>rfl
def put6 (W:World) (g o:Nat) (a b c d e f:Value):World:=(((((W.setCell ⟨g,o,none⟩ a).setCell ⟨g,o+1,none⟩ b).setCell ⟨g,o+2,none⟩ c).setCell ⟨g,o+3,none⟩ d).setCell ⟨g,o+4,none⟩ e).setCell ⟨g,o+5,none⟩ f
theorem nZ (W:World) (g o:Nat) (a b c d e f:Value):Off (Foot.one g) W (put6 W g o a b c d e f) :=
 (((((Off.set W ⟨g,o,none⟩ a).trans (Off.set _ ⟨g,o+1,none⟩ b)).trans (Off.set _ ⟨g,o+2,none⟩ c)).trans (Off.set _ ⟨g,o+3,none⟩ d)).trans (Off.set _ ⟨g,o+4,none⟩ e)).trans (Off.set _ ⟨g,o+5,none⟩ f)
theorem nP {W:World} {S:Foot} {v:Value} {xs:List BlockD} (h:eU W S v xs) {j:Nat} {y x:BlockD} (hj:xs[j]? = some y) {g cap:Nat} (hv:v = .slice (some ⟨g,0,none⟩) xs.length cap)
  {a b c d e f:Value} {Fn:Foot} (hx:OBlock W Fn [a,b,c,d,e,f] x) (hF:Fn.off S):eU (put6 W g (j * 6) a b c d e f) (fun k=>S k \/ Fn k) v (xs.set j x):=by
 obtain ⟨cs,G,F,hp⟩:=h
 have hjl:=(aD.1 hj).1
 have hn:0 < xs.length:=by omega
 have hG:G g:=by
  obtain ⟨g',cap',hv',hg', -⟩:=hp.row.addr hn
  rw [hv] at hv';cases hv';exact hg'
 have hsz:(put6 W g (j * 6) a b c d e f).heap.size=W.heap.size:=by simp [put6,World.setCell]
 have hrow:=(((((hp.row.set hv hn (j * 6+0) a).set hv hn (j * 6+1) b).set hv hn (j * 6+2) c).set hv hn (j * 6+3) d).set hv hn (j * 6+4) e).set hv hn (j * 6+5) f
 refine ⟨_,G,_,hp.put OBlock.nice hj x (Fj:=Fn) ?_ hrow (fun i hi hne => ?_) ?_ ?_ _ (fun k hk=>.inl hk) (fun k hk=>.inr hk) (fun k hk => ?_)⟩
 ·exact (nZ W g (j * 6) a b c d e f).mono fun k _ hk=>.inl (by cases hk;exact hG)
 ·rw [iC hne (by omega),iC hne (by omega),iC hne (by omega),iC hne (by omega),iC hne (by omega),iC hne (by omega)]
 ·rw [eZ (by omega),eZ (by omega),eZ (by omega),eZ (by omega),eZ (by omega),eZ (by omega),set6 (aAD hp.row.len hjl)]
  exact OBlock.nice.off hx (nZ W g (j * 6) a b c d e f) fun k h1 h2=>hF k h1 (by cases h2;exact hp.inG _ hG)
 ·exact fun k hk=>.inr (hF k hk)
 ·simp only [World.setCell,Array.size_modify]
  exact hk.elim (hp.lt k) (hx.lt k)
theorem eU.open {W:World} {S:Foot} {v:Value} {xs:List BlockD} (h:eU W S v xs) {j:Nat} {x:BlockD} (hj:xs[j]? = some x) :
  ∃ (g cap:Nat) (ap ai at_:Option Addr) (cp ci ct:Nat) (S1 S2 S3:Foot),v = .slice (some ⟨g,0,none⟩) xs.length cap/\g < W.heap.size/\S g/\BlockC W g (j * 6) x ap ai at_ cp ci ct/\(∀ o,W.frozen? ⟨g,o,none⟩=false) /\
   fZ W S1 (.slice ap x.phis.length cp) x.phis/\gV W S2 (.slice ai x.code.length ci) x.code/\eP W S3 (.slice at_ x.term.to.length ct) x.term.to /\
   (∀ k,S1 k -> S k)/\(∀ k,S2 k -> S k)/\(∀ k,S3 k -> S k)/\S1.off S2/\S1.off S3/\S2.off S3/\(¬ S1 g /\ ¬ S2 g /\ ¬ S3 g) /\
   (∀ (W' : World) (S1' : Foot) (ps:List PhiD),Off S1 W W' -> fZ W' S1' (.slice ap x.phis.length cp) ps -> (∀ k,S1' k -> S1 k \/ W.heap.size <= k) -> eU W' (fun k=>S k \/ S1' k) v (xs.set j { x with phis:=ps })) /\
   (∀ (W' : World) (S2' : Foot) (ys:List InstrD),Off S2 W W' -> gV W' S2' (.slice ai x.code.length ci) ys -> (∀ k,S2' k -> S2 k \/ W.heap.size <= k) -> eU W' (fun k=>S k \/ S2' k) v (xs.set j { x with code:=ys })) /\
   (∀ (W' : World) (to:List Int),Off S3 W W' -> eP W' S3 (.slice at_ x.term.to.length ct) to -> eU W' S v (xs.set j { x with term := { x.term with to:=to } })):=by
 obtain ⟨cs,G,F,hp⟩:=h
 have hjl:=(aD.1 hj).1
 have hn:0 < xs.length:=by omega
 obtain ⟨g,cap,hv,hG, -, -,hgl,hcell,hfr⟩:=hp.row.addr hn
 obtain ⟨⟨pv,uv,t,S1,S2,S3,hch,h1,h2,h3,h12,h13,h23,i1,i2,i3⟩,hFl⟩:=hp.el j x hj
 obtain ⟨⟨tv,rfl,hto⟩,q1,q2,q3⟩:=h3
 obtain ⟨ap,cp,rfl⟩:=(h1.reads (R0:=PhiR) fun _ _ _ h=>h.reads).form
 obtain ⟨ai,ci,rfl⟩:=(h2.reads (R0:=gW) fun _ _ _ h=>h.reads).form
 obtain ⟨at_,ct,rfl⟩:=hto.ints.form
 have hc:∀ o u,o < 6 -> (iM cs 6 j)[o]? = some u -> W.cell? ⟨g,j * 6+o,none⟩=some u:=fun o u ho hu=>hcell _ _ (by rw [<-jM ho];exact hu)
 rw [hch] at hc
 have nG:∀ k,F j k -> ¬ G k:=hp.free j hjl
 have inS:∀ k,F j k -> S k:=fun k hk=>hp.inF j k hjl hk
 refine ⟨g,cap,ap,ai,at_,cp,ci,ct,S1,S2,S3,hv,hgl,hp.inG g hG,⟨hc 0 _ (by omega) rfl,hc 1 _ (by omega) rfl,hc 2 _ (by omega) rfl,hc 3 _ (by omega) rfl,hc 4 _ (by omega) rfl,hc 5 _ (by omega) rfl,h1.reads fun _ _ _ h=>h.reads,h2.reads fun _ _ _ h=>h.reads,hto.ints,q1,q2,q3⟩,hfr,h1,h2,hto,
  fun k hk=>inS k (i1 k hk),fun k hk=>inS k (i2 k hk),fun k hk=>inS k (i3 k hk),h12,h13,h23,⟨fun h=>nG g (i1 g h) hG,fun h=>nG g (i2 g h) hG,fun h=>nG g (i3 g h) hG⟩,fun W' S1' ps ho hps hS => ?_,fun W' S2' ys ho hys hS => ?_,fun W' to ho ht => ?_⟩
 ·have ho2:Off (G.or (F j)) W W':=ho.mono fun k _ hk=>.inr (i1 k hk)
  have hrow:=hp.row.off ho (fun k h1 h2=>nG k (i1 k h2) h1)
  refine ⟨cs,G,_,hp.put OBlock.nice hj { x with phis:=ps } (Fj:=fun k=>(S1' k \/ S2 k) \/ S3 k) ho2 hrow (fun _ _ _=>rfl) ?_ (fun k hk => ?_) _ (fun k hk=>.inl hk) (fun k hk => ?_) (fun k hk => ?_)⟩
  ·rw [hch]
   have a12:S1'.off S2:=fun k a b=>by
    rcases hS k a with c | c
    ·exact h12 k c b
    have:=h2.lt k b;omega
   have a13:S1'.off S3:=fun k a b=>by
    rcases hS k a with c | c
    ·exact h13 k c b
    have:=hto.lt k b;omega
   have k2:=h2.off OInstr.nice ho h12.symm
   have k3:=hto.off ho h13.symm
   exact ⟨⟨_,_,_,S1',S2,S3,rfl,hps,k2,⟨⟨_,rfl,k3⟩,q1,q2,q3⟩,a12,a13,h23,fun k h=>.inl (.inl h),fun k h=>.inl (.inr h),fun k h=>.inr h⟩,fun k hk=>by
    rcases hk with (hk | hk) | hk
    ·exact hps.lt k hk
    ·exact k2.lt k hk
    exact k3.lt k hk⟩
  ·rcases hk with (hk | hk) | hk
   ·rcases hS k hk with c | c
    ·exact .inl (i1 k c)
    exact .inr fun hs=>by have:=hp.lt k hs;omega
   ·exact .inl (i2 k hk)
   exact .inl (i3 k hk)
  ·rcases hk with (hk | hk) | hk
   ·exact .inr hk
   ·exact .inl (inS k (i2 k hk))
   exact .inl (inS k (i3 k hk))
  rcases hk with hk | hk
  ·exact bC (hp.lt k hk) ho.size
  exact hps.lt k hk
 ·have ho2:Off (G.or (F j)) W W':=ho.mono fun k _ hk=>.inr (i2 k hk)
  have hrow:=hp.row.off ho (fun k h1 h2=>nG k (i2 k h2) h1)
  refine ⟨cs,G,_,hp.put OBlock.nice hj { x with code:=ys } (Fj:=fun k=>(S1 k \/ S2' k) \/ S3 k) ho2 hrow (fun _ _ _=>rfl) ?_ (fun k hk => ?_) _ (fun k hk=>.inl hk) (fun k hk => ?_) (fun k hk => ?_)⟩
  ·rw [hch]
   have a12:S1.off S2':=fun k a b=>by
    rcases hS k b with c | c
    ·exact h12 k a c
    have:=h1.lt k a;omega
   have a23:S2'.off S3:=fun k a b=>by
    rcases hS k a with c | c
    ·exact h23 k c b
    have:=hto.lt k b;omega
   have k1:=h1.off OPhi.nice ho h12
   have k3:=hto.off ho h23.symm
   exact ⟨⟨_,_,_,S1,S2',S3,rfl,k1,hys,⟨⟨_,rfl,k3⟩,q1,q2,q3⟩,a12,h13,a23,fun k h=>.inl (.inl h),fun k h=>.inl (.inr h),fun k h=>.inr h⟩,fun k hk=>by
    rcases hk with (hk | hk) | hk
    ·exact k1.lt k hk
    ·exact hys.lt k hk
    exact k3.lt k hk⟩
  ·rcases hk with (hk | hk) | hk
   ·exact .inl (i1 k hk)
   ·rcases hS k hk with c | c
    ·exact .inl (i2 k c)
    exact .inr fun hs=>by have:=hp.lt k hs;omega
   exact .inl (i3 k hk)
  ·rcases hk with (hk | hk) | hk
   ·exact .inl (inS k (i1 k hk))
   ·exact .inr hk
   exact .inl (inS k (i3 k hk))
  rcases hk with hk | hk
  ·exact bC (hp.lt k hk) ho.size
  exact hys.lt k hk
 ·have ho2:Off (G.or (F j)) W W':=ho.mono fun k _ hk=>.inr (i3 k hk)
  have hrow:=hp.row.off ho (fun k h1 h2=>nG k (i3 k h2) h1)
  have hlt:∀ k,S k -> k < W'.heap.size:=fun k hk=>bC (hp.lt k hk) ho.size
  refine ⟨cs,G,_,hp.put OBlock.nice hj { x with term := { x.term with to:=to } } (Fj:=F j) ho2 hrow (fun _ _ _=>rfl) ?_ (fun k hk=>.inl hk) _ (fun k hk=>hk) (fun k hk=>inS k hk) hlt⟩
  rw [hch]
  exact ⟨⟨_,_,_,S1,S2,S3,rfl,h1.off OPhi.nice ho h13,h2.off OInstr.nice ho h23,⟨⟨_,rfl,ht⟩,q1,q2,q3⟩,h12,h13,h23,i1,i2,i3⟩,fun k hk=>hlt k (inS k hk)⟩
end
section
open Go.RowKit
theorem aB4 {α : Type} {xs:List α} {z x : α} {j:Nat} (hx:xs[j]? = some x):(xs.take j ++ List.replicate (xs.length - j) z)[j]? = some z/\(xs.take j ++ List.replicate (xs.length - j) z).set j x=xs.take (j+1) ++ List.replicate (xs.length - (j+1)) z:=by
 have hl:=(aD.1 hx).1
 have ht:(xs.take j).length=j:=by rw [aW];omega
 obtain ⟨m,hm⟩ : ∃ m,xs.length - j=m+1:=⟨xs.length - j - 1,by omega⟩
 have hm2:xs.length - (j+1)=m:=by omega
 rw [hm,hm2,List.replicate_succ]
 constructor
 ·rw [cA (by omega),ht,dU];rfl
 rw [List.set_append_right _ _ (by omega),ht,dU,aE,dA,hx,Option.toList_some,bQ];rfl
def aE4 (f:FuncD) (w:World) (e:Ending) (w' : World):Prop := ∃ v S,e = .returned v/\OFunc w' S v f/\kW w.heap.size S/\Below w.heap.size w w'
set_option maxHeartbeats 25600000 in
set_option maxRecDepth 100000 in
theorem aCK {w:World} {v:Value} {f:FuncD} (hv:fO w v f) (hsz:∀ x ∈ f.blocks,x.phis.length <= 100000/\x.code.length <= 100000) (hnb:f.blocks.length <= 100000):Calls Tryz.prog 48 #[v] w (aE4 f w):=by
 have HV:=h! hv
 obtain ⟨ap,cp,ab,cb,rfl,hp,ha64,hc64,hB⟩:=hv.form
 have H64:=h! (And.intro ha64 hc64)
 obtain ⟨a2,c2,bb,bo,hbe,hbc,hbm,hbl,hba,hbx⟩:=eT hB
 cases hbe
 obtain ⟨np,hnp⟩ : ∃ np,np=f.params.length:=⟨_,rfl⟩
 obtain ⟨ar,har⟩ : ∃ ar,ar=f.arrays:=⟨_,rfl⟩
 obtain ⟨ce,hce⟩ : ∃ ce,ce=f.cells:=⟨_,rfl⟩
 obtain ⟨nb,hnbd⟩ : ∃ nb,nb=f.blocks.length:=⟨_,rfl⟩
 rw [<-hnbd] at hbc hba hbl hnb
 rw [<-hnbd, <-hnp, <-har, <-hce]
 rw [<-hnp] at hp
 have HPR:=h! hp
 have HNP:=h! hnp
 have HNB:=h! hnbd
 have HBA:=h! hba
 have HBX:=h! hbx
 have HAC:Hid (ar=f.arrays/\ce=f.cells):=h! ⟨har,hce⟩
 have HSZ:=h! hsz
 clear hp hB hv hbx hnp hnbd hba har hce ha64 hc64 hsz HV
 go_enter Tryz.func48,Tryz.ntmps48
 go_upto_region 2 with (fail)
 have hA_:=(Below.refl w.heap.size w).alloc (aA _) (.cells #[.slice ap np cp,.int .i64 ar,.int .i64 ce,.slice ab nb cb] 25)
 have HW:=h! hA_
 clear hA_
 have B1:=h! (Box.new w #[.slice ap np cp,.int .i64 ar,.int .i64 ce,.slice ab nb cb] 25)
 have hz0_:(w.alloc (.cells #[.slice ap np cp,.int .i64 ar,.int .i64 ce,.slice ab nb cb] 25)).heap.size=w.heap.size+1:=World.size_alloc _ _
 generalize w.alloc (.cells #[.slice ap np cp,.int .i64 ar,.int .i64 ce,.slice ab nb cb] 25)=wv0 at *
 have hA_:=(Below.refl wv0.heap.size wv0).alloc (aA _) (.cells #[.slice none 0 0,.int .i64 0,.int .i64 0,.slice none 0 0] 25)
 replace B1:=h! (B1.out.later hA_)
 replace HW:=h! (HW.out.trans (hA_.mono HW.out.size))
 clear hA_
 have B2:=h! (Box.new wv0 #[.slice none 0 0,.int .i64 0,.int .i64 0,.slice none 0 0] 25)
 rw [hz0_] at B2
 have hz1_:(wv0.alloc (.cells #[.slice none 0 0,.int .i64 0,.int .i64 0,.slice none 0 0] 25)).heap.size=w.heap.size+1+1:=by rw [World.size_alloc,hz0_]
 clear hz0_
 generalize wv0.alloc (.cells #[.slice none 0 0,.int .i64 0,.int .i64 0,.slice none 0 0] 25)=wv1 at *
 have hA_:=(Below.refl wv1.heap.size wv1).alloc (aA _) (.cells #[.slice ap np cp,.int .i64 ar,.int .i64 ce,.slice ab nb cb] 25)
 replace B1:=h! (B1.out.later hA_)
 replace B2:=h! (B2.out.later hA_)
 replace HW:=h! (HW.out.trans (hA_.mono HW.out.size))
 clear hA_
 have B3:=h! (Box.new wv1 #[.slice ap np cp,.int .i64 ar,.int .i64 ce,.slice ab nb cb] 25)
 rw [hz1_] at B3
 clear hz1_
 generalize wv1.alloc (.cells #[.slice ap np cp,.int .i64 ar,.int .i64 ce,.slice ab nb cb] 25)=wv at *
 obtain ⟨lB1,cB1,fB1⟩:=B1.out
 obtain ⟨lB2,cB2,fB2⟩:=B2.out
 obtain ⟨lB3,cB3,fB3⟩:=B3.out
 go_wp2_with fail
 refine (qP (HPR.out.below HW.out)).mono ?_
 rintro e w2 ⟨pv2,SQ,rfl,hI,hF,hb⟩
 obtain ⟨pa2,pc2,rfl⟩:=hI.ints.form
 rw [<-HNP.out] at hI ⊢
 have HQ:Hid (Holds [w.heap.size,w.heap.size+1,w.heap.size+1+1] (w.heap.size+3) w2 SQ (fun W=>eP W SQ (.slice pa2 np pc2) f.params)):=h! (((fK hI hF).from (by have:=B3.out.lt;omega)).low (by simp))
 clear hI hF
 clear lB1 cB1 fB1 lB2 cB2 fB2 lB3 cB3 fB3
 replace B1:=h! (B1.out.later hb)
 replace B2:=h! (B2.out.later hb)
 replace B3:=h! (B3.out.later hb)
 replace HW:=h! (HW.out.trans (hb.mono HW.out.size))
 clear hb
 obtain ⟨lB1,cB1,fB1⟩:=B1.out
 obtain ⟨lB2,cB2,fB2⟩:=B2.out
 obtain ⟨lB3,cB3,fB3⟩:=B3.out
 go_upto_region 3 with (fail)
 clear lB1 cB1 fB1 lB2 cB2 fB2 lB3 cB3 fB3
 have hO_:=(Only.set w2 (w.heap.size+1+1) 0 (.slice pa2 np pc2))
 replace B1:=h! (B1.out.only hO_ (by first | assumption | (simp;done) | omega))
 replace B2:=h! (B2.out.only hO_ (by first | assumption | (simp;done) | omega))
 replace HQ:=h! (HQ.out.other (p:=⟨w.heap.size+1+1,0,none⟩) (.slice pa2 np pc2) (by simp))
 replace HW:=h! (hO_.2.2 HW.out (by first | assumption | omega | (have:=HW.out.size;omega) | (simp;done) | (simp;omega)))
 replace B3:=h! (Box.to (A':=#[(.slice pa2 np pc2),.int .i64 ar,.int .i64 ce,.slice ab nb cb]) (B3.out.set 0 (.slice pa2 np pc2)) (by first | rfl | simp))
 clear hO_
 generalize (w2.setCell ⟨w.heap.size+1+1,0,none⟩ (.slice pa2 np pc2))=w3 at *
 obtain ⟨lB1,cB1,fB1⟩:=B1.out
 obtain ⟨lB2,cB2,fB2⟩:=B2.out
 obtain ⟨lB3,cB3,fB3⟩:=B3.out
 have hl3:w.heap.size+3 <= w3.heap.size:=by omega
 have HL3:=h! hl3
 have HQ3:=h! HQ.out.lt
 clear hl3
 go_upto_region 4 with (at_make;refine mY rfl _ _ rfl nb rfl rfl rfl rfl hnb ?_;intro w4 hmk hgr;have hB3:=B3.out.later hgr;obtain ⟨lx,cx,fx⟩:=hB3)
 clear lx cx fx
 have HMK:Hid (Holds [w.heap.size,w.heap.size+1,w.heap.size+1+1] (w.heap.size+3) w4 (Foot.one w3.heap.size) (fun W=>eU W (Foot.one w3.heap.size) (.slice (some ⟨w3.heap.size,0,none⟩) nb nb) (List.replicate nb rZ))):=h! ((jY OBlock.nice hmk (fun k hk=>by cases hk;exact HL3.out)).low (by simp))
 clear hmk
 clear lB1 cB1 fB1 lB2 cB2 fB2 lB3 cB3 fB3
 replace B1:=h! (B1.out.later hgr)
 replace B2:=h! (B2.out.later hgr)
 replace B3:=h! (B3.out.later hgr)
 replace HQ:=h! (HQ.out.later hgr)
 replace HW:=h! (HW.out.trans (hgr.mono HW.out.size))
 clear hgr
 obtain ⟨lB1,cB1,fB1⟩:=B1.out
 obtain ⟨lB2,cB2,fB2⟩:=B2.out
 obtain ⟨lB3,cB3,fB3⟩:=B3.out
 clear lB1 cB1 fB1 lB2 cB2 fB2 lB3 cB3 fB3
 have hO_:=(Only.set w4 (w.heap.size+1+1) 3 (.slice (some ⟨w3.heap.size,0,none⟩) nb nb))
 replace B1:=h! (B1.out.only hO_ (by first | assumption | (simp;done) | omega))
 replace B2:=h! (B2.out.only hO_ (by first | assumption | (simp;done) | omega))
 replace HQ:=h! (HQ.out.other (p:=⟨w.heap.size+1+1,3,none⟩) (.slice (some ⟨w3.heap.size,0,none⟩) nb nb) (by simp))
 replace HMK:=h! (HMK.out.other (p:=⟨w.heap.size+1+1,3,none⟩) (.slice (some ⟨w3.heap.size,0,none⟩) nb nb) (by simp))
 replace HW:=h! (hO_.2.2 HW.out (by first | assumption | omega | (have:=HW.out.size;omega) | (simp;done) | (simp;omega)))
 replace B3:=h! (Box.to (A':=#[(.slice pa2 np pc2),.int .i64 ar,.int .i64 ce,(.slice (some ⟨w3.heap.size,0,none⟩) nb nb)]) (B3.out.set 3 (.slice (some ⟨w3.heap.size,0,none⟩) nb nb)) (by first | rfl | simp))
 clear hO_
 generalize (w4.setCell ⟨w.heap.size+1+1,3,none⟩ (.slice (some ⟨w3.heap.size,0,none⟩) nb nb))=w5 at *
 obtain ⟨lB1,cB1,fB1⟩:=B1.out
 obtain ⟨lB2,cB2,fB2⟩:=B2.out
 obtain ⟨lB3,cB3,fB3⟩:=B3.out
 obtain ⟨gB,hgB⟩ : ∃ g,g=w3.heap.size:=⟨_,rfl⟩
 rw [<-hgB] at HMK B3 HL3 HQ3
 have HQM:Hid (SQ.off (Foot.one gB)):=h! (fun k h1 h2=>by cases h2;have:=HQ3.out _ h1;omega)
 simp only [<-hgB]
 clear hgB HQ3
 go_wp2_with fail
 go_loopw [19] (fun i wr => ∃ (j:Nat) (SB:Foot),j <= nb/\i = .int .i64 j/\Below w.heap.size w wr/\Box wr w.heap.size #[.slice ap np cp,.int .i64 ar,.int .i64 ce,.slice ab nb cb]/\Box wr (w.heap.size+1) #[.slice none 0 0,.int .i64 0,.int .i64 0,.slice none 0 0]/\Box wr (w.heap.size+1+1) #[.slice pa2 np pc2,.int .i64 ar,.int .i64 ce,.slice (some ⟨gB,0,none⟩) nb nb] /\
   Holds [w.heap.size,w.heap.size+1,w.heap.size+1+1] (w.heap.size+3) wr SQ (fun W=>eP W SQ (.slice pa2 np pc2) f.params)/\Holds [w.heap.size,w.heap.size+1,w.heap.size+1+1] (w.heap.size+3) wr SB (fun W=>eU W SB (.slice (some ⟨gB,0,none⟩) nb nb) (f.blocks.take j ++ List.replicate (nb - j) rZ))/\SQ.off SB) (fun i _=>nb - (intOf i).toNat)
 case atStart=>exact ⟨0,Foot.one gB,Nat.zero_le _,rfl,HW.out,B1.out,B2.out,B3.out,HQ.out,by simpa using HMK.out,HQM.out⟩
 obtain ⟨j,SB,hj,rfl,hW,h1,h2,h3,h4,h5,h6⟩:=hrel
 clear lB1 cB1 fB1 lB2 cB2 fB2 lB3 cB3 fB3
 replace HW:=h! hW
 replace B1:=h! h1
 replace B2:=h! h2
 replace B3:=h! h3
 replace HQ:=h! h4
 have HBS:=h! h5
 have HQB:=h! h6
 clear hW h1 h2 h3 h4 h5 h6 HMK HQM
 generalize wr=w6 at *
 obtain ⟨lB1,cB1,fB1⟩:=B1.out
 obtain ⟨lB2,cB2,fB2⟩:=B2.out
 obtain ⟨lB3,cB3,fB3⟩:=B3.out
 by_cases hlt:j < nb
 ·obtain ⟨rfl,hbp⟩:=HBA.out (by omega)
  obtain ⟨x,hxm⟩ : ∃ x,f.blocks[j]? = some x:=⟨_,aC (by have:=HNB.out;omega)⟩
  obtain ⟨api,aii,ati,cpi,cii,cti,hC⟩:=HBX.out j x hxm
  have HBV:=h! hC.blockV
  obtain ⟨k0,k1,k2,k3,k4,k5, -, -, -, -, -, -⟩:=hC.below HW.out hbp
  have HSX:=h! (HSZ.out x (aG hxm))
  have HST:=h! (aB4 (z:=rZ) hxm)
  rw [<-HNB.out] at HST
  clear hxm hC
  have HB4L:Hid (∀ k,SB k -> k < w6.heap.size):=h! HBS.out.lt
  have HQ4L:Hid (∀ k,SQ k -> k < w6.heap.size):=h! HQ.out.lt
  have hl6:w.heap.size+3 <= w6.heap.size:=by omega
  go_upto_region 7 with (fail)
  have nBLB1:w6.heap.size ≠ w.heap.size:=fun e=>by have:=lB1;omega
  have nB1BL:w.heap.size ≠ w6.heap.size:=fun e=>nBLB1 e.symm
  have nBLB2:w6.heap.size ≠ w.heap.size+1:=fun e=>by have:=lB2;omega
  have nB2BL:w.heap.size+1 ≠ w6.heap.size:=fun e=>nBLB2 e.symm
  have nBLB3:w6.heap.size ≠ w.heap.size+1+1:=fun e=>by have:=lB3;omega
  have nB3BL:w.heap.size+1+1 ≠ w6.heap.size:=fun e=>nBLB3 e.symm
  clear lB1 cB1 fB1 lB2 cB2 fB2 lB3 cB3 fB3
  have hA_:=(Below.refl w6.heap.size w6).alloc (aA _) (.cells #[.slice api x.phis.length cpi,.slice aii x.code.length cii,.int .i64 x.term.op,.int .i64 x.term.val,.slice ati x.term.to.length cti,.int .i64 x.term.n] 63)
  replace B1:=h! (B1.out.later hA_)
  replace B2:=h! (B2.out.later hA_)
  replace B3:=h! (B3.out.later hA_)
  replace HQ:=h! (HQ.out.later hA_)
  replace HBS:=h! (HBS.out.later hA_)
  replace HW:=h! (HW.out.trans (hA_.mono HW.out.size))
  clear hA_
  have BL:=h! (Box.new w6 #[.slice api x.phis.length cpi,.slice aii x.code.length cii,.int .i64 x.term.op,.int .i64 x.term.val,.slice ati x.term.to.length cti,.int .i64 x.term.n] 63)
  generalize w6.alloc (.cells #[.slice api x.phis.length cpi,.slice aii x.code.length cii,.int .i64 x.term.op,.int .i64 x.term.val,.slice ati x.term.to.length cti,.int .i64 x.term.n] 63)=w7 at *
  obtain ⟨lB1,cB1,fB1⟩:=B1.out
  obtain ⟨lB2,cB2,fB2⟩:=B2.out
  obtain ⟨lB3,cB3,fB3⟩:=B3.out
  obtain ⟨lBL,cBL,fBL⟩:=BL.out
  clear k0 k1 k2 k3 k4 k5
  have HL7:Hid (w6.heap.size <= w7.heap.size):=h! (by have:=BL.out.lt;omega)
  refine Four.wp_region_grow (XF:=(fun _=>Foot.none)) (I:=(fun _=>True)) 5 (fun ν kz=>match kz with | 4=>.holds (fun u w' => ∃ (pv uv tv:Value) (S:Foot),u = .agg #[pv,uv,.int .i64 x.term.op,.int .i64 x.term.val,tv,.int .i64 x.term.n]/\Holds [] w7.heap.size w' S (fun W=>OBlock W S [pv,uv,.int .i64 x.term.op,.int .i64 x.term.val,tv,.int .i64 x.term.n] x)) | _=>.plain) (by kernel_rfl) (by kernel_rfl) ?_ ?_ (fun _ _ h=>h.elim) (fun _ _ _ _=>trivial) trivial ?_ (fun ν => ?_)
  ·(intro ν k;(try dsimp only);split <;> first | exact True.intro | (intro u w1 w2 hu hb;(obtain ⟨pv,uv,tv,S,h1,h2⟩:=hu;exact ⟨pv,uv,tv,S,h1,h2.off hb (fun _ _ ⟨_,_,h⟩=>h.elim)⟩)))
  ·(intro ν ν' k h;first | rfl | ((try dsimp only);split <;> first | rfl))
  ·(intro ν j B mk A h;(try dsimp only at h);split at h <;> first | (cases h;exact Nat.le_refl _) | cases h)
  simp only [aO,aV,aS,aX]
  iterate 4 (refine Four.Grow.val (v := ?_) rfl rfl (fun wg hbg hdg => ?_) ?_;rotate_left;(focus ((obtain ⟨lg0,cg0,fg0⟩:=B1.out.off hbg.off (fun ⟨_,h⟩=>h.elim));(obtain ⟨lg1,cg1,fg1⟩:=B2.out.off hbg.off (fun ⟨_,h⟩=>h.elim));(obtain ⟨lg2,cg2,fg2⟩:=B3.out.off hbg.off (fun ⟨_,h⟩=>h.elim));(obtain ⟨lg3,cg3,fg3⟩:=BL.out.off hbg.off (fun ⟨_,h⟩=>h.elim));clear hbg hdg;first | (go_simp;done) | (go_simp;with_reducible rfl)));simp only [Act.put,aB,aE,aF])
  refine Four.Grow.call (f := ?_) (args := ?_) rfl (fun wg => ?_) (fun wg hbg hdg => ?_) ?_
  rotate_left 2
  focus (first | (go_simp;done) | (go_simp;refine And.intro ?_ ?_ <;> with_reducible rfl) | (go_simp;with_reducible rfl))
  focus (exact (zQ (HBV.out.below (HW.out.trans ((pre0 hbg).mono HW.out.size))) HSX.out.1 HSX.out.2).mono (fun e w2 ⟨pv,uv,tv,S,he,hO,hF,hw⟩=>⟨_,he,⟨pv,uv,tv,S,rfl,(iO OBlock.nice hO hF).from hbg.1.size⟩,hw⟩))
  simp only [Act.put,Known.val,aB,aE,aF]
  intro wg hb hf hap
  clear hap
  clear lB1 cB1 fB1 lB2 cB2 fB2 lB3 cB3 fB3 lBL cBL fBL
  replace B1:=h! (B1.out.off hb.1 (fun ⟨_,h⟩=>h.elim))
  replace B2:=h! (B2.out.off hb.1 (fun ⟨_,h⟩=>h.elim))
  replace B3:=h! (B3.out.off hb.1 (fun ⟨_,h⟩=>h.elim))
  replace BL:=h! (BL.out.off hb.1 (fun ⟨_,h⟩=>h.elim))
  replace HQ:=h! (HQ.out.off hb.1 (fun _ _ ⟨_,h⟩=>h.elim))
  replace HBS:=h! (HBS.out.off hb.1 (fun _ _ ⟨_,h⟩=>h.elim))
  replace HW:=h! (HW.out.trans (hb.1.below HW.out.size (fun _ _ ⟨_,h⟩=>h.elim)))
  obtain ⟨lB1,cB1,fB1⟩:=B1.out
  obtain ⟨lB2,cB2,fB2⟩:=B2.out
  obtain ⟨lB3,cB3,fB3⟩:=B3.out
  obtain ⟨lBL,cBL,fBL⟩:=BL.out
  simp only [bE,Nat.reduceAdd]
  have h4:∃ (pv uv tv:Value) (S:Foot), ν 4 = .agg #[pv,uv,.int .i64 x.term.op,.int .i64 x.term.val,tv,.int .i64 x.term.n]/\Holds [] w7.heap.size wg S (fun W=>OBlock W S [pv,uv,.int .i64 x.term.op,.int .i64 x.term.val,tv,.int .i64 x.term.n] x):=hf 4 (by omega)
  obtain ⟨pv,uv,tv,SN,e4,k4⟩:=h4
  obtain ⟨⟨_,_,_,S1,S2,S3,e5,o1,o2,o3, -⟩, -⟩:=k4.now
  obtain ⟨⟨tv',e6,o4⟩, -⟩:=o3
  cases e5
  cases e6
  obtain ⟨pa,pcc,rfl⟩:=(o1.reads (R0:=PhiR) fun _ _ _ h=>h.reads).form
  obtain ⟨ua,ucc,rfl⟩:=(o2.reads (R0:=gW) fun _ _ _ h=>h.reads).form
  obtain ⟨tta,ttc,rfl⟩:=o4.ints.form
  simp only [e4]
  have K4:=h! k4
  clear e4 k4 hf o1 o2 o4 hb
  obtain ⟨g,cap,z1,z2,z3,z4,z5,z6,T1,T2,T3,hv,hgl,hSg,hC,hfr, -⟩:=HBS.out.now.open HST.out.1
  obtain ⟨rfl,rfl⟩ : gB=g/\nb=cap:=by injection hv with h1 h2 h3;injection h1 with h1;injection h1 with h1;exact ⟨h1,h3⟩
  obtain ⟨c0,c1,c2,c3,c4,c5, -, -, -, -, -, -⟩:=hC
  have HSG:=h! hSg
  have HNS:Hid (SN.off SB):=h! (fun k h1 h2=>by have:=HB4L.out k h2;have:=K4.out.base k h1;have:=HL7.out;omega)
  have HNQ:Hid (SQ.off SN):=h! (fun k h1 h2=>by have:=HQ4L.out k h1;have:=K4.out.base k h2;have:=HL7.out;omega)
  have HPUT:=h! (nP HBS.out.now HST.out.1 hv K4.out.now HNS.out)
  have HOFF:=h! (nZ wg gB (j * 6) (.slice pa x.phis.length pcc) (.slice ua x.code.length ucc) (.int .i64 x.term.op) (.int .i64 x.term.val) (.slice tta x.term.to.length ttc) (.int .i64 x.term.n))
  unfold put6 at HPUT HOFF
  rw [HST.out.2] at HPUT
  clear hv hgl hSg
  go_upto_region 8 with (fail)
  clear c0 c1 c2 c3 c4 c5 hfr
  clear lB1 cB1 fB1 lB2 cB2 fB2 lB3 cB3 fB3 lBL cBL fBL
  generalize ((((((wg.setCell ⟨gB,j * 6,none⟩ (.slice pa x.phis.length pcc)).setCell ⟨gB,j * 6+1,none⟩ (.slice ua x.code.length ucc)).setCell ⟨gB,j * 6+2,none⟩ (.int .i64 x.term.op)).setCell ⟨gB,j * 6+3,none⟩ (.int .i64 x.term.val)).setCell ⟨gB,j * 6+4,none⟩ (.slice tta x.term.to.length ttc)).setCell ⟨gB,j * 6+5,none⟩ (.int .i64 x.term.n))=w8 at *
  replace B1:=h! (B1.out.off HOFF.out (fun h=>HBS.out.free _ HSG.out (by rw [<-h];simp)))
  replace B2:=h! (B2.out.off HOFF.out (fun h=>HBS.out.free _ HSG.out (by rw [<-h];simp)))
  replace B3:=h! (B3.out.off HOFF.out (fun h=>HBS.out.free _ HSG.out (by rw [<-h];simp)))
  replace HQ:=h! (HQ.out.off HOFF.out (fun k h1 h2=>HQB.out k h1 (by cases h2;exact HSG.out)))
  replace HW:=h! (HW.out.trans (HOFF.out.below HW.out.size (fun k _ hk=>by cases hk;have:=HBS.out.base _ HSG.out;omega)))
  have HBS2:Hid (Holds [w.heap.size,w.heap.size+1,w.heap.size+1+1] (w.heap.size+3) w8 (fun k=>SB k \/ SN k) (fun W=>eU W (fun k=>SB k \/ SN k) (.slice (some ⟨gB,0,none⟩) nb nb) (f.blocks.take (j+1) ++ List.replicate (nb - (j+1)) rZ))) :=
   h! ((jY OBlock.nice HPUT.out (fun k hk=>by rcases hk with hk | hk;exact HBS.out.base k hk;have:=K4.out.base k hk;have:=HL7.out;omega)).low (by simp))
  replace HQB:Hid (SQ.off (fun k=>SB k \/ SN k)):=h! (fun k h1 h2=>by rcases h2 with h2 | h2;exact HQB.out k h1 h2;exact HNQ.out k h1 h2)
  clear HBS HPUT HOFF K4 BL
  obtain ⟨lB1,cB1,fB1⟩:=B1.out
  obtain ⟨lB2,cB2,fB2⟩:=B2.out
  obtain ⟨lB3,cB3,fB3⟩:=B3.out
  go_wp2
  go_roundw
  case rel=>exact ⟨j+1,_,hlt,by go_num,HW.out,B1.out,B2.out,B3.out,HQ.out,HBS2.out,HQB.out⟩
  simp [intOf];omega
 have hjn:j=nb:=by omega
 have HBF:Hid (Holds [w.heap.size,w.heap.size+1,w.heap.size+1+1] (w.heap.size+3) w6 SB (fun W=>eU W SB (.slice (some ⟨gB,0,none⟩) nb nb) f.blocks)):=h! (by
  have h9:=HBS.out
  rw [hjn,dU,aH (by have:=HNB.out;omega)] at h9
  simpa using h9)
 clear HBS hjn
 go_wp2
 clear lB1 cB1 fB1 lB2 cB2 fB2 lB3 cB3 fB3
 have hO_:=((((Only.set w6 (w.heap.size+1) 0 (.slice pa2 np pc2)).put 1 (.int .i64 ar)).put 2 (.int .i64 ce)).put 3 (.slice (some ⟨gB,0,none⟩) nb nb))
 replace B1:=h! (B1.out.only hO_ (by first | assumption | (simp;done) | omega))
 replace B3:=h! (B3.out.only hO_ (by first | assumption | (simp;done) | omega))
 replace HQ:=h! ((((HQ.out.other (p:=⟨w.heap.size+1,0,none⟩) (.slice pa2 np pc2) (by simp)).other (p:=⟨w.heap.size+1,1,none⟩) (.int .i64 ar) (by simp)).other (p:=⟨w.heap.size+1,2,none⟩) (.int .i64 ce) (by simp)).other (p:=⟨w.heap.size+1,3,none⟩) (.slice (some ⟨gB,0,none⟩) nb nb) (by simp))
 replace HBF:=h! ((((HBF.out.other (p:=⟨w.heap.size+1,0,none⟩) (.slice pa2 np pc2) (by simp)).other (p:=⟨w.heap.size+1,1,none⟩) (.int .i64 ar) (by simp)).other (p:=⟨w.heap.size+1,2,none⟩) (.int .i64 ce) (by simp)).other (p:=⟨w.heap.size+1,3,none⟩) (.slice (some ⟨gB,0,none⟩) nb nb) (by simp))
 replace HW:=h! (hO_.2.2 HW.out (by first | assumption | omega | (have:=HW.out.size;omega) | (simp;done) | (simp;omega)))
 replace B2:=h! (Box.to (A':=#[(.slice pa2 np pc2),(.int .i64 ar),(.int .i64 ce),(.slice (some ⟨gB,0,none⟩) nb nb)]) ((((B2.out.set 0 (.slice pa2 np pc2)).set 1 (.int .i64 ar)).set 2 (.int .i64 ce)).set 3 (.slice (some ⟨gB,0,none⟩) nb nb)) (by first | rfl | simp))
 clear hO_
 generalize ((((w6.setCell ⟨w.heap.size+1,0,none⟩ (.slice pa2 np pc2)).setCell ⟨w.heap.size+1,1,none⟩ (.int .i64 ar)).setCell ⟨w.heap.size+1,2,none⟩ (.int .i64 ce)).setCell ⟨w.heap.size+1,3,none⟩ (.slice (some ⟨gB,0,none⟩) nb nb))=w7 at *
 obtain ⟨lB1,cB1,fB1⟩:=B1.out
 obtain ⟨lB2,cB2,fB2⟩:=B2.out
 obtain ⟨lB3,cB3,fB3⟩:=B3.out
 refine bodyPost_ret (v:=.agg #[.slice pa2 np pc2,.int .i64 ar,.int .i64 ce,.slice (some ⟨gB,0,none⟩) nb nb]) (by simp [results,Tryz.results48,go_sem, *]) rfl ⟨_,fun q=>SQ q \/ SB q,rfl,⟨⟨_,_,SQ,SB,by rw [HAC.out.1,HAC.out.2],HQ.out.now,HBF.out.now,HQB.out,fun k h=>.inl h,fun k h=>.inr h⟩,fun k hk=>hk.elim (HQ.out.lt k) (HBF.out.lt k),H64.out.1,H64.out.2⟩,fun k hk => ?_,HW.out⟩
 rcases hk with hk | hk
 ·have:=HQ.out.base k hk;omega
 have:=HBF.out.base k hk;omega
theorem fZ.open {W:World} {S:Foot} {v:Value} {ps:List PhiD} (h:fZ W S v ps) {j:Nat} {p:PhiD} (hj:ps[j]? = some p) :
  ∃ (g cap:Nat) (af av:Option Addr) (cf cv:Nat) (cs:List Value) (G Sf Sv:Foot),v = .slice (some ⟨g,0,none⟩) ps.length cap/\g < W.heap.size/\G g/\(∀ k,G k -> S k)/\PhiC W g (j * 4) p af av cf cv/\(∀ o,W.frozen? ⟨g,o,none⟩=false)/\cs[j * 4+2]? = some (.slice af p.src.length cf)/\cs[j * 4+3]? = some (.slice av p.vals.length cv) /\
   ORow W G 78 4 v ps.length cs/\eP W Sf (.slice af p.src.length cf) p.src/\eP W Sv (.slice av p.vals.length cv) p.vals/\(∀ k,Sf k -> S k)/\(∀ k,Sv k -> S k)/\Sf.off Sv/\Sf.off G/\Sv.off G /\
   (∀ (W' : World) (u2 u3:Value) (src vals:List Int) (Sf' Sv' : Foot),Off (G.or (Sf.or Sv)) W W' -> ORow W' G 78 4 v ps.length ((cs.set (j * 4+2) u2).set (j * 4+3) u3) -> eP W' Sf' u2 src -> eP W' Sv' u3 vals -> Sf'.off Sv' ->
    (∀ k,Sf' k -> Sf k \/ W.heap.size <= k) -> (∀ k,Sv' k -> Sv k \/ W.heap.size <= k) -> fZ W' (fun k=>S k \/ Sf' k \/ Sv' k) v (ps.set j { p with src:=src,vals:=vals })):=by
 obtain ⟨cs,G,F,hp⟩:=h
 have hjl:=(aD.1 hj).1
 have hn:0 < ps.length:=by omega
 obtain ⟨g,cap,hv,hG, -, -,hgl,hcell,hfr⟩:=hp.row.addr hn
 obtain ⟨⟨a,b,Sf,Sv,hch,h1,h2,h12,i1,i2⟩,hFl,q1,q2⟩:=hp.el j p hj
 obtain ⟨af,cf,rfl⟩:=h1.ints.form
 obtain ⟨av,cv,rfl⟩:=h2.ints.form
 have hc:∀ o u,o < 4 -> (iM cs 4 j)[o]? = some u -> W.cell? ⟨g,j * 4+o,none⟩=some u:=fun o u ho hu=>hcell _ _ (by rw [<-jM ho];exact hu)
 have hch2:=hch
 rw [hch] at hc
 have nG:∀ k,F j k -> ¬ G k:=hp.free j hjl
 have inS:∀ k,F j k -> S k:=fun k hk=>hp.inF j k hjl hk
 refine ⟨g,cap,af,av,cf,cv,cs,G,Sf,Sv,hv,hgl,hG,hp.inG,⟨hc 0 _ (by omega) rfl,hc 1 _ (by omega) rfl,hc 2 _ (by omega) rfl,hc 3 _ (by omega) rfl,h1.ints,h2.ints,q1,q2⟩,hfr,by rw [<-jM (by omega),hch2];rfl,by rw [<-jM (by omega),hch2];rfl,hp.row,h1,h2,
  fun k hk=>inS k (i1 k hk),fun k hk=>inS k (i2 k hk),h12,fun k a b=>nG k (i1 k a) b,fun k a b=>nG k (i2 k a) b,fun W' u2 u3 src vals Sf' Sv' ho hrow ha hb hab hf' hv' => ?_⟩
 have ho2:Off (G.or (F j)) W W':=ho.mono fun k _ hk=>by
  rcases hk with hk | hk | hk
  ·exact .inl hk
  ·exact .inr (i1 k hk)
  exact .inr (i2 k hk)
 refine ⟨_,G,_,hp.put OPhi.nice hj { p with src:=src,vals:=vals } (Fj:=fun k=>Sf' k \/ Sv' k) ho2 hrow (fun i hi hne => ?_) ?_ (fun k hk => ?_) _ (fun k hk=>.inl hk) (fun k hk=>.inr hk) (fun k hk => ?_)⟩
 ·rw [iC hne (by omega),iC hne (by omega)]
 ·rw [eZ (by omega),eZ (by omega),hch2]
  exact ⟨⟨u2,u3,Sf',Sv',rfl,ha,hb,hab,fun k h=>.inl h,fun k h=>.inr h⟩,fun k hk=>hk.elim (ha.lt k) (hb.lt k),q1,q2⟩
 ·rcases hk with hk | hk
  ·rcases hf' k hk with c | c
   ·exact .inl (i1 k c)
   exact .inr fun hs=>by have:=hp.lt k hs;omega
  rcases hv' k hk with c | c
  ·exact .inl (i2 k c)
  exact .inr fun hs=>by have:=hp.lt k hs;omega
 ·rcases hk with hk | hk | hk
  ·exact bC (hp.lt k hk) ho.size
  ·exact ha.lt k hk
  exact hb.lt k hk
theorem eP.addr {W:World} {S:Foot} {v:Value} {xs:List Int} (h:eP W S v xs) {i:Nat} {x:Int} (hi:xs[i]? = some x) :
  ∃ g cap,v = .slice (some ⟨g,0,none⟩) xs.length cap/\S g/\g < W.heap.size/\W.cell? ⟨g,i,none⟩=some (.int .i64 x)/\(∀ o,W.frozen? ⟨g,o,none⟩=false) /\ ∀ y,In64 y -> eP (W.setCell ⟨g,i,none⟩ (.int .i64 y)) S v (xs.set i y):=by
 have hil:=(aD.1 hi).1
 obtain ⟨g,cap,hv,hG, -, -,hgl,hcell,hfr⟩:=h.1.addr (by omega)
 exact ⟨g,cap,hv,hG,hgl,hcell i _ (by rw [aR,hi];rfl),hfr,fun y hy=>h.set hv hil hy⟩
def jF:FuncD:=⟨[],0,0,[]⟩
theorem getD_some {α : Type} {l:List α} {i:Nat} {x d : α} (h:l[i]? = some x):l.getD i d=x:=by rw [aN,h];rfl
theorem Off.grow {S S' : Foot} {A B C:World} (h:Off S A B) (k:Off S' B C) (hs:∀ q,S' q -> S q \/ A.heap.size <= q):Off S A C :=
 ⟨k.os.trans h.os,k.tape.trans h.tape,k.output.trans h.output,bJ h.size k.size,fun i hi hn=>(k.block i (bC hi h.size) fun hm=>(hs i hm).elim hn (fun h=>by omega)).trans (h.block i hi hn)⟩
theorem OFunc.zero {W:World}:OFunc W Foot.none (.agg #[.slice none 0 0,.int .i64 0,.int .i64 0,.slice none 0 0]) jF :=
 ⟨⟨_,_,Foot.none,Foot.none,rfl,eP.nil none,OSl.nil none,fun _ h=>h.elim,fun _ h=>h.elim,fun _ h=>h.elim⟩,fun _ h=>h.elim,⟨by decide,by decide⟩,⟨by decide,by decide⟩⟩
theorem Off.cell {S:Foot} {W W' : World} (h:Off S W W') {b o:Nat} (hl:b < W.heap.size) (hn:¬ S b):W'.cell? ⟨b,o,none⟩=W.cell? ⟨b,o,none⟩:=World.cell?_of_block (w:=W) (a:=⟨b,o,none⟩) (h.block b hl hn)
theorem mC {f:FuncD} (hc:eQ f=0):(∀ x ∈ f.blocks,x.phis.length <= 100000/\x.code.length <= 100000)/\f.blocks.length <= 100000:=by
 have hf:=(eW hc).1
 have hs:=(kC hf).size
 have hn:=(iJ hf).2
 refine ⟨fun x hx => ?_,by omega⟩
 have h1:gR x <= kS f:=by
  unfold kS
  have:∀ (l:List BlockD),x ∈ l -> gR x <= (l.map gR).sum/\0 <= (l.map gR).sum:=by
   intro l
   induction l with
   | nil=>intro h;cases h
   | cons y l ih =>
    intro h
    have hy:0 <= gR y:=by unfold gR;omega
    have hnn:∀ (l:List BlockD),0 <= (l.map gR).sum:=by
     intro l
     induction l with
     | nil=>simp
     | cons z l ih=>have:0 <= gR z:=(by unfold gR;omega);simp only [cY,List.sum_cons];omega
    have:=hnn l
    simp only [cY,List.sum_cons]
    rcases bR.1 h with rfl | h
    ·omega
    have:=(ih h).1;omega
  exact (this _ hx).1
 unfold gR at h1
 omega
end
end Go.Proofs.YtagabiidbbhhmaaGreat
