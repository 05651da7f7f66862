/- Part 44. -/
import Derived.Test.YtagabiidbbhhmaaGreatER31
import Derived.Test.YtagabiidbbhhmaaGreatER42
namespace Go.Proofs.YtagabiidbbhhmaaGreat
set_option linter.all false
section
open Go.RowKit
def sG:BlockD:=⟨[],[],⟨0,0,[],0⟩⟩
def lR:List Value:=[.slice none 0 0,.slice none 0 0,.int .i64 0,.int .i64 0,.slice none 0 0,.int .i64 0]
theorem OBlock.zero {W:World}:OBlock W Foot.none lR sG :=
 ⟨⟨_,_,_,Foot.none,Foot.none,Foot.none,rfl,OSl.nil none,OSl.nil none,⟨⟨_,rfl,eU.nil none⟩,⟨by decide,by decide⟩,⟨by decide,by decide⟩,⟨by decide,by decide⟩⟩,fun _ h=>h.elim,fun _ h=>h.elim,fun _ h=>h.elim,fun _ h=>h,fun _ h=>h,fun _ h=>h⟩,fun _ h=>h.elim⟩
theorem aAE (n j:Nat) (hj:j < n):iR (madeCells lR.toArray (n * 6)).toList 6 j=lR:=by
 unfold iR madeCells
 apply bJ
 intro k
 rw [bC]
 by_cases hk:k < 6
 ·rw [if_pos hk,bT]
  have h1:j * 6+k < n * 6:=by omega
  have h2:(j * 6+k) % 6=k:=by omega
  simp only [Array.toList_map,Array.toList_range,aQ,dY h1,cR]
  have hs:lR.toArray.size=6:=rfl
  rw [hs,h2]
  rcases k with _ | _ | _ | _ | _ | _ | k
  all_goals first | rfl | omega
 rw [if_neg hk,aT (by show 6 <= k;omega)]
theorem sH {W:World} {base g n:Nat} (h:W.ownsRow base 63 6 (.slice (some ⟨g,0,none⟩) n n) n (madeCells lR.toArray (n * 6)).toList) (hn:n <= 17592186044416) (hg:g < W.heap.size) :
  fA W (Foot.one g) (.slice (some ⟨g,0,none⟩) n n) (List.replicate n sG):=by
 refine ⟨_,Foot.one g,fun _=>Foot.none,ORow.of_own (by rw [aR];exact h) (by rw [aR];exact hn) (fun k hk=>by cases hk;rfl) (fun k hk=>by cases hk;exact hg),fun j x hj => ?_,fun _ _ _ _ _ _ h=>h.elim,fun _ _ _ h=>h.elim,fun _ h=>h,fun _ _ _ h=>h.elim,fun k hk=>by cases hk;exact hg⟩
 have aa:=(aF.1 hj).1
 rw [aR] at aa
 have hx:x=sG:=cV (aG hj)
 rw [hx,aAE n j aa]
 exact OBlock.zero
theorem mX {w:World} {ops:Array Oper} {rest:List Oper} {o:Oper} {a:Act} {Q:Exit -> Act -> World -> Prop} (hg:o.guard=none) (l c:Operand) (hop:o.op=Op.makeSlice 23 l c) (n:Nat) {L C:Int}
  (hl:a.eval l = .int .i64 L) (hc:a.eval c = .int .i64 C) (hL:L=n) (hC:C=n) (hn:n <= 100000)
  (hK:∀ w',fA w' (Foot.one w.heap.size) (.slice (some ⟨w.heap.size,0,none⟩) n n) (List.replicate n sG) -> Below w.heap.size w w' -> wpList Tryz.prog ops Q rest (a.put o.dst (.slice (some ⟨w.heap.size,0,none⟩) n n)) w') :
  wpList Tryz.prog ops Q (o :: rest) a w:=by
 obtain ⟨ht,⟨i,hi,hz,ab,ac⟩,hzc,hp⟩:=rE
 refine wpList_make_full w hg l c _ hop w.heap.size _ i _ 6 ht hi hz ab .i64 .i64 L C n hl hc hL hC (by rw [ac];omega) (by unfold maxLen;omega) (aB _) fun w' h1 h2 => ?_
 have aa:w.heap.size < w'.heap.size:=by
  rcases h1.2 with ⟨h,_⟩ | ⟨g,cap,cur,h,_,hh,_⟩
  ·cases h
  cases h;exact (aN.1 hh).1
 exact hK w' (sH h1 (by omega) aa) ((Below.refl _ _).grown h2 (aB _) (by simp))
theorem set6 {l:List Value} (h:l.length=6) (a b c d e f:Value):(((((l.set 0 a).set 1 b).set 2 c).set 3 d).set 4 e).set 5 f=[a,b,c,d,e,f]:=by
 match l,h with
 | [_,_,_,_,_,_],_=>rfl
theorem set4 {l:List Value} (h:l.length=4) (a b c d:Value):(((l.set 0 a).set 1 b).set 2 c).set 3 d=[a,b,c,d]:=by
 match l,h with
 | [_,_,_,_],_=>rfl
def put6 (W:World) (g o:Nat) (a b c d e f:Value):World:=(((((W.setCell ⟨g,o,none⟩ a).setCell ⟨g,o+1,none⟩ b).setCell ⟨g,o+2,none⟩ c).setCell ⟨g,o+3,none⟩ d).setCell ⟨g,o+4,none⟩ e).setCell ⟨g,o+5,none⟩ f
theorem qQ (W:World) (g o:Nat) (a b c d e f:Value):Off (Foot.one g) W (put6 W g o a b c d e f) :=
 (((((Off.set W ⟨g,o,none⟩ a).trans (Off.set _ ⟨g,o+1,none⟩ b)).trans (Off.set _ ⟨g,o+2,none⟩ c)).trans (Off.set _ ⟨g,o+3,none⟩ d)).trans (Off.set _ ⟨g,o+4,none⟩ e)).trans (Off.set _ ⟨g,o+5,none⟩ f)
theorem sI {W:World} {S:Foot} {v:Value} {xs:List BlockD} (h:fA W S v xs) {j:Nat} {y x:BlockD} (hj:xs[j]? = some y) {g cap:Nat} (hv:v = .slice (some ⟨g,0,none⟩) xs.length cap)
  {a b c d e f:Value} {Fn:Foot} (hx:OBlock W Fn [a,b,c,d,e,f] x) (hF:Fn.off S):fA (put6 W g (j * 6) a b c d e f) (fun k=>S k \/ Fn k) v (xs.set j x):=by
 obtain ⟨cs,G,F,hp⟩:=h
 have ad:=(aF.1 hj).1
 have hn:0 < xs.length:=by omega
 have hG:G g:=by
  obtain ⟨g',cap',ab,ac, -⟩:=hp.row.addr hn
  rw [hv] at ab;cases ab;exact ac
 have hsz:(put6 W g (j * 6) a b c d e f).heap.size=W.heap.size:=by simp [put6,World.setCell]
 have aa:=(((((hp.row.set hv hn (j * 6+0) a).set hv hn (j * 6+1) b).set hv hn (j * 6+2) c).set hv hn (j * 6+3) d).set hv hn (j * 6+4) e).set hv hn (j * 6+5) f
 refine ⟨_,G,_,hp.put OBlock.nice hj x (Fj:=Fn) ?_ aa (fun i hi hne => ?_) ?_ ?_ _ (fun k hk=>.inl hk) (fun k hk=>.inr hk) (fun k hk => ?_)⟩
 ·exact (qQ W g (j * 6) a b c d e f).mono fun k _ hk=>.inl (by cases hk;exact hG)
 ·rw [gQ hne (by omega),gQ hne (by omega),gQ hne (by omega),gQ hne (by omega),gQ hne (by omega),gQ hne (by omega)]
 ·rw [fE (by omega),fE (by omega),fE (by omega),fE (by omega),fE (by omega),fE (by omega),set6 (sY hp.row.len ad)]
  exact OBlock.nice.off hx (qQ W g (j * 6) a b c d e f) fun k h1 h2=>hF k h1 (by cases h2;exact hp.inG _ hG)
 ·exact fun k hk=>.inr (hF k hk)
 ·simp only [World.setCell,Array.size_modify]
  exact hk.elim (hp.lt k) (hx.lt k)
theorem fA.open {W:World} {S:Foot} {v:Value} {xs:List BlockD} (h:fA W S v xs) {j:Nat} {x:BlockD} (hj:xs[j]? = some x) :
  ∃ (g cap:Nat) (ap ai at_:Option Addr) (cp ci ct:Nat) (S1 S2 S3:Foot),v = .slice (some ⟨g,0,none⟩) xs.length cap/\g < W.heap.size/\S g/\BlockC W g (j * 6) x ap ai at_ cp ci ct/\(∀ o,W.frozen? ⟨g,o,none⟩=false) /\
   fS W S1 (.slice ap x.phis.length cp) x.phis/\gL W S2 (.slice ai x.code.length ci) x.code/\eU W S3 (.slice at_ x.term.to.length ct) x.term.to /\
   (∀ k,S1 k -> S k)/\(∀ k,S2 k -> S k)/\(∀ k,S3 k -> S k)/\S1.off S2/\S1.off S3/\S2.off S3/\(¬ S1 g /\ ¬ S2 g /\ ¬ S3 g) /\
   (∀ (W' : World) (S1' : Foot) (ps:List PhiD),Off S1 W W' -> fS W' S1' (.slice ap x.phis.length cp) ps -> (∀ k,S1' k -> S1 k \/ W.heap.size <= k) -> fA W' (fun k=>S k \/ S1' k) v (xs.set j { x with phis:=ps })) /\
   (∀ (W' : World) (S2' : Foot) (ys:List InstrD),Off S2 W W' -> gL W' S2' (.slice ai x.code.length ci) ys -> (∀ k,S2' k -> S2 k \/ W.heap.size <= k) -> fA W' (fun k=>S k \/ S2' k) v (xs.set j { x with code:=ys })) /\
   (∀ (W' : World) (to:List Int),Off S3 W W' -> eU W' S3 (.slice at_ x.term.to.length ct) to -> fA W' S v (xs.set j { x with term := { x.term with to:=to } })):=by
 obtain ⟨cs,G,F,hp⟩:=h
 have am:=(aF.1 hj).1
 have hn:0 < xs.length:=by omega
 obtain ⟨g,cap,hv,hG, -, -,ar,ag,an⟩:=hp.row.addr hn
 obtain ⟨⟨pv,uv,t,S1,S2,S3,aj,h1,h2,h3,ad,ae,af,i1,i2,i3⟩,hFl⟩:=hp.el j x hj
 obtain ⟨⟨tv,rfl,ac⟩,q1,q2,q3⟩:=h3
 obtain ⟨ap,cp,rfl⟩:=(h1.reads (R0:=PhiR) fun _ _ _ h=>h.reads).form
 obtain ⟨ai,ci,rfl⟩:=(h2.reads (R0:=iB) fun _ _ _ h=>h.reads).form
 obtain ⟨at_,ct,rfl⟩:=ac.ints.form
 have hc:∀ o u,o < 6 -> (iR cs 6 j)[o]? = some u -> W.cell? ⟨g,j * 6+o,none⟩=some u:=fun o u ho hu=>ag _ _ (by rw [<-jQ ho];exact hu)
 rw [aj] at hc
 have nG:∀ k,F j k -> ¬ G k:=hp.free j am
 have ab:∀ k,F j k -> S k:=fun k hk=>hp.inF j k am hk
 refine ⟨g,cap,ap,ai,at_,cp,ci,ct,S1,S2,S3,hv,ar,hp.inG g hG,⟨hc 0 _ (by omega) rfl,hc 1 _ (by omega) rfl,hc 2 _ (by omega) rfl,hc 3 _ (by omega) rfl,hc 4 _ (by omega) rfl,hc 5 _ (by omega) rfl,h1.reads fun _ _ _ h=>h.reads,h2.reads fun _ _ _ h=>h.reads,ac.ints,q1,q2,q3⟩,an,h1,h2,ac,
  fun k hk=>ab k (i1 k hk),fun k hk=>ab k (i2 k hk),fun k hk=>ab k (i3 k hk),ad,ae,af,⟨fun h=>nG g (i1 g h) hG,fun h=>nG g (i2 g h) hG,fun h=>nG g (i3 g h) hG⟩,fun W' S1' ps ho hps hS => ?_,fun W' S2' ys ho hys hS => ?_,fun W' to ho ht => ?_⟩
 ·have ah:Off (G.or (F j)) W W':=ho.mono fun k _ hk=>.inr (i1 k hk)
  have aa:=hp.row.off ho (fun k h1 h2=>nG k (i1 k h2) h1)
  refine ⟨cs,G,_,hp.put OBlock.nice hj { x with phis:=ps } (Fj:=fun k=>(S1' k \/ S2 k) \/ S3 k) ah aa (fun _ _ _=>rfl) ?_ (fun k hk => ?_) _ (fun k hk=>.inl hk) (fun k hk => ?_) (fun k hk => ?_)⟩
  ·rw [aj]
   have ak:S1'.off S2:=fun k a b=>by
    rcases hS k a with c | c
    ·exact ad k c b
    have:=h2.lt k b;omega
   have ao:S1'.off S3:=fun k a b=>by
    rcases hS k a with c | c
    ·exact ae k c b
    have:=ac.lt k b;omega
   have k2:=h2.off OInstr.nice ho ad.symm
   have k3:=ac.off ho ae.symm
   exact ⟨⟨_,_,_,S1',S2,S3,rfl,hps,k2,⟨⟨_,rfl,k3⟩,q1,q2,q3⟩,ak,ao,af,fun k h=>.inl (.inl h),fun k h=>.inl (.inr h),fun k h=>.inr h⟩,fun k hk=>by
    rcases hk with (hk | hk) | hk
    ·exact hps.lt k hk
    ·exact k2.lt k hk
    exact k3.lt k hk⟩
  ·rcases hk with (hk | hk) | hk
   ·rcases hS k hk with c | c
    ·exact .inl (i1 k c)
    exact .inr fun hs=>by have:=hp.lt k hs;omega
   ·exact .inl (i2 k hk)
   exact .inl (i3 k hk)
  ·rcases hk with (hk | hk) | hk
   ·exact .inr hk
   ·exact .inl (ab k (i2 k hk))
   exact .inl (ab k (i3 k hk))
  rcases hk with hk | hk
  ·exact aY (hp.lt k hk) ho.size
  exact hps.lt k hk
 ·have ah:Off (G.or (F j)) W W':=ho.mono fun k _ hk=>.inr (i2 k hk)
  have aa:=hp.row.off ho (fun k h1 h2=>nG k (i2 k h2) h1)
  refine ⟨cs,G,_,hp.put OBlock.nice hj { x with code:=ys } (Fj:=fun k=>(S1 k \/ S2' k) \/ S3 k) ah aa (fun _ _ _=>rfl) ?_ (fun k hk => ?_) _ (fun k hk=>.inl hk) (fun k hk => ?_) (fun k hk => ?_)⟩
  ·rw [aj]
   have ak:S1.off S2':=fun k a b=>by
    rcases hS k b with c | c
    ·exact ad k a c
    have:=h1.lt k a;omega
   have aq:S2'.off S3:=fun k a b=>by
    rcases hS k a with c | c
    ·exact af k c b
    have:=ac.lt k b;omega
   have k1:=h1.off OPhi.nice ho ad
   have k3:=ac.off ho af.symm
   exact ⟨⟨_,_,_,S1,S2',S3,rfl,k1,hys,⟨⟨_,rfl,k3⟩,q1,q2,q3⟩,ak,ae,aq,fun k h=>.inl (.inl h),fun k h=>.inl (.inr h),fun k h=>.inr h⟩,fun k hk=>by
    rcases hk with (hk | hk) | hk
    ·exact k1.lt k hk
    ·exact hys.lt k hk
    exact k3.lt k hk⟩
  ·rcases hk with (hk | hk) | hk
   ·exact .inl (i1 k hk)
   ·rcases hS k hk with c | c
    ·exact .inl (i2 k c)
    exact .inr fun hs=>by have:=hp.lt k hs;omega
   exact .inl (i3 k hk)
  ·rcases hk with (hk | hk) | hk
   ·exact .inl (ab k (i1 k hk))
   ·exact .inr hk
   exact .inl (ab k (i3 k hk))
  rcases hk with hk | hk
  ·exact aY (hp.lt k hk) ho.size
  exact hys.lt k hk
 ·have ah:Off (G.or (F j)) W W':=ho.mono fun k _ hk=>.inr (i3 k hk)
  have aa:=hp.row.off ho (fun k h1 h2=>nG k (i3 k h2) h1)
  have al:∀ k,S k -> k < W'.heap.size:=fun k hk=>aY (hp.lt k hk) ho.size
  refine ⟨cs,G,_,hp.put OBlock.nice hj { x with term := { x.term with to:=to } } (Fj:=F j) ah aa (fun _ _ _=>rfl) ?_ (fun k hk=>.inl hk) _ (fun k hk=>hk) (fun k hk=>ab k hk) al⟩
  rw [aj]
  exact ⟨⟨_,_,_,S1,S2,S3,rfl,h1.off OPhi.nice ho ae,h2.off OInstr.nice ho af,⟨⟨_,rfl,ht⟩,q1,q2,q3⟩,ad,ae,af,i1,i2,i3⟩,fun k hk=>al k (ab k hk)⟩
end
section
open Go.RowKit
theorem aCX {α : Type} {xs:List α} {z x : α} {j:Nat} (hx:xs[j]? = some x):(xs.take j ++ List.replicate (xs.length - j) z)[j]? = some z/\(xs.take j ++ List.replicate (xs.length - j) z).set j x=xs.take (j+1) ++ List.replicate (xs.length - (j+1)) z:=by
 have hl:=(aF.1 hx).1
 have ht:(xs.take j).length=j:=by rw [aV];omega
 obtain ⟨m,hm⟩ : ∃ m,xs.length - j=m+1:=⟨xs.length - j - 1,by omega⟩
 have aa:xs.length - (j+1)=m:=by omega
 rw [hm,aa,List.replicate_succ]
 constructor
 ·rw [cE (by omega),ht,dP];rfl
 rw [List.set_append_right _ _ (by omega),ht,dP,aD,cZ,hx,Option.toList_some,bQ];rfl
def aFU (f:FuncD) (w:World) (e:Ending) (w' : World):Prop := ∃ v S,e = .returned v/\OFunc w' S v f/\mB w.heap.size S/\Below w.heap.size w w'
set_option maxHeartbeats 25600000 in
set_option maxRecDepth 100000 in
theorem aFV {w:World} {v:Value} {f:FuncD} (hv:fU w v f) (hsz:∀ x ∈ f.blocks,x.phis.length <= 100000/\x.code.length <= 100000) (hnb:f.blocks.length <= 100000):Calls Tryz.prog 48 #[v] w (aFU f w):=by
 have HV:=h! hv
 obtain ⟨ap,cp,ab,cb,rfl,hp,bi,bk,hB⟩:=hv.form
 have cm:=h! (And.intro bi bk)
 obtain ⟨a2,c2,bb,bo,de,dc,hbm,dd,bw,cn⟩:=eY hB
 cases de
 obtain ⟨np,bp⟩ : ∃ np,np=f.params.length:=⟨_,rfl⟩
 obtain ⟨ar,ck⟩ : ∃ ar,ar=f.arrays:=⟨_,rfl⟩
 obtain ⟨ce,bt⟩ : ∃ ce,ce=f.cells:=⟨_,rfl⟩
 obtain ⟨nb,aw⟩ : ∃ nb,nb=f.blocks.length:=⟨_,rfl⟩
 rw [<-aw] at dc bw dd hnb
 rw [<-aw, <-bp, <-ck, <-bt]
 rw [<-bp] at hp
 have cG:=h! hp
 have db:=h! bp
 have cf:=h! aw
 have dg:=h! bw
 have dl:=h! cn
 have cB:Hid (ar=f.arrays/\ce=f.cells):=h! ⟨ck,bt⟩
 have cL:=h! hsz
 clear hp hB hv cn bp aw bw ck bt bi bk hsz HV
 go_enter Tryz.func48,Tryz.ntmps48
 go_upto_region 2 with (fail)
 have ac:=(Below.refl w.heap.size w).alloc (aB _) (.cells #[.slice ap np cp,.int .i64 ar,.int .i64 ce,.slice ab nb cb] 25)
 have HW:=h! ac
 clear ac
 have B1:=h! (Box.new w #[.slice ap np cp,.int .i64 ar,.int .i64 ce,.slice ab nb cb] 25)
 have ay:(w.alloc (.cells #[.slice ap np cp,.int .i64 ar,.int .i64 ce,.slice ab nb cb] 25)).heap.size=w.heap.size+1:=World.size_alloc _ _
 generalize w.alloc (.cells #[.slice ap np cp,.int .i64 ar,.int .i64 ce,.slice ab nb cb] 25)=az at *
 have ac:=(Below.refl az.heap.size az).alloc (aB _) (.cells #[.slice none 0 0,.int .i64 0,.int .i64 0,.slice none 0 0] 25)
 replace B1:=h! (B1.out.later ac)
 replace HW:=h! (HW.out.trans (ac.mono HW.out.size))
 clear ac
 have B2:=h! (Box.new az #[.slice none 0 0,.int .i64 0,.int .i64 0,.slice none 0 0] 25)
 rw [ay] at B2
 have be:(az.alloc (.cells #[.slice none 0 0,.int .i64 0,.int .i64 0,.slice none 0 0] 25)).heap.size=w.heap.size+1+1:=by rw [World.size_alloc,ay]
 clear ay
 generalize az.alloc (.cells #[.slice none 0 0,.int .i64 0,.int .i64 0,.slice none 0 0] 25)=bm at *
 have ac:=(Below.refl bm.heap.size bm).alloc (aB _) (.cells #[.slice ap np cp,.int .i64 ar,.int .i64 ce,.slice ab nb cb] 25)
 replace B1:=h! (B1.out.later ac)
 replace B2:=h! (B2.out.later ac)
 replace HW:=h! (HW.out.trans (ac.mono HW.out.size))
 clear ac
 have B3:=h! (Box.new bm #[.slice ap np cp,.int .i64 ar,.int .i64 ce,.slice ab nb cb] 25)
 rw [be] at B3
 clear be
 generalize bm.alloc (.cells #[.slice ap np cp,.int .i64 ar,.int .i64 ce,.slice ab nb cb] 25)=wv at *
 obtain ⟨ad,aj,ai⟩:=B1.out
 obtain ⟨ae,ag,ah⟩:=B2.out
 obtain ⟨aa,ak,af⟩:=B3.out
 go_wp2_with fail
 refine (tI (cG.out.below HW.out)).mono ?_
 rintro e w2 ⟨pv2,SQ,rfl,hI,hF,hb⟩
 obtain ⟨al,am,rfl⟩:=hI.ints.form
 rw [<-db.out] at hI ⊢
 have HQ:Hid (Holds [w.heap.size,w.heap.size+1,w.heap.size+1+1] (w.heap.size+3) w2 SQ (fun W=>eU W SQ (.slice al np am) f.params)):=h! (((gH hI hF).from (by have:=B3.out.lt;omega)).low (by simp))
 clear hI hF
 clear ad aj ai ae ag ah aa ak af
 replace B1:=h! (B1.out.later hb)
 replace B2:=h! (B2.out.later hb)
 replace B3:=h! (B3.out.later hb)
 replace HW:=h! (HW.out.trans (hb.mono HW.out.size))
 clear hb
 obtain ⟨ad,aj,ai⟩:=B1.out
 obtain ⟨ae,ag,ah⟩:=B2.out
 obtain ⟨aa,ak,af⟩:=B3.out
 go_upto_region 3 with (fail)
 clear ad aj ai ae ag ah aa ak af
 have aq:=(Only.set w2 (w.heap.size+1+1) 0 (.slice al np am))
 replace B1:=h! (B1.out.only aq (by first | assumption | (simp;done) | omega))
 replace B2:=h! (B2.out.only aq (by first | assumption | (simp;done) | omega))
 replace HQ:=h! (HQ.out.other (p:=⟨w.heap.size+1+1,0,none⟩) (.slice al np am) (by simp))
 replace HW:=h! (aq.2.2 HW.out (by first | assumption | omega | (have:=HW.out.size;omega) | (simp;done) | (simp;omega)))
 replace B3:=h! (Box.to (A':=#[(.slice al np am),.int .i64 ar,.int .i64 ce,.slice ab nb cb]) (B3.out.set 0 (.slice al np am)) (by first | rfl | simp))
 clear aq
 generalize (w2.setCell ⟨w.heap.size+1+1,0,none⟩ (.slice al np am))=w3 at *
 obtain ⟨ad,aj,ai⟩:=B1.out
 obtain ⟨ae,ag,ah⟩:=B2.out
 obtain ⟨aa,ak,af⟩:=B3.out
 have cy:w.heap.size+3 <= w3.heap.size:=by omega
 have cz:=h! cy
 have cc:=h! HQ.out.lt
 clear cy
 go_upto_region 4 with (at_make;refine mX rfl _ _ rfl nb rfl rfl rfl rfl hnb ?_;intro w4 hmk hgr;have hB3:=B3.out.later hgr;obtain ⟨lx,cx,fx⟩:=hB3)
 clear lx cx fx
 have bg:Hid (Holds [w.heap.size,w.heap.size+1,w.heap.size+1+1] (w.heap.size+3) w4 (Foot.one w3.heap.size) (fun W=>fA W (Foot.one w3.heap.size) (.slice (some ⟨w3.heap.size,0,none⟩) nb nb) (List.replicate nb sG))):=h! ((mH OBlock.nice hmk (fun k hk=>by cases hk;exact cz.out)).low (by simp))
 clear hmk
 clear ad aj ai ae ag ah aa ak af
 replace B1:=h! (B1.out.later hgr)
 replace B2:=h! (B2.out.later hgr)
 replace B3:=h! (B3.out.later hgr)
 replace HQ:=h! (HQ.out.later hgr)
 replace HW:=h! (HW.out.trans (hgr.mono HW.out.size))
 clear hgr
 obtain ⟨ad,aj,ai⟩:=B1.out
 obtain ⟨ae,ag,ah⟩:=B2.out
 obtain ⟨aa,ak,af⟩:=B3.out
 clear ad aj ai ae ag ah aa ak af
 have aq:=(Only.set w4 (w.heap.size+1+1) 3 (.slice (some ⟨w3.heap.size,0,none⟩) nb nb))
 replace B1:=h! (B1.out.only aq (by first | assumption | (simp;done) | omega))
 replace B2:=h! (B2.out.only aq (by first | assumption | (simp;done) | omega))
 replace HQ:=h! (HQ.out.other (p:=⟨w.heap.size+1+1,3,none⟩) (.slice (some ⟨w3.heap.size,0,none⟩) nb nb) (by simp))
 replace bg:=h! (bg.out.other (p:=⟨w.heap.size+1+1,3,none⟩) (.slice (some ⟨w3.heap.size,0,none⟩) nb nb) (by simp))
 replace HW:=h! (aq.2.2 HW.out (by first | assumption | omega | (have:=HW.out.size;omega) | (simp;done) | (simp;omega)))
 replace B3:=h! (Box.to (A':=#[(.slice al np am),.int .i64 ar,.int .i64 ce,(.slice (some ⟨w3.heap.size,0,none⟩) nb nb)]) (B3.out.set 3 (.slice (some ⟨w3.heap.size,0,none⟩) nb nb)) (by first | rfl | simp))
 clear aq
 generalize (w4.setCell ⟨w.heap.size+1+1,3,none⟩ (.slice (some ⟨w3.heap.size,0,none⟩) nb nb))=w5 at *
 obtain ⟨ad,aj,ai⟩:=B1.out
 obtain ⟨ae,ag,ah⟩:=B2.out
 obtain ⟨aa,ak,af⟩:=B3.out
 obtain ⟨gB,bq⟩ : ∃ g,g=w3.heap.size:=⟨_,rfl⟩
 rw [<-bq] at bg B3 cz cc
 have cF:Hid (SQ.off (Foot.one gB)):=h! (fun k h1 h2=>by cases h2;have:=cc.out _ h1;omega)
 simp only [<-bq]
 clear bq cc
 go_wp2_with fail
 go_loopw [19] (fun i wr => ∃ (j:Nat) (SB:Foot),j <= nb/\i = .int .i64 j/\Below w.heap.size w wr/\Box wr w.heap.size #[.slice ap np cp,.int .i64 ar,.int .i64 ce,.slice ab nb cb]/\Box wr (w.heap.size+1) #[.slice none 0 0,.int .i64 0,.int .i64 0,.slice none 0 0]/\Box wr (w.heap.size+1+1) #[.slice al np am,.int .i64 ar,.int .i64 ce,.slice (some ⟨gB,0,none⟩) nb nb] /\
   Holds [w.heap.size,w.heap.size+1,w.heap.size+1+1] (w.heap.size+3) wr SQ (fun W=>eU W SQ (.slice al np am) f.params)/\Holds [w.heap.size,w.heap.size+1,w.heap.size+1+1] (w.heap.size+3) wr SB (fun W=>fA W SB (.slice (some ⟨gB,0,none⟩) nb nb) (f.blocks.take j ++ List.replicate (nb - j) sG))/\SQ.off SB) (fun i _=>nb - (intOf i).toNat)
 case atStart=>exact ⟨0,Foot.one gB,Nat.zero_le _,rfl,HW.out,B1.out,B2.out,B3.out,HQ.out,by simpa using bg.out,cF.out⟩
 obtain ⟨j,SB,hj,rfl,hW,h1,h2,h3,h4,h5,h6⟩:=hrel
 clear ad aj ai ae ag ah aa ak af
 replace HW:=h! hW
 replace B1:=h! h1
 replace B2:=h! h2
 replace B3:=h! h3
 replace HQ:=h! h4
 have ao:=h! h5
 have ba:=h! h6
 clear hW h1 h2 h3 h4 h5 h6 bg cF
 generalize wr=w6 at *
 obtain ⟨ad,aj,ai⟩:=B1.out
 obtain ⟨ae,ag,ah⟩:=B2.out
 obtain ⟨aa,ak,af⟩:=B3.out
 by_cases hlt:j < nb
 ·obtain ⟨rfl,dk⟩:=dg.out (by omega)
  obtain ⟨x,bl⟩ : ∃ x,f.blocks[j]? = some x:=⟨_,aC (by have:=cf.out;omega)⟩
  obtain ⟨bv,br,ci,cj,bO,cl,hC⟩:=dl.out j x bl
  have cM:=h! hC.blockV
  obtain ⟨k0,k1,k2,k3,k4,k5, -, -, -, -, -, -⟩:=hC.below HW.out dk
  have cw:=h! (cL.out x (aG bl))
  have bn:=h! (aCX (z:=sG) bl)
  rw [<-cf.out] at bn
  clear bl hC
  have ca:Hid (∀ k,SB k -> k < w6.heap.size):=h! ao.out.lt
  have bx:Hid (∀ k,SQ k -> k < w6.heap.size):=h! HQ.out.lt
  have hl6:w.heap.size+3 <= w6.heap.size:=by omega
  go_upto_region 7 with (fail)
  have bh:w6.heap.size ≠ w.heap.size:=fun e=>by have:=ad;omega
  have nB1BL:w.heap.size ≠ w6.heap.size:=fun e=>bh e.symm
  have bj:w6.heap.size ≠ w.heap.size+1:=fun e=>by have:=ae;omega
  have nB2BL:w.heap.size+1 ≠ w6.heap.size:=fun e=>bj e.symm
  have bf:w6.heap.size ≠ w.heap.size+1+1:=fun e=>by have:=aa;omega
  have nB3BL:w.heap.size+1+1 ≠ w6.heap.size:=fun e=>bf e.symm
  clear ad aj ai ae ag ah aa ak af
  have ac:=(Below.refl w6.heap.size w6).alloc (aB _) (.cells #[.slice bv x.phis.length cj,.slice br x.code.length bO,.int .i64 x.term.op,.int .i64 x.term.val,.slice ci x.term.to.length cl,.int .i64 x.term.n] 63)
  replace B1:=h! (B1.out.later ac)
  replace B2:=h! (B2.out.later ac)
  replace B3:=h! (B3.out.later ac)
  replace HQ:=h! (HQ.out.later ac)
  replace ao:=h! (ao.out.later ac)
  replace HW:=h! (HW.out.trans (ac.mono HW.out.size))
  clear ac
  have BL:=h! (Box.new w6 #[.slice bv x.phis.length cj,.slice br x.code.length bO,.int .i64 x.term.op,.int .i64 x.term.val,.slice ci x.term.to.length cl,.int .i64 x.term.n] 63)
  generalize w6.alloc (.cells #[.slice bv x.phis.length cj,.slice br x.code.length bO,.int .i64 x.term.op,.int .i64 x.term.val,.slice ci x.term.to.length cl,.int .i64 x.term.n] 63)=w7 at *
  obtain ⟨ad,aj,ai⟩:=B1.out
  obtain ⟨ae,ag,ah⟩:=B2.out
  obtain ⟨aa,ak,af⟩:=B3.out
  obtain ⟨bz,cd,bs⟩:=BL.out
  clear k0 k1 k2 k3 k4 k5
  have ch:Hid (w6.heap.size <= w7.heap.size):=h! (by have:=BL.out.lt;omega)
  refine Four.wp_region_grow (XF:=(fun _=>Foot.none)) (I:=(fun _=>True)) 5 (fun ν kz=>match kz with | 4=>.holds (fun u w' => ∃ (pv uv tv:Value) (S:Foot),u = .agg #[pv,uv,.int .i64 x.term.op,.int .i64 x.term.val,tv,.int .i64 x.term.n]/\Holds [] w7.heap.size w' S (fun W=>OBlock W S [pv,uv,.int .i64 x.term.op,.int .i64 x.term.val,tv,.int .i64 x.term.n] x)) | _=>.plain) (by kernel_rfl) (by kernel_rfl) ?_ ?_ (fun _ _ h=>h.elim) (fun _ _ _ _=>trivial) trivial ?_ (fun ν => ?_)
  ·(intro ν k;(try dsimp only);split <;> first | exact True.intro | (intro u w1 w2 hu hb;(obtain ⟨pv,uv,tv,S,h1,h2⟩:=hu;exact ⟨pv,uv,tv,S,h1,h2.off hb (fun _ _ ⟨_,_,h⟩=>h.elim)⟩)))
  ·(intro ν ν' k h;first | rfl | ((try dsimp only);split <;> first | rfl))
  ·(intro ν j B mk A h;(try dsimp only at h);split at h <;> first | (cases h;exact Nat.le_refl _) | cases h)
  simp only [aO,aS,aP,aU]
  iterate 4 (refine Four.Grow.val (v := ?_) rfl rfl (fun wg hbg hdg => ?_) ?_;rotate_left;(focus ((obtain ⟨lg0,cg0,fg0⟩:=B1.out.off hbg.off (fun ⟨_,h⟩=>h.elim));(obtain ⟨lg1,cg1,fg1⟩:=B2.out.off hbg.off (fun ⟨_,h⟩=>h.elim));(obtain ⟨lg2,cg2,fg2⟩:=B3.out.off hbg.off (fun ⟨_,h⟩=>h.elim));(obtain ⟨lg3,cg3,fg3⟩:=BL.out.off hbg.off (fun ⟨_,h⟩=>h.elim));clear hbg hdg;first | (go_simp;done) | (go_simp;with_reducible rfl)));simp only [Act.put,aA,aD,aE])
  refine Four.Grow.call (f := ?_) (args := ?_) rfl (fun wg => ?_) (fun wg hbg hdg => ?_) ?_
  rotate_left 2
  focus (first | (go_simp;done) | (go_simp;refine And.intro ?_ ?_ <;> with_reducible rfl) | (go_simp;with_reducible rfl))
  focus (exact (zE (cM.out.below (HW.out.trans ((pre0 hbg).mono HW.out.size))) cw.out.1 cw.out.2).mono (fun e w2 ⟨pv,uv,tv,S,he,hO,hF,hw⟩=>⟨_,he,⟨pv,uv,tv,S,rfl,(iN OBlock.nice hO hF).from hbg.1.size⟩,hw⟩))
  simp only [Act.put,Known.val,aA,aD,aE]
  intro wg hb hf df
  clear df
  clear ad aj ai ae ag ah aa ak af bz cd bs
  replace B1:=h! (B1.out.off hb.1 (fun ⟨_,h⟩=>h.elim))
  replace B2:=h! (B2.out.off hb.1 (fun ⟨_,h⟩=>h.elim))
  replace B3:=h! (B3.out.off hb.1 (fun ⟨_,h⟩=>h.elim))
  replace BL:=h! (BL.out.off hb.1 (fun ⟨_,h⟩=>h.elim))
  replace HQ:=h! (HQ.out.off hb.1 (fun _ _ ⟨_,h⟩=>h.elim))
  replace ao:=h! (ao.out.off hb.1 (fun _ _ ⟨_,h⟩=>h.elim))
  replace HW:=h! (HW.out.trans (hb.1.below HW.out.size (fun _ _ ⟨_,h⟩=>h.elim)))
  obtain ⟨ad,aj,ai⟩:=B1.out
  obtain ⟨ae,ag,ah⟩:=B2.out
  obtain ⟨aa,ak,af⟩:=B3.out
  obtain ⟨bz,cd,bs⟩:=BL.out
  simp only [bH,Nat.reduceAdd]
  have h4:∃ (pv uv tv:Value) (S:Foot), ν 4 = .agg #[pv,uv,.int .i64 x.term.op,.int .i64 x.term.val,tv,.int .i64 x.term.n]/\Holds [] w7.heap.size wg S (fun W=>OBlock W S [pv,uv,.int .i64 x.term.op,.int .i64 x.term.val,tv,.int .i64 x.term.n] x):=hf 4 (by omega)
  obtain ⟨pv,uv,tv,SN,e4,k4⟩:=h4
  obtain ⟨⟨_,_,_,S1,S2,S3,e5,o1,o2,o3, -⟩, -⟩:=k4.now
  obtain ⟨⟨tv',e6,o4⟩, -⟩:=o3
  cases e5
  cases e6
  obtain ⟨pa,cq,rfl⟩:=(o1.reads (R0:=PhiR) fun _ _ _ h=>h.reads).form
  obtain ⟨ua,ct,rfl⟩:=(o2.reads (R0:=iB) fun _ _ _ h=>h.reads).form
  obtain ⟨cr,co,rfl⟩:=o4.ints.form
  simp only [e4]
  have K4:=h! k4
  clear e4 k4 hf o1 o2 o4 hb
  obtain ⟨g,dj,z1,z2,z3,z4,z5,z6,T1,T2,T3,hv,dm,cs,hC,di, -⟩:=ao.out.now.open bn.out.1
  obtain ⟨rfl,rfl⟩ : gB=g/\nb=dj:=by injection hv with h1 h2 h3;injection h1 with h1;injection h1 with h1;exact ⟨h1,h3⟩
  obtain ⟨c0,c1,c2,c3,c4,c5, -, -, -, -, -, -⟩:=hC
  have bc:=h! cs
  have da:Hid (SN.off SB):=h! (fun k h1 h2=>by have:=ca.out k h2;have:=K4.out.base k h1;have:=ch.out;omega)
  have dh:Hid (SQ.off SN):=h! (fun k h1 h2=>by have:=bx.out k h1;have:=K4.out.base k h2;have:=ch.out;omega)
  have ax:=h! (sI ao.out.now bn.out.1 hv K4.out.now da.out)
  have an:=h! (qQ wg gB (j * 6) (.slice pa x.phis.length cq) (.slice ua x.code.length ct) (.int .i64 x.term.op) (.int .i64 x.term.val) (.slice cr x.term.to.length co) (.int .i64 x.term.n))
  unfold put6 at ax an
  rw [bn.out.2] at ax
  clear hv dm cs
  go_upto_region 8 with (fail)
  clear c0 c1 c2 c3 c4 c5 di
  clear ad aj ai ae ag ah aa ak af bz cd bs
  generalize ((((((wg.setCell ⟨gB,j * 6,none⟩ (.slice pa x.phis.length cq)).setCell ⟨gB,j * 6+1,none⟩ (.slice ua x.code.length ct)).setCell ⟨gB,j * 6+2,none⟩ (.int .i64 x.term.op)).setCell ⟨gB,j * 6+3,none⟩ (.int .i64 x.term.val)).setCell ⟨gB,j * 6+4,none⟩ (.slice cr x.term.to.length co)).setCell ⟨gB,j * 6+5,none⟩ (.int .i64 x.term.n))=w8 at *
  replace B1:=h! (B1.out.off an.out (fun h=>ao.out.free _ bc.out (by rw [<-h];simp)))
  replace B2:=h! (B2.out.off an.out (fun h=>ao.out.free _ bc.out (by rw [<-h];simp)))
  replace B3:=h! (B3.out.off an.out (fun h=>ao.out.free _ bc.out (by rw [<-h];simp)))
  replace HQ:=h! (HQ.out.off an.out (fun k h1 h2=>ba.out k h1 (by cases h2;exact bc.out)))
  replace HW:=h! (HW.out.trans (an.out.below HW.out.size (fun k _ hk=>by cases hk;have:=ao.out.base _ bc.out;omega)))
  have cg:Hid (Holds [w.heap.size,w.heap.size+1,w.heap.size+1+1] (w.heap.size+3) w8 (fun k=>SB k \/ SN k) (fun W=>fA W (fun k=>SB k \/ SN k) (.slice (some ⟨gB,0,none⟩) nb nb) (f.blocks.take (j+1) ++ List.replicate (nb - (j+1)) sG))) :=
   h! ((mH OBlock.nice ax.out (fun k hk=>by rcases hk with hk | hk;exact ao.out.base k hk;have:=K4.out.base k hk;have:=ch.out;omega)).low (by simp))
  replace ba:Hid (SQ.off (fun k=>SB k \/ SN k)):=h! (fun k h1 h2=>by rcases h2 with h2 | h2;exact ba.out k h1 h2;exact dh.out k h1 h2)
  clear ao ax an K4 BL
  obtain ⟨ad,aj,ai⟩:=B1.out
  obtain ⟨ae,ag,ah⟩:=B2.out
  obtain ⟨aa,ak,af⟩:=B3.out
  go_wp2
  go_roundw
  case rel=>exact ⟨j+1,_,hlt,by go_num,HW.out,B1.out,B2.out,B3.out,HQ.out,cg.out,ba.out⟩
  simp [intOf];omega
 have cv:j=nb:=by omega
 have bd:Hid (Holds [w.heap.size,w.heap.size+1,w.heap.size+1+1] (w.heap.size+3) w6 SB (fun W=>fA W SB (.slice (some ⟨gB,0,none⟩) nb nb) f.blocks)):=h! (by
  have h9:=ao.out
  rw [cv,dP,aH (by have:=cf.out;omega)] at h9
  simpa using h9)
 clear ao cv
 go_wp2
 clear ad aj ai ae ag ah aa ak af
 have aq:=((((Only.set w6 (w.heap.size+1) 0 (.slice al np am)).put 1 (.int .i64 ar)).put 2 (.int .i64 ce)).put 3 (.slice (some ⟨gB,0,none⟩) nb nb))
 replace B1:=h! (B1.out.only aq (by first | assumption | (simp;done) | omega))
 replace B3:=h! (B3.out.only aq (by first | assumption | (simp;done) | omega))
 replace HQ:=h! ((((HQ.out.other (p:=⟨w.heap.size+1,0,none⟩) (.slice al np am) (by simp)).other (p:=⟨w.heap.size+1,1,none⟩) (.int .i64 ar) (by simp)).other (p:=⟨w.heap.size+1,2,none⟩) (.int .i64 ce) (by simp)).other (p:=⟨w.heap.size+1,3,none⟩) (.slice (some ⟨gB,0,none⟩) nb nb) (by simp))
 replace bd:=h! ((((bd.out.other (p:=⟨w.heap.size+1,0,none⟩) (.slice al np am) (by simp)).other (p:=⟨w.heap.size+1,1,none⟩) (.int .i64 ar) (by simp)).other (p:=⟨w.heap.size+1,2,none⟩) (.int .i64 ce) (by simp)).other (p:=⟨w.heap.size+1,3,none⟩) (.slice (some ⟨gB,0,none⟩) nb nb) (by simp))
 replace HW:=h! (aq.2.2 HW.out (by first | assumption | omega | (have:=HW.out.size;omega) | (simp;done) | (simp;omega)))
 replace B2:=h! (Box.to (A':=#[(.slice al np am),(.int .i64 ar),(.int .i64 ce),(.slice (some ⟨gB,0,none⟩) nb nb)]) ((((B2.out.set 0 (.slice al np am)).set 1 (.int .i64 ar)).set 2 (.int .i64 ce)).set 3 (.slice (some ⟨gB,0,none⟩) nb nb)) (by first | rfl | simp))
 clear aq
 generalize ((((w6.setCell ⟨w.heap.size+1,0,none⟩ (.slice al np am)).setCell ⟨w.heap.size+1,1,none⟩ (.int .i64 ar)).setCell ⟨w.heap.size+1,2,none⟩ (.int .i64 ce)).setCell ⟨w.heap.size+1,3,none⟩ (.slice (some ⟨gB,0,none⟩) nb nb))=w7 at *
 obtain ⟨ad,aj,ai⟩:=B1.out
 obtain ⟨ae,ag,ah⟩:=B2.out
 obtain ⟨aa,ak,af⟩:=B3.out
 refine bodyPost_ret (v:=.agg #[.slice al np am,.int .i64 ar,.int .i64 ce,.slice (some ⟨gB,0,none⟩) nb nb]) (by simp [results,Tryz.results48,go_sem, *]) rfl ⟨_,fun q=>SQ q \/ SB q,rfl,⟨⟨_,_,SQ,SB,by rw [cB.out.1,cB.out.2],HQ.out.now,bd.out.now,ba.out,fun k h=>.inl h,fun k h=>.inr h⟩,fun k hk=>hk.elim (HQ.out.lt k) (bd.out.lt k),cm.out.1,cm.out.2⟩,fun k hk => ?_,HW.out⟩
 rcases hk with hk | hk
 ·have:=HQ.out.base k hk;omega
 have:=bd.out.base k hk;omega
theorem fS.open {W:World} {S:Foot} {v:Value} {ps:List PhiD} (h:fS W S v ps) {j:Nat} {p:PhiD} (hj:ps[j]? = some p) :
  ∃ (g cap:Nat) (af av:Option Addr) (cf cv:Nat) (cs:List Value) (G Sf Sv:Foot),v = .slice (some ⟨g,0,none⟩) ps.length cap/\g < W.heap.size/\G g/\(∀ k,G k -> S k)/\PhiC W g (j * 4) p af av cf cv/\(∀ o,W.frozen? ⟨g,o,none⟩=false)/\cs[j * 4+2]? = some (.slice af p.src.length cf)/\cs[j * 4+3]? = some (.slice av p.vals.length cv) /\
   ORow W G 78 4 v ps.length cs/\eU W Sf (.slice af p.src.length cf) p.src/\eU W Sv (.slice av p.vals.length cv) p.vals/\(∀ k,Sf k -> S k)/\(∀ k,Sv k -> S k)/\Sf.off Sv/\Sf.off G/\Sv.off G /\
   (∀ (W' : World) (u2 u3:Value) (src vals:List Int) (Sf' Sv' : Foot),Off (G.or (Sf.or Sv)) W W' -> ORow W' G 78 4 v ps.length ((cs.set (j * 4+2) u2).set (j * 4+3) u3) -> eU W' Sf' u2 src -> eU W' Sv' u3 vals -> Sf'.off Sv' ->
    (∀ k,Sf' k -> Sf k \/ W.heap.size <= k) -> (∀ k,Sv' k -> Sv k \/ W.heap.size <= k) -> fS W' (fun k=>S k \/ Sf' k \/ Sv' k) v (ps.set j { p with src:=src,vals:=vals })):=by
 obtain ⟨cs,G,F,hp⟩:=h
 have ad:=(aF.1 hj).1
 have hn:0 < ps.length:=by omega
 obtain ⟨g,cap,hv,hG, -, -,aj,ab,ah⟩:=hp.row.addr hn
 obtain ⟨⟨a,b,Sf,Sv,ae,h1,h2,ag,i1,i2⟩,hFl,q1,q2⟩:=hp.el j p hj
 obtain ⟨af,cf,rfl⟩:=h1.ints.form
 obtain ⟨av,cv,rfl⟩:=h2.ints.form
 have hc:∀ o u,o < 4 -> (iR cs 4 j)[o]? = some u -> W.cell? ⟨g,j * 4+o,none⟩=some u:=fun o u ho hu=>ab _ _ (by rw [<-jQ ho];exact hu)
 have aa:=ae
 rw [ae] at hc
 have nG:∀ k,F j k -> ¬ G k:=hp.free j ad
 have ac:∀ k,F j k -> S k:=fun k hk=>hp.inF j k ad hk
 refine ⟨g,cap,af,av,cf,cv,cs,G,Sf,Sv,hv,aj,hG,hp.inG,⟨hc 0 _ (by omega) rfl,hc 1 _ (by omega) rfl,hc 2 _ (by omega) rfl,hc 3 _ (by omega) rfl,h1.ints,h2.ints,q1,q2⟩,ah,by rw [<-jQ (by omega),aa];rfl,by rw [<-jQ (by omega),aa];rfl,hp.row,h1,h2,
  fun k hk=>ac k (i1 k hk),fun k hk=>ac k (i2 k hk),ag,fun k a b=>nG k (i1 k a) b,fun k a b=>nG k (i2 k a) b,fun W' u2 u3 src vals Sf' Sv' ho hrow ha hb hab hf' hv' => ?_⟩
 have ai:Off (G.or (F j)) W W':=ho.mono fun k _ hk=>by
  rcases hk with hk | hk | hk
  ·exact .inl hk
  ·exact .inr (i1 k hk)
  exact .inr (i2 k hk)
 refine ⟨_,G,_,hp.put OPhi.nice hj { p with src:=src,vals:=vals } (Fj:=fun k=>Sf' k \/ Sv' k) ai hrow (fun i hi hne => ?_) ?_ (fun k hk => ?_) _ (fun k hk=>.inl hk) (fun k hk=>.inr hk) (fun k hk => ?_)⟩
 ·rw [gQ hne (by omega),gQ hne (by omega)]
 ·rw [fE (by omega),fE (by omega),aa]
  exact ⟨⟨u2,u3,Sf',Sv',rfl,ha,hb,hab,fun k h=>.inl h,fun k h=>.inr h⟩,fun k hk=>hk.elim (ha.lt k) (hb.lt k),q1,q2⟩
 ·rcases hk with hk | hk
  ·rcases hf' k hk with c | c
   ·exact .inl (i1 k c)
   exact .inr fun hs=>by have:=hp.lt k hs;omega
  rcases hv' k hk with c | c
  ·exact .inl (i2 k c)
  exact .inr fun hs=>by have:=hp.lt k hs;omega
 ·rcases hk with hk | hk | hk
  ·exact aY (hp.lt k hk) ho.size
  ·exact ha.lt k hk
  exact hb.lt k hk
theorem eU.addr {W:World} {S:Foot} {v:Value} {xs:List Int} (h:eU W S v xs) {i:Nat} {x:Int} (hi:xs[i]? = some x) :
  ∃ g cap,v = .slice (some ⟨g,0,none⟩) xs.length cap/\S g/\g < W.heap.size/\W.cell? ⟨g,i,none⟩=some (.int .i64 x)/\(∀ o,W.frozen? ⟨g,o,none⟩=false) /\ ∀ y,In64 y -> eU (W.setCell ⟨g,i,none⟩ (.int .i64 y)) S v (xs.set i y):=by
 have ab:=(aF.1 hi).1
 obtain ⟨g,cap,hv,hG, -, -,ad,aa,ac⟩:=h.1.addr (by omega)
 exact ⟨g,cap,hv,hG,ad,aa i _ (by rw [aQ,hi];rfl),ac,fun y hy=>h.set hv ab hy⟩
def xP:FuncD:=⟨[],0,0,[]⟩
theorem getD_some {α : Type} {l:List α} {i:Nat} {x d : α} (h:l[i]? = some x):l.getD i d=x:=by rw [aK,h];rfl
theorem Off.grow {S S' : Foot} {A B C:World} (h:Off S A B) (k:Off S' B C) (hs:∀ q,S' q -> S q \/ A.heap.size <= q):Off S A C :=
 ⟨k.os.trans h.os,k.tape.trans h.tape,k.output.trans h.output,bE h.size k.size,fun i hi hn=>(k.block i (aY hi h.size) fun hm=>(hs i hm).elim hn (fun h=>by omega)).trans (h.block i hi hn)⟩
theorem OFunc.zero {W:World}:OFunc W Foot.none (.agg #[.slice none 0 0,.int .i64 0,.int .i64 0,.slice none 0 0]) xP :=
 ⟨⟨_,_,Foot.none,Foot.none,rfl,eU.nil none,OSl.nil none,fun _ h=>h.elim,fun _ h=>h.elim,fun _ h=>h.elim⟩,fun _ h=>h.elim,⟨by decide,by decide⟩,⟨by decide,by decide⟩⟩
theorem eU.narrow {W:World} {S:Foot} {xs:List Int} {g cap n:Nat} (h:eU W S (.slice (some ⟨g,0,none⟩) n cap) xs) (hn:0 < xs.length):eU W (Foot.one g) (.slice (some ⟨g,0,none⟩) n cap) xs/\S g:=by
 obtain ⟨⟨h1,h2,h3,h4⟩,h5⟩:=h
 rcases h4 with ⟨h4,_⟩ | ⟨g',cap',aa,hv,hg,r⟩
 ·omega
 cases hv
 exact ⟨⟨⟨h1,h2,fun k hk=>by cases hk;exact h3 g hg,.inr ⟨g,cap,aa,rfl,rfl,r⟩⟩,h5⟩,hg⟩
theorem xQ {w:World} {o:Oper} {a:Act} (s x:Operand)
  (ho:o.op = .call { callee:=.builtin .append,args:=#[s,x],argTypes:=#[22,22] }) {v:Value} {B:Nat} {y:Int} (hs:a.eval s=v) (hx:a.eval x = .slice (some ⟨B,0,none⟩) 1 1) {S:Foot} {xs:List Int} {n:Nat} (hn:xs.length=n)
  (H:eU w S v xs) (hB:Box w B #[.int .i64 y]) (hy:In64 y) (hlen:n+1 <= 100000) {XF:Nat -> Foot} {i:Nat} (hX:∀ k,S k -> XF i k) :
  ∃ u w'',(execOp a.eval o).run Tryz.prog w = .ok (.value u) w'' /\ (∃ g cap,u = .slice (some ⟨g,0,none⟩) (n+1) cap/\eU w'' (Foot.one g) u (xs ++ [y])/\(S g \/ w.heap.size <= g))/\Four.Step XF (fun _=>True) i w w'':=by
 obtain ⟨v',w',G',aa,r1,r2,r3, -⟩:=tH (P:=Tryz.prog) s x 22 3 ho mI hs hx H.1 (rD (n:=1) (size:=1) (ds:=[.int .i64 y]) hB rfl (by omega)) (by intro u hu;simp at hu;subst hu;rfl) (by omega) (by omega)
 have hO:eU w' G' v' (xs ++ [y]):=by
  refine ⟨?_,fun z hz => ?_⟩
  ·rw [aI,aZ];exact r1
  rcases aM.1 hz with h | h
  ·exact H.2 z h
  simp at h;subst h;exact hy
 obtain ⟨g,cap,rfl,hg, -⟩:=hO.1.addr (by simp)
 have hl:(xs ++ [y]).length=n+1:=by simp [hn]
 rw [hl] at hO aa
 obtain ⟨k1,k2⟩:=hO.narrow (by omega)
 exact ⟨_,w',aa,⟨g,cap,rfl,k1,r2 g k2⟩,r3.mono fun k _ hk=>hX k hk,fun h=>h⟩
theorem uJ {w:World} {o:Oper} {a:Act} (s x:Operand)
  (ho:o.op = .call { callee:=.builtin .append,args:=#[s,x],argTypes:=#[22,22] }) {v:Value} {B:Nat} {y:Int} (hs:a.eval s=v) (hx:a.eval x = .slice (some ⟨B,0,none⟩) 1 1) {S:Foot} {xs:List Int} {n:Nat} (hn:xs.length=n)
  (H:eU w S v xs) (hB:Box w B #[.int .i64 y]) (hy:In64 y) (hlen:n+1 <= 100000) {XF:Nat -> Foot} {i:Nat} (hX:∀ k,S k -> XF i k) {Z:Value -> World -> Prop}
  (hZ:∀ g cap w'',eU w'' (Foot.one g) (.slice (some ⟨g,0,none⟩) (n+1) cap) (xs ++ [y]) -> (S g \/ w.heap.size <= g) -> Z (.slice (some ⟨g,0,none⟩) (n+1) cap) w'') :
  ∃ u w'',(execOp a.eval o).run Tryz.prog w = .ok (.value u) w'' /\ Z u w'' /\ Four.Step XF (fun _=>True) i w w'':=by
 obtain ⟨u,w'',h1,⟨g,c,e,h2,h3⟩,h4⟩:=xQ (XF:=XF) (i:=i) s x ho hs hx hn H hB hy hlen hX
 subst e
 exact ⟨_,w'',h1,hZ g c w'' h2 h3,h4⟩
theorem Off.cell {S:Foot} {W W' : World} (h:Off S W W') {b o:Nat} (hl:b < W.heap.size) (hn:¬ S b):W'.cell? ⟨b,o,none⟩=W.cell? ⟨b,o,none⟩:=World.cell?_of_block (w:=W) (a:=⟨b,o,none⟩) (h.block b hl hn)
theorem aCY {xs:List Int} {x:Int} (h:x ∈ xs):idxI xs x=(xs.idxOf x:Nat):=if_pos h
theorem mN {f:FuncD} (hc:eZ f=0):(∀ x ∈ f.blocks,x.phis.length <= 100000/\x.code.length <= 100000)/\f.blocks.length <= 100000:=by
 have hf:=(fC hc).1
 have hs:=(jW hf).size
 have hn:=(iE hf).2
 refine ⟨fun x hx => ?_,by omega⟩
 have h1:hJ x <= lJ f:=by
  unfold lJ
  have:∀ (l:List BlockD),x ∈ l -> hJ x <= (l.map hJ).sum/\0 <= (l.map hJ).sum:=by
   intro l
   induction l with
   | nil=>intro h;cases h
   | cons y l ih =>
    intro h
    have hy:0 <= hJ y:=by unfold hJ;omega
    have aa:∀ (l:List BlockD),0 <= (l.map hJ).sum:=by
     intro l
     induction l with
     | nil=>simp
     | cons z l ih=>have:0 <= hJ z:=(by unfold hJ;omega);simp only [cY,List.sum_cons];omega
    have:=aa l
    simp only [cY,List.sum_cons]
    rcases bU.1 h with rfl | h
    ·omega
    have:=(ih h).1;omega
  exact (this _ hx).1
 unfold hJ at h1
 omega
end
end Go.Proofs.YtagabiidbbhhmaaGreat
