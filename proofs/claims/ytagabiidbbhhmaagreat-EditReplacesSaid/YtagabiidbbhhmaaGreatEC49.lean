/- Part 49. -/
import Derived.Test.YtagabiidbbhhmaaGreatEC47
namespace Go.Proofs.YtagabiidbbhhmaaGreat
set_option maxHeartbeats 25600000
set_option linter.all false
section
open Go.RowKit
theorem fO.later {W W' : World} {v:Value} {f:FuncD} (h:fO W v f) (hb:Below W.heap.size W W'):fO W' v f:=h.below hb
theorem fO.alloc {W:World} {v:Value} {f:FuncD} (h:fO W v f) (o:Obj):fO (W.alloc o) v f:=h.below ((Below.refl _ _).alloc (aA _) o)
theorem uT {f:FuncD} {b:Int} (h:gP f b 0):gP f 0 0:=by
 have h0:=h
 unfold gP at h
 rcases h with ⟨c, -, -, -, -,h⟩ | ⟨h1,⟨c,x, -, -, -, -,h⟩ | ⟨h2,⟨i,u, -, -, -, -,h⟩ | ⟨h3,rfl, -⟩⟩⟩
 ·cases h
 ·cases h
 ·cases h
 exact h0
def jZ (a b v:Int):Int:=if v=a then b else v
def mapP (g:Int -> Int) (p:PhiD):PhiD := { p with vals:=p.vals.map g }
def mapX (g:Int -> Int) (x:InstrD):InstrD := { x with args:=x.args.map g }
def mapT (g:Int -> Int) (t:TermD):TermD:=if t.op=2 \/ t.op=3 then { t with val:=g t.val } else t
def mapB (g:Int -> Int) (x:BlockD):BlockD:=⟨x.phis.map (mapP g),x.code.map (mapX g),mapT g x.term⟩
def mapF (g:Int -> Int) (f:FuncD):FuncD := { f with blocks:=f.blocks.map (mapB g) }
def SErr (f:FuncD) (k:Int):Prop:=(eQ f ≠ 0/\k=eQ f) \/ (eQ f=0 /\ ∃ b,gP f b k)
theorem SErr.one {f:FuncD} {k k' : Int} (h:SErr f k) (h' : SErr f k'):k=k':=by
 rcases h with ⟨h1,rfl⟩ | ⟨h1,b,h2⟩
 ·rcases h' with ⟨_,rfl⟩ | ⟨h3,_⟩
  ·rfl
  exact absurd h3 h1
 rcases h' with ⟨h3,_⟩ | ⟨_,b',h4⟩
 ·exact absurd h1 h3
 exact (yD h2 h4).2
theorem SErr.of_check {f:FuncD} {b k:Int} (h1:eQ f ≠ 0 -> b=0/\k=eQ f) (h2:eQ f=0 -> gP f b k):SErr f k:=by
 by_cases h:eQ f=0
 ·exact .inr ⟨h,b,h2 h⟩
 exact .inl ⟨h,(h1 h).2⟩
theorem SErr.zero {f:FuncD} (h:SErr f 0):eQ f=0/\gP f 0 0:=by
 rcases h with ⟨h1,h2⟩ | ⟨h1,b,h2⟩
 ·exact absurd h2.symm h1
 exact ⟨h1,uT h2⟩
def pL (f:FuncD) (a b:Int):FuncD × Int :=
 if (tyOf (eN f) a).isSome=false \/ (tyOf (eN f) b).isSome=false then (jF,9) else if tyOf (eN f) a ≠ tyOf (eN f) b then (jF,3) else (mapF (jZ a b) f,0)
def lW (f:FuncD) (a b:Int) (g:FuncD) (k:Int):Prop := ∃ s,SErr f s/\((s ≠ 0/\g=jF/\k=s) \/ (s=0/\(g,k)=pL f a b))
theorem lW.one {f g g' : FuncD} {a b k k' : Int} (h:lW f a b g k) (h' : lW f a b g' k'):g=g' /\ k=k':=by
 obtain ⟨s,h1,h2⟩:=h
 obtain ⟨s',h3,h4⟩:=h'
 obtain rfl:=h1.one h3
 rcases h2 with ⟨n,rfl,rfl⟩ | ⟨rfl,h2⟩
 ·rcases h4 with ⟨_,rfl,rfl⟩ | ⟨n2,_⟩
  ·exact ⟨rfl,rfl⟩
  exact absurd n2 n
 rcases h4 with ⟨n2,_⟩ | ⟨_,h4⟩
 ·exact absurd rfl n2
 rw [<-h4] at h2
 exact ⟨congrArg Prod.fst h2,congrArg Prod.snd h2⟩
def fV {α : Type} (g : α -> α) (xs:List α) (i:Nat):List α := (xs.take i).map g ++ xs.drop i
theorem oA {α : Type} (g : α -> α) (xs:List α) (i q:Nat):(fV g xs i)[q]? = if q < i then (xs[q]?).map g else xs[q]?:=by
 unfold fV
 rw [cW]
 simp only [bN,aW]
 by_cases h:q < i
 ·rw [if_pos h]
  by_cases h2:q < xs.length
  ·rw [if_pos (by omega),aR,aZ,if_pos h]
  rw [if_neg (by omega),bM,aQ (by omega),aQ (by omega)];rfl
 rw [if_neg h,if_neg (by omega),bM]
 by_cases h2:i <= xs.length
 ·rw [show i+(q - min i xs.length)=q by omega]
 rw [aQ (by omega),aQ (by omega)]
theorem fI {α : Type} (g : α -> α) (xs:List α):fV g xs 0=xs:=by simp [fV]
theorem eS {α : Type} (g : α -> α) (xs:List α) (i:Nat):(fV g xs i).length=xs.length:=by unfold fV;rw [aK,bN,aW,dB];omega
theorem gD {α : Type} (g : α -> α) (xs:List α):fV g xs xs.length=xs.map g:=by unfold fV;rw [cU,List.drop_length,cC]
theorem fW {α : Type} (g : α -> α) (xs:List α) (i:Nat):(fV g xs i)[i]? = xs[i]?:=by rw [oA,if_neg (Nat.lt_irrefl _)]
theorem fX {α : Type} {g : α -> α} {xs:List α} {i:Nat} {x : α} (h:xs[i]? = some x):(fV g xs i).set i (g x)=fV g xs (i+1):=by
 apply bK
 intro q
 rw [cH,eS,oA,oA]
 have hl:=(aD.1 h).1
 by_cases e:i=q
 ·subst e
  rw [if_pos rfl,if_pos hl,if_pos (by omega),h];rfl
 rw [if_neg e]
 by_cases h2:q < i
 ·rw [if_pos h2,if_pos (by omega)]
 rw [if_neg h2,if_neg (by omega)]
theorem fZ.vals {W:World} {S:Foot} {v:Value} {ps:List PhiD} (h:fZ W S v ps) {j:Nat} {p:PhiD} (hj:ps[j]? = some p) :
  ∃ (g cap:Nat) (af av:Option Addr) (cf cv:Nat) (Sv:Foot),v = .slice (some ⟨g,0,none⟩) ps.length cap/\g < W.heap.size/\S g/\PhiC W g (j * 4) p af av cf cv/\(∀ o,W.frozen? ⟨g,o,none⟩=false) /\
   eP W Sv (.slice av p.vals.length cv) p.vals/\(∀ k,Sv k -> S k) /\ ¬ Sv g /\
   (∀ (W' : World) (vals:List Int),Off Sv W W' -> eP W' Sv (.slice av p.vals.length cv) vals -> fZ W' S v (ps.set j { p with vals:=vals })):=by
 obtain ⟨cs,G,F,hp⟩:=h
 have hjl:=(aD.1 hj).1
 obtain ⟨g,cap,hv,hG, -, -,hgl,hcell,hfr⟩:=hp.row.addr (by omega)
 obtain ⟨⟨a,b,Sf,Sv,hch,h1,h2,h12,i1,i2⟩,hFl,q1,q2⟩:=hp.el j p hj
 obtain ⟨af,cf,rfl⟩:=h1.ints.form
 obtain ⟨av,cv,rfl⟩:=h2.ints.form
 have hc:∀ o u,o < 4 -> (iM cs 4 j)[o]? = some u -> W.cell? ⟨g,j * 4+o,none⟩=some u:=fun o u ho hu=>hcell _ _ (by rw [<-jM ho];exact hu)
 rw [hch] at hc
 have nG:∀ k,F j k -> ¬ G k:=hp.free j hjl
 have inS:∀ k,F j k -> S k:=fun k hk=>hp.inF j k hjl hk
 refine ⟨g,cap,af,av,cf,cv,Sv,hv,hgl,hp.inG g hG,⟨hc 0 _ (by omega) rfl,hc 1 _ (by omega) rfl,hc 2 _ (by omega) rfl,hc 3 _ (by omega) rfl,h1.ints,h2.ints,q1,q2⟩,hfr,h2,fun k hk=>inS k (i2 k hk),fun hk=>nG g (i2 g hk) hG,fun W' vals ho ha => ?_⟩
 have ho2:Off (G.or (F j)) W W':=ho.mono fun k _ hk=>.inr (i2 k hk)
 have hlt:∀ k,S k -> k < W'.heap.size:=fun k hk=>bC (hp.lt k hk) ho.size
 refine ⟨cs,G,_,hp.put OPhi.nice hj { p with vals:=vals } (Fj:=F j) ho2 (hp.row.off ho fun k h1 h2=>nG k (i2 k h2) h1) (fun _ _ _=>rfl) ?_ (fun k hk=>.inl hk) S (fun k hk=>hk) (fun k hk=>inS k hk) hlt⟩
 rw [hch]
 exact ⟨⟨_,_,Sf,Sv,rfl,h1.off ho h12,ha,h12,i1,i2⟩,fun k hk=>hlt k (inS k hk),q1,q2⟩
theorem gV.open {W:World} {S:Foot} {v:Value} {ys:List InstrD} (h:gV W S v ys) {j:Nat} {y:InstrD} (hj:ys[j]? = some y) :
  ∃ (g cap:Nat) (aa:Option Addr) (ca:Nat) (Sa:Foot),v = .slice (some ⟨g,0,none⟩) ys.length cap/\g < W.heap.size/\S g/\InstrC W g (j * 4) y aa ca/\(∀ o,W.frozen? ⟨g,o,none⟩=false) /\
   eP W Sa (.slice aa y.args.length ca) y.args/\(∀ k,Sa k -> S k) /\ ¬ Sa g /\
   (∀ (W' : World) (args:List Int),Off Sa W W' -> eP W' Sa (.slice aa y.args.length ca) args -> gV W' S v (ys.set j { y with args:=args })):=by
 obtain ⟨cs,G,F,hp⟩:=h
 have hjl:=(aD.1 hj).1
 obtain ⟨g,cap,hv,hG, -, -,hgl,hcell,hfr⟩:=hp.row.addr (by omega)
 obtain ⟨⟨a,hch,h1⟩,q1,q2,q3⟩:=hp.el j y hj
 obtain ⟨aa,ca,rfl⟩:=h1.ints.form
 have hc:∀ o u,o < 4 -> (iM cs 4 j)[o]? = some u -> W.cell? ⟨g,j * 4+o,none⟩=some u:=fun o u ho hu=>hcell _ _ (by rw [<-jM ho];exact hu)
 rw [hch] at hc
 have nG:∀ k,F j k -> ¬ G k:=hp.free j hjl
 have inS:∀ k,F j k -> S k:=fun k hk=>hp.inF j k hjl hk
 refine ⟨g,cap,aa,ca,F j,hv,hgl,hp.inG g hG,⟨hc 0 _ (by omega) rfl,hc 1 _ (by omega) rfl,hc 2 _ (by omega) rfl,hc 3 _ (by omega) rfl,h1.ints,q1,q2,q3⟩,hfr,h1,inS,fun hk=>nG g hk hG,fun W' args ho ha => ?_⟩
 have ho2:Off (G.or (F j)) W W':=ho.mono fun k _ hk=>.inr hk
 have hlt:∀ k,S k -> k < W'.heap.size:=fun k hk=>bC (hp.lt k hk) ho.size
 refine ⟨cs,G,_,hp.put OInstr.nice hj { y with args:=args } (Fj:=F j) ho2 (hp.row.off ho fun k h1 h2=>nG k h2 h1) (fun _ _ _=>rfl) ?_ (fun k hk=>.inl hk) S (fun k hk=>hk) inS hlt⟩
 rw [hch]
 exact ⟨⟨_,rfl,ha⟩,q1,q2,q3⟩
theorem eU.opened {W:World} {S:Foot} {v:Value} {xs:List BlockD} (h:eU W S v xs) {j:Nat} {x:BlockD} (hj:xs[j]? = some x) :
  ∃ (g cap:Nat) (ap ai at_:Option Addr) (cp ci ct:Nat) (S1 S2:Foot),v = .slice (some ⟨g,0,none⟩) xs.length cap/\g < W.heap.size/\S g/\BlockC W g (j * 6) x ap ai at_ cp ci ct/\(∀ o,W.frozen? ⟨g,o,none⟩=false) /\
   fZ W S1 (.slice ap x.phis.length cp) x.phis/\gV W S2 (.slice ai x.code.length ci) x.code/\(∀ k,S1 k -> S k)/\(∀ k,S2 k -> S k)/\S1.off S2 /\ ¬ S1 g /\ ¬ S2 g /\
   (∀ (W' : World) (ps:List PhiD) (ys:List InstrD),Off (S1.or S2) W W' -> fZ W' S1 (.slice ap x.phis.length cp) ps -> gV W' S2 (.slice ai x.code.length ci) ys -> eU W' S v (xs.set j { x with phis:=ps,code:=ys })):=by
 obtain ⟨cs,G,F,hp⟩:=h
 have hjl:=(aD.1 hj).1
 obtain ⟨g,cap,hv,hG, -, -,hgl,hcell,hfr⟩:=hp.row.addr (by omega)
 obtain ⟨⟨pv,uv,t,S1,S2,S3,hch,h1,h2,h3,h12,h13,h23,i1,i2,i3⟩,hFl⟩:=hp.el j x hj
 obtain ⟨⟨tv,rfl,hto⟩,q1,q2,q3⟩:=h3
 obtain ⟨ap,cp,rfl⟩:=(h1.reads (R0:=PhiR) fun _ _ _ h=>h.reads).form
 obtain ⟨ai,ci,rfl⟩:=(h2.reads (R0:=gW) fun _ _ _ h=>h.reads).form
 obtain ⟨at_,ct,rfl⟩:=hto.ints.form
 have hc:∀ o u,o < 6 -> (iM cs 6 j)[o]? = some u -> W.cell? ⟨g,j * 6+o,none⟩=some u:=fun o u ho hu=>hcell _ _ (by rw [<-jM ho];exact hu)
 rw [hch] at hc
 have nG:∀ k,F j k -> ¬ G k:=hp.free j hjl
 have inS:∀ k,F j k -> S k:=fun k hk=>hp.inF j k hjl hk
 refine ⟨g,cap,ap,ai,at_,cp,ci,ct,S1,S2,hv,hgl,hp.inG g hG,⟨hc 0 _ (by omega) rfl,hc 1 _ (by omega) rfl,hc 2 _ (by omega) rfl,hc 3 _ (by omega) rfl,hc 4 _ (by omega) rfl,hc 5 _ (by omega) rfl,h1.reads fun _ _ _ h=>h.reads,h2.reads fun _ _ _ h=>h.reads,hto.ints,q1,q2,q3⟩,hfr,h1,h2,
  fun k hk=>inS k (i1 k hk),fun k hk=>inS k (i2 k hk),h12,fun h=>nG g (i1 g h) hG,fun h=>nG g (i2 g h) hG,fun W' ps ys ho hps hys => ?_⟩
 have ho2:Off (G.or (F j)) W W':=ho.mono fun k _ hk=>.inr (hk.elim (i1 k) (i2 k))
 have hlt:∀ k,S k -> k < W'.heap.size:=fun k hk=>bC (hp.lt k hk) ho.size
 refine ⟨cs,G,_,hp.put OBlock.nice hj { x with phis:=ps,code:=ys } (Fj:=F j) ho2 (hp.row.off ho fun k h1 h2=>nG k (h2.elim (i1 k) (i2 k)) h1) (fun _ _ _=>rfl) ?_ (fun k hk=>.inl hk) S (fun k hk=>hk) inS hlt⟩
 rw [hch]
 exact ⟨⟨_,_,_,S1,S2,S3,rfl,hps,hys,⟨⟨_,rfl,hto.off ho fun k a b=>b.elim (fun c=>h13 k c a) (fun c=>h23 k c a)⟩,q1,q2,q3⟩,h12,h13,h23,i1,i2,i3⟩,fun k hk=>hlt k (inS k hk)⟩
theorem eU.val {W:World} {S:Foot} {v:Value} {xs:List BlockD} (h:eU W S v xs) {j:Nat} {x:BlockD} (hj:xs[j]? = some x) {g cap:Nat} (hv:v = .slice (some ⟨g,0,none⟩) xs.length cap) {y:Int} (hy:In64 y) :
  eU (W.setCell ⟨g,j * 6+3,none⟩ (.int .i64 y)) S v (xs.set j { x with term := { x.term with val:=y } }):=by
 obtain ⟨cs,G,F,hp⟩:=h
 have hjl:=(aD.1 hj).1
 have hn:0 < xs.length:=by omega
 have hG:G g:=by
  obtain ⟨g',cap',hv',hg', -⟩:=hp.row.addr hn
  rw [hv] at hv';cases hv';exact hg'
 have hel:=hp.el j x hj
 obtain ⟨⟨pv,uv,t,S1,S2,S3,hch,h1,h2,h3,h12,h13,h23,i1,i2,i3⟩,hFl⟩:=hel
 obtain ⟨⟨tv,rfl,hto⟩,q1,q2,q3⟩:=h3
 have hoff:=Off.set W ⟨g,j * 6+3,none⟩ (.int .i64 y)
 have hFi:∀ k,F j k -> k ≠ g:=fun k hk e=>hp.free j hjl k hk (by rw [e];exact hG)
 have hnew:OBlock (W.setCell ⟨g,j * 6+3,none⟩ (.int .i64 y)) (F j) (iM (cs.set (j * 6+3) (.int .i64 y)) 6 j) { x with term := { x.term with val:=y } }:=by
  rw [eZ (by omega),hch]
  exact ⟨⟨pv,uv,_,S1,S2,S3,rfl,h1.off OPhi.nice hoff (fun k hk e=>hFi k (i1 k hk) e),h2.off OInstr.nice hoff (fun k hk e=>hFi k (i2 k hk) e),⟨⟨tv,rfl,hto.off hoff (fun k hk e=>hFi k (i3 k hk) e)⟩,q1,hy,q3⟩,h12,h13,h23,i1,i2,i3⟩,fun k hk=>by simpa [World.setCell] using hFl k hk⟩
 exact ⟨_,G,_,hp.put OBlock.nice hj _ (Fj:=F j) (hoff.mono fun k _ hk=>by cases hk;exact .inl hG) (hp.row.set hv (by omega) (j * 6+3) _) (fun q hq hne=>iC hne (by omega)) hnew (fun k hk=>.inl hk) S (fun k hk=>hk) (fun k hk=>hp.inF j k hjl hk) (fun k hk=>by simpa [World.setCell] using hp.lt k hk)⟩
theorem xR (g:Int -> Int) (x:BlockD):mapB g x = { x with phis:=x.phis.map (mapP g),code:=x.code.map (mapX g),term:=mapT g x.term }:=rfl
end
section
open Go.RowKit
private theorem fU.alloc {w0 W:World} (h:fU w0 W) (o:Obj):fU w0 (W.alloc o):=h.later ((Below.refl _ _).alloc (aA _) o)
def qL (k:FuncId) (cap:Array Value) (to:Int -> Int) (D:Foot) (w:World):Prop := ∀ (W:World) (v:Int),In64 v -> Off D w W -> Calls Tryz.prog k (#[.int .i64 v] ++ cap) W fun e W'=>e = .returned (.int .i64 (to v))/\Below W.heap.size W W'
theorem qL.off {k:FuncId} {cap:Array Value} {to:Int -> Int} {D:Foot} {w W:World} (h:qL k cap to D w) (ho:Off D w W):qL k cap to D W:=fun W' v hv h2=>h W' v hv (ho.trans h2)
def aC8 (w:World) (g o:Nat) (x:BlockD) (ap ai:Option Addr) (cp ci:Nat) (S1 S2:Foot) (to:Int -> Int) (e:Ending) (w' : World):Prop :=
 ∃ W1,e = .returned (.tuple #[])/\Off (S1.or S2) w W1/\fZ W1 S1 (.slice ap x.phis.length cp) (x.phis.map (mapP to))/\gV W1 S2 (.slice ai x.code.length ci) (x.code.map (mapX to)) /\
  (((x.term.op=2 \/ x.term.op=3)/\w' = W1.setCell ⟨g,o+3,none⟩ (.int .i64 (to x.term.val))) \/ (¬ (x.term.op=2 \/ x.term.op=3)/\w' = W1))
set_option maxRecDepth 100000 in
theorem yB {w:World} {g o:Nat} {x:BlockD} {ap ai at_:Option Addr} {cp ci ct:Nat} {S1 S2 D:Foot} {k:FuncId} {cap:Array Value} {to:Int -> Int} (hC:BlockC w g o x ap ai at_ cp ci ct) (hgl:g < w.heap.size) (hfr:∀ o,w.frozen? ⟨g,o,none⟩=false)
  (h1:fZ w S1 (.slice ap x.phis.length cp) x.phis) (h2:gV w S2 (.slice ai x.code.length ci) x.code) (n1:¬ S1 g) (n2:¬ S2 g) (h12:S1.off S2) (d1:∀ q,S1 q -> D q) (d2:∀ q,S2 q -> D q)
  (eg:Enters Tryz.prog k) (hto:∀ v,In64 v -> In64 (to v)) (hstep:qL k cap to D w) :
  Calls Tryz.prog 92 #[.pointer (some ⟨g,o,none⟩),.func (.func k) #[] cap] w (aC8 w g o x ap ai cp ci S1 S2 to):=by
 have eg1:∀ (args:Array Value) (w:World),(callFunc k args).run Tryz.prog w = .ok (.enter k args) w:=eg
 have c0:=hC.c0
 have c1:=hC.c1
 have c2:=hC.c2
 have c3:=hC.c3
 have HC1:=h! c1
 have HC2:=h! c2
 have HC3:=h! c3
 have HV64:=h! hC.val64
 have HFR:=h! hfr
 have H1:=h! h1
 have H2:=h! h2
 have H12:=h! h12
 have HD1:=h! d1
 have HD2:=h! d2
 have HTO:=h! hto
 have HST:=h! hstep
 have HN1:=h! n1
 have HN2:=h! n2
 have hb1:x.phis.length <= 17592186044416:=by obtain ⟨cs,G,F,hp⟩:=h1;exact hp.row.big
 have hb2:x.code.length <= 17592186044416:=by obtain ⟨cs,G,F,hp⟩:=h2;exact hp.row.big
 obtain ⟨np,hnp⟩ : ∃ np,np=x.phis.length:=⟨_,rfl⟩
 obtain ⟨nc,hnc⟩ : ∃ nc,nc=x.code.length:=⟨_,rfl⟩
 rw [<-hnp] at c0 H1 hb1
 rw [<-hnc] at HC1 H2 hb2
 have HNP:=h! hnp
 have HNC:=h! hnc
 clear c1 c2 c3 hC hfr h1 h2 h12 d1 d2 hto hstep n1 n2 hnp hnc
 go_enter Tryz.func92,Tryz.ntmps92
 go_wp2_with fail
 clear c0
 go_loopw [17] (fun iv wr => ∃ i:Nat,i <= np/\iv = .int .i64 i/\fZ wr S1 (.slice ap np cp) (fV (mapP to) x.phis i)/\Off S1 w wr) (fun iv _=>np - (intOf iv).toNat)
 case atStart=>exact ⟨0,aI _,rfl,by rw [fI];exact H1.out,Off.refl _ _⟩
 case round =>
  obtain ⟨i,hi,rfl,hol,ho⟩:=hrel
  have HOF:=h! ho
  have HOL:=h! hol
  clear hol ho
  by_cases hlt:i < np
  ·obtain ⟨p,hp⟩ : ∃ p,x.phis[i]? = some p:=⟨_,aC (by rw [<-HNP.out];exact hlt)⟩
   obtain ⟨g1,cap1,af,av,cf,cv,Sv,hv,hgl1,hSg,hPC,hfr1,hOv,hSv,hnv,hclose⟩:=fZ.vals HOL.out (j:=i) (p:=p) (by rw [fW];exact hp)
   rw [eS, <-HNP.out] at hv
   injection hv with e1 e2 e3
   subst e1
   subst e3
   have HP:=h! hp
   have HOV:=h! hOv
   have HSV:=h! hSv
   have HCL:=h! hclose
   have m0:=hPC.c0
   have m1:=hPC.c1
   have m2:=hPC.c2
   have m3:=hPC.c3
   have hvb:p.vals.length <= 17592186044416:=hOv.1.big
   obtain ⟨nv,hnv'⟩ : ∃ nv,nv=p.vals.length:=⟨_,rfl⟩
   obtain ⟨nf,hnf⟩ : ∃ nf,nf=p.src.length:=⟨_,rfl⟩
   rw [<-hnv'] at m3 HOV HCL hvb
   rw [<-hnf] at m2
   have HNV:=h! hnv'
   clear hp hOv hSv hclose hPC hSg hfr1 hnv hnv' hnf e2
   go_upto_region 3 with (fail)
   clear m0 m1 m2 m3
   have HB5:Hid (Below wr.heap.size wr (wr.alloc (.cells #[.int .i64 p.id,.int .i64 p.typ,.slice af nf cf,.slice av nv cv] 78))):=h! ((Below.refl _ _).alloc (aA _) _)
   have B5:=h! (Box.new wr #[.int .i64 p.id,.int .i64 p.typ,.slice af nf cf,.slice av nv cv] 78)
   obtain ⟨b5,hb5⟩ : ∃ b5,b5=wr.heap.size:=⟨_,rfl⟩
   have HSL:Hid (∀ q,Sv q -> q < b5):=h! (fun q hq=>by rw [hb5];exact HOV.out.lt q hq)
   rw [<-hb5] at B5 ⊢
   generalize wr.alloc (.cells #[.int .i64 p.id,.int .i64 p.typ,.slice af nf cf,.slice av nv cv] 78)=w5 at *
   have HO5:Hid (Off S1 w w5):=h! (HOF.out.trans (Off.of_below HB5.out _))
   have HV5:Hid (eP w5 Sv (.slice av nv cv) p.vals):=h! (HOV.out.off (Off.of_below HB5.out Foot.none) (fun _ _ h=>h))
   have HCL5:Hid (∀ (W' : World) (vals:List Int),Off Sv w5 W' -> eP W' Sv (.slice av nv cv) vals -> fZ W' S1 (.slice (some ⟨g1,0,none⟩) np cp) ((fV (mapP to) x.phis i).set i { p with vals:=vals })):=h! (fun W' vals h3 h4=>HCL.out W' vals ((Off.of_below HB5.out _).trans h3) h4)
   clear hb5 HB5 HOV HCL HOL HOF
   obtain ⟨l5,k5,f5⟩:=B5.out
   go_wp2_with fail
   clear l5 k5 f5
   go_loopw [24] (fun iv wr => ∃ q:Nat,q <= nv/\iv = .int .i64 q/\eP wr Sv (.slice av nv cv) (fV to p.vals q)/\Off Sv w5 wr) (fun iv _=>nv - (intOf iv).toNat)
   case atStart=>exact ⟨0,aI _,rfl,by rw [fI];exact HV5.out,Off.refl _ _⟩
   obtain ⟨q,hq,rfl,hoi,ho⟩:=hrel
   have HOI:=h! hoi
   have HOI2:=h! ho
   clear hoi ho
   by_cases hqt:q < nv
   ·obtain ⟨v,hv⟩ : ∃ v,p.vals[q]? = some v:=⟨_,aC (by rw [<-HNV.out];exact hqt)⟩
    obtain ⟨gv,capv,hve,hSgv,hglv,hcell,hfrv, -⟩:=HOI.out.addr (i:=q) (x:=v) (by rw [fW];exact hv)
    rw [eS, <-HNV.out] at hve
    injection hve with e1 e2 e3
    subst e1
    subst e3
    have hv64:=HV5.out.2 v (aG hv)
    have HVQ:=h! hv
    have HV6:=h! hv64
    have HSG:=h! hSgv
    have HFRV:=h! hfrv
    have HCEL:=h! hcell
    have HRR:Hid (fU wr wr):=h! (Below.refl _ _)
    have B5R:Hid (Box wr b5 #[.int .i64 p.id,.int .i64 p.typ,.slice af nf cf,.slice (some ⟨gv,0,none⟩) nv cv]):=h! (B5.out.off HOI2.out (fun h=>by have:=HSL.out _ h;omega))
    clear hv hSgv hfrv e2 hv64
    obtain ⟨lB5R,cB5R,fB5R⟩:=B5R.out
    go_upto_region 6 with (fail)
    clear hcell
    refine wp_region_grow 7 (fun kz=>match kz with | 5=>.const (.int .i64 (to v)) | _=>.plain) (by kernel_rfl) (by kernel_rfl) ?_ (fun ν => ?_)
    ·(intro k;(try dsimp only);split <;> first | exact True.intro | (intro u w1 w2 hu hb;exact hu.below hb))
    simp only [aO,aV,aS,aX]
    iterate 5 (refine Grow.val (v := ?_) rfl rfl (fun wg hbg hdg => ?_) ?_;rotate_left;(focus ((obtain ⟨lg0,cg0,fg0⟩:=B5R.out.later hbg);clear hbg hdg;first | (go_simp;done) | (go_simp;with_reducible rfl)));simp only [Act.put,aB,aE,aF])
    refine Grow.call (f := ?_) (args := ?_) rfl (fun wg => ?_) (fun wg hbg hdg => ?_) ?_
    rotate_left 2
    focus (first | (go_simp;done) | (go_simp;refine And.intro ?_ ?_ <;> with_reducible rfl) | (go_simp;with_reducible rfl))
    focus exact Calls.mono (HST.out wg v HV6.out (((HO5.out.mono fun q _ h=>HD1.out q h).trans (HOI2.out.mono fun q _ h=>HD1.out q (HSV.out q h))).trans (Off.of_below hbg D))) (fun e w2 ⟨he,hb2⟩=>⟨_,he,rfl,hb2⟩)
    simp only [Act.put,Known.val,aB,aE,aF]
    refine Grow.val (v := ?_) rfl rfl (fun wg hbg hdg => ?_) ?_
    rotate_left
    focus ((obtain ⟨lg0,cg0,fg0⟩:=B5R.out.later hbg);clear hbg hdg;first | (go_simp;done) | (go_simp;with_reducible rfl))
    simp only [Act.put,aB,aE,aF]
    intro wg hb hf hap
    clear hap
    clear lB5R cB5R fB5R
    replace B5R:=h! (B5R.out.later hb)
    replace HRR:=h! (HRR.out.later hb)
    obtain ⟨lB5R,cB5R,fB5R⟩:=B5R.out
    clear hf
    have hcl2:=(HRR.out.cell (p:=⟨gv,q,none⟩) hglv).trans HCEL.out
    have hfz2:∀ o,wg.frozen? ⟨gv,o,none⟩=false:=fun o=>(HRR.out.frozen (p:=⟨gv,o,none⟩) hglv).trans (HFRV.out o)
    have HNX:Hid (eP (wg.setCell ⟨gv,q,none⟩ (.int .i64 (to v))) Sv (.slice (some ⟨gv,0,none⟩) nv cv) (fV to p.vals (q+1))):=h! (by
     have h9:=eP.set (HOI.out.off (Off.of_below HRR.out Foot.none) (fun _ _ h=>h)) (g:=gv) (cap:=cv) (by rw [eS, <-HNV.out]) (i:=q) (by rw [eS, <-HNV.out];exact hqt) (HTO.out v HV6.out)
     rw [fX HVQ.out] at h9
     exact h9)
    have HNO:Hid (Off Sv w5 (wg.setCell ⟨gv,q,none⟩ (.int .i64 (to v)))):=h! ((HOI2.out.trans (Off.of_below HRR.out _)).trans ((Off.set wg ⟨gv,q,none⟩ _).mono fun z _ hz=>by have h9:z=gv:=hz;rw [h9];exact HSG.out))
    clear lB5R cB5R fB5R
    go_wp2
    clear hcl2 hfz2
    go_roundw
    case rel=>exact ⟨q+1,hqt,by go_num,HNX.out,HNO.out⟩
    simp [intOf];omega
   obtain rfl:nv=q:=by omega
   have HNX:Hid (fZ wr S1 (.slice (some ⟨g1,0,none⟩) np cp) (fV (mapP to) x.phis (i+1))):=h! (by
    have h9:=HOI.out
    rw [HNV.out,gD, <-HNV.out] at h9
    have h8:=HCL5.out wr _ HOI2.out h9
    have h7:=fX (g:=mapP to) HP.out
    rw [<-h7]
    exact h8)
   have HNO:Hid (Off S1 w wr):=h! (HO5.out.trans (HOI2.out.mono fun z _ hz=>HSV.out z hz))
   go_wp2
   go_roundw
   case rel=>exact ⟨i+1,hlt,by go_num,HNX.out,HNO.out⟩
   simp [intOf];omega
  obtain rfl:np=i:=by omega
  have HPW:Hid (fZ wr S1 (.slice ap np cp) (x.phis.map (mapP to))):=h! (by have h9:=HOL.out;rw [HNP.out,gD, <-HNP.out] at h9;exact h9)
  obtain ⟨W2,hW2⟩ : ∃ W2,W2=wr:=⟨_,rfl⟩
  rw [<-hW2] at HPW HOF ⊢
  clear hW2
  have c1:=(HOF.out.cell (b:=g) (o:=o+1) hgl HN1.out).trans HC1.out
  have HC2W:Hid (gV W2 S2 (.slice ai nc ci) x.code):=h! (H2.out.off OInstr.nice HOF.out (fun z a b=>H12.out z b a))
  have HO2:=HOF
  clear HOL hlt hi HOF
  go_wp2_with fail
  clear c1
  go_loopw [43] (fun iv wr => ∃ i:Nat,i <= nc/\iv = .int .i64 i/\gV wr S2 (.slice ai nc ci) (fV (mapX to) x.code i)/\Off S2 W2 wr) (fun iv _=>nc - (intOf iv).toNat)
  case atStart=>exact ⟨0,aI _,rfl,by rw [fI];exact HC2W.out,Off.refl _ _⟩
  obtain ⟨i,hi,rfl,hol,ho⟩:=hrel
  have HOF:=h! ho
  have HOL:=h! hol
  clear hol ho
  by_cases hlt:i < nc
  ·obtain ⟨y,hy⟩ : ∃ y,x.code[i]? = some y:=⟨_,aC (by rw [<-HNC.out];exact hlt)⟩
   obtain ⟨g1,cap1,aa,ca,Sv,hv,hgl1,hSg,hPC,hfr1,hOv,hSv,hnv,hclose⟩:=gV.open HOL.out (j:=i) (y:=y) (by rw [fW];exact hy)
   rw [eS, <-HNC.out] at hv
   injection hv with e1 e2 e3
   subst e1
   subst e3
   have HP:=h! hy
   have HOV:=h! hOv
   have HSV:=h! hSv
   have HCL:=h! hclose
   have m0:=hPC.c0
   have m1:=hPC.c1
   have m2:=hPC.c2
   have m3:=hPC.c3
   have hvb:y.args.length <= 17592186044416:=hOv.1.big
   obtain ⟨nv,hnv'⟩ : ∃ nv,nv=y.args.length:=⟨_,rfl⟩
   rw [<-hnv'] at m2 HOV HCL hvb
   have HNV:=h! hnv'
   clear hy hOv hSv hclose hPC hSg hfr1 hnv hnv' e2
   go_upto_region 12 with (fail)
   clear m0 m1 m2 m3
   have HB5:Hid (Below wr.heap.size wr (wr.alloc (.cells #[.int .i64 y.op,.int .i64 y.id,.slice aa nv ca,.int .i64 y.n] 82))):=h! ((Below.refl _ _).alloc (aA _) _)
   have B5:=h! (Box.new wr #[.int .i64 y.op,.int .i64 y.id,.slice aa nv ca,.int .i64 y.n] 82)
   obtain ⟨b5,hb5⟩ : ∃ b5,b5=wr.heap.size:=⟨_,rfl⟩
   have HSL:Hid (∀ q,Sv q -> q < b5):=h! (fun q hq=>by rw [hb5];exact HOV.out.lt q hq)
   rw [<-hb5] at B5 ⊢
   generalize wr.alloc (.cells #[.int .i64 y.op,.int .i64 y.id,.slice aa nv ca,.int .i64 y.n] 82)=w5 at *
   have HO5:Hid (Off S2 W2 w5):=h! (HOF.out.trans (Off.of_below HB5.out _))
   have HV5:Hid (eP w5 Sv (.slice aa nv ca) y.args):=h! (HOV.out.off (Off.of_below HB5.out Foot.none) (fun _ _ h=>h))
   have HCL5:Hid (∀ (W' : World) (args:List Int),Off Sv w5 W' -> eP W' Sv (.slice aa nv ca) args -> gV W' S2 (.slice (some ⟨g1,0,none⟩) nc ci) ((fV (mapX to) x.code i).set i { y with args:=args })):=h! (fun W' args h3 h4=>HCL.out W' args ((Off.of_below HB5.out _).trans h3) h4)
   clear hb5 HB5 HOV HCL HOL HOF
   obtain ⟨l5,k5,f5⟩:=B5.out
   go_wp2_with fail
   clear l5 k5 f5
   go_loopw [50] (fun iv wr => ∃ q:Nat,q <= nv/\iv = .int .i64 q/\eP wr Sv (.slice aa nv ca) (fV to y.args q)/\Off Sv w5 wr) (fun iv _=>nv - (intOf iv).toNat)
   case atStart=>exact ⟨0,aI _,rfl,by rw [fI];exact HV5.out,Off.refl _ _⟩
   obtain ⟨q,hq,rfl,hoi,ho⟩:=hrel
   have HOI:=h! hoi
   have HOI2:=h! ho
   clear hoi ho
   by_cases hqt:q < nv
   ·obtain ⟨v,hv⟩ : ∃ v,y.args[q]? = some v:=⟨_,aC (by rw [<-HNV.out];exact hqt)⟩
    obtain ⟨gv,capv,hve,hSgv,hglv,hcell,hfrv, -⟩:=HOI.out.addr (i:=q) (x:=v) (by rw [fW];exact hv)
    rw [eS, <-HNV.out] at hve
    injection hve with e1 e2 e3
    subst e1
    subst e3
    have hv64:=HV5.out.2 v (aG hv)
    have HVQ:=h! hv
    have HV6:=h! hv64
    have HSG:=h! hSgv
    have HFRV:=h! hfrv
    have HCEL:=h! hcell
    have HRR:Hid (fU wr wr):=h! (Below.refl _ _)
    have B5R:Hid (Box wr b5 #[.int .i64 y.op,.int .i64 y.id,.slice (some ⟨gv,0,none⟩) nv ca,.int .i64 y.n]):=h! (B5.out.off HOI2.out (fun h=>by have:=HSL.out _ h;omega))
    clear hv hSgv hfrv e2 hv64
    obtain ⟨lB5R,cB5R,fB5R⟩:=B5R.out
    go_upto_region 15 with (fail)
    clear hcell
    refine wp_region_grow 7 (fun kz=>match kz with | 5=>.const (.int .i64 (to v)) | _=>.plain) (by kernel_rfl) (by kernel_rfl) ?_ (fun ν => ?_)
    ·(intro k;(try dsimp only);split <;> first | exact True.intro | (intro u w1 w2 hu hb;exact hu.below hb))
    simp only [aO,aV,aS,aX]
    iterate 5 (refine Grow.val (v := ?_) rfl rfl (fun wg hbg hdg => ?_) ?_;rotate_left;(focus ((obtain ⟨lg0,cg0,fg0⟩:=B5R.out.later hbg);clear hbg hdg;first | (go_simp;done) | (go_simp;with_reducible rfl)));simp only [Act.put,aB,aE,aF])
    refine Grow.call (f := ?_) (args := ?_) rfl (fun wg => ?_) (fun wg hbg hdg => ?_) ?_
    rotate_left 2
    focus (first | (go_simp;done) | (go_simp;refine And.intro ?_ ?_ <;> with_reducible rfl) | (go_simp;with_reducible rfl))
    focus exact Calls.mono (HST.out wg v HV6.out ((((HO2.out.mono fun q _ h=>HD1.out q h).trans (HO5.out.mono fun q _ h=>HD2.out q h)).trans (HOI2.out.mono fun q _ h=>HD2.out q (HSV.out q h))).trans (Off.of_below hbg D))) (fun e w2 ⟨he,hb2⟩=>⟨_,he,rfl,hb2⟩)
    simp only [Act.put,Known.val,aB,aE,aF]
    refine Grow.val (v := ?_) rfl rfl (fun wg hbg hdg => ?_) ?_
    rotate_left
    focus ((obtain ⟨lg0,cg0,fg0⟩:=B5R.out.later hbg);clear hbg hdg;first | (go_simp;done) | (go_simp;with_reducible rfl))
    simp only [Act.put,aB,aE,aF]
    intro wg hb hf hap
    clear hap
    clear lB5R cB5R fB5R
    replace B5R:=h! (B5R.out.later hb)
    replace HRR:=h! (HRR.out.later hb)
    obtain ⟨lB5R,cB5R,fB5R⟩:=B5R.out
    clear hf
    have hcl2:=(HRR.out.cell (p:=⟨gv,q,none⟩) hglv).trans HCEL.out
    have hfz2:∀ o,wg.frozen? ⟨gv,o,none⟩=false:=fun o=>(HRR.out.frozen (p:=⟨gv,o,none⟩) hglv).trans (HFRV.out o)
    have HNX:Hid (eP (wg.setCell ⟨gv,q,none⟩ (.int .i64 (to v))) Sv (.slice (some ⟨gv,0,none⟩) nv ca) (fV to y.args (q+1))):=h! (by
     have h9:=eP.set (HOI.out.off (Off.of_below HRR.out Foot.none) (fun _ _ h=>h)) (g:=gv) (cap:=ca) (by rw [eS, <-HNV.out]) (i:=q) (by rw [eS, <-HNV.out];exact hqt) (HTO.out v HV6.out)
     rw [fX HVQ.out] at h9
     exact h9)
    have HNO:Hid (Off Sv w5 (wg.setCell ⟨gv,q,none⟩ (.int .i64 (to v)))):=h! ((HOI2.out.trans (Off.of_below HRR.out _)).trans ((Off.set wg ⟨gv,q,none⟩ _).mono fun z _ hz=>by have h9:z=gv:=hz;rw [h9];exact HSG.out))
    clear lB5R cB5R fB5R
    go_wp2
    clear hcl2 hfz2
    go_roundw
    case rel=>exact ⟨q+1,hqt,by go_num,HNX.out,HNO.out⟩
    simp [intOf];omega
   obtain rfl:nv=q:=by omega
   have HNX:Hid (gV wr S2 (.slice (some ⟨g1,0,none⟩) nc ci) (fV (mapX to) x.code (i+1))):=h! (by
    have h9:=HOI.out
    rw [HNV.out,gD, <-HNV.out] at h9
    have h8:=HCL5.out wr _ HOI2.out h9
    have h7:=fX (g:=mapX to) HP.out
    rw [<-h7]
    exact h8)
   have HNO:Hid (Off S2 W2 wr):=h! (HO5.out.trans (HOI2.out.mono fun z _ hz=>HSV.out z hz))
   go_wp2
   go_roundw
   case rel=>exact ⟨i+1,hlt,by go_num,HNX.out,HNO.out⟩
   simp [intOf];omega
  obtain rfl:nc=i:=by omega
  have HCW:Hid (gV wr S2 (.slice ai nc ci) (x.code.map (mapX to))):=h! (by have h9:=HOL.out;rw [HNC.out,gD, <-HNC.out] at h9;exact h9)
  have HPW3:Hid (fZ wr S1 (.slice ap np cp) (x.phis.map (mapP to))):=h! (HPW.out.off OPhi.nice HOF.out H12.out)
  have HO3:Hid (Off (S1.or S2) w wr):=h! ((HO2.out.mono fun q _ h=>.inl h).trans (HOF.out.mono fun q _ h=>.inr h))
  have hng:¬ (S1.or S2) g:=fun h=>h.elim HN1.out HN2.out
  have c2:=(HO3.out.cell (b:=g) (o:=o+2) hgl hng).trans HC2.out
  have c3:=(HO3.out.cell (b:=g) (o:=o+3) hgl hng).trans HC3.out
  have hgr:g < wr.heap.size:=bC hgl HO3.out.size
  have HFR3:Hid (∀ o,wr.frozen? ⟨g,o,none⟩=false):=h! (fun o=>(HO3.out.frozen (b:=g) (o:=o) hgl hng).trans (HFR.out o))
  have HC33:=h! c3
  clear HOL hlt hi HOF HPW HO2
  obtain ⟨top,htop⟩ : ∃ top,top=x.term.op:=⟨_,rfl⟩
  rw [<-htop] at c2
  have HTOP:=h! htop
  clear htop
  by_cases ho2:top=2
  ·have hq:(top == 2)=true:=by simpa using ho2
   have HOP:Hid (x.term.op=2 \/ x.term.op=3):=h! (.inl (by rw [<-HTOP.out];exact ho2))
   clear ho2
   have HCALL:=h! (HST.out wr x.term.val HV64.out (HO3.out.mono fun q _ h=>h.elim (HD1.out q) (HD2.out q)))
   go_wp2_with (go_at_fn k;refine HCALL.out.mono ?_;rintro e w9 ⟨rfl,hb⟩;have HB9:=h! hb;have c39:=(hb.cell (p:=⟨g,o+3,none⟩) hgr).trans HC33.out;have f39:∀ o,w9.frozen? ⟨g,o,none⟩=false:=(fun o=>(hb.frozen (p:=⟨g,o,none⟩) hgr).trans (HFR3.out o));clear hb)
   refine bodyPost_end (v:=.tuple #[]) (by simp [results,Tryz.results92,go_sem, *]) rfl ⟨w9,rfl,HO3.out.trans (Off.of_below HB9.out _),by rw [<-HNP.out];exact HPW3.out.off OPhi.nice (Off.of_below HB9.out Foot.none) (fun _ _ h=>h),by rw [<-HNC.out];exact HCW.out.off OInstr.nice (Off.of_below HB9.out Foot.none) (fun _ _ h=>h),.inl ⟨HOP.out,rfl⟩⟩
  have hq:(top == 2)=false:=by simpa using ho2
  by_cases ho3:top=3
  ·have hq3:(top == 3)=true:=by simpa using ho3
   have HOP:Hid (x.term.op=2 \/ x.term.op=3):=h! (.inr (by rw [<-HTOP.out];exact ho3))
   clear ho2 ho3
   have HCALL:=h! (HST.out wr x.term.val HV64.out (HO3.out.mono fun q _ h=>h.elim (HD1.out q) (HD2.out q)))
   go_wp2_with (go_at_fn k;refine HCALL.out.mono ?_;rintro e w9 ⟨rfl,hb⟩;have HB9:=h! hb;have c39:=(hb.cell (p:=⟨g,o+3,none⟩) hgr).trans HC33.out;have f39:∀ o,w9.frozen? ⟨g,o,none⟩=false:=(fun o=>(hb.frozen (p:=⟨g,o,none⟩) hgr).trans (HFR3.out o));clear hb)
   refine bodyPost_end (v:=.tuple #[]) (by simp [results,Tryz.results92,go_sem, *]) rfl ⟨w9,rfl,HO3.out.trans (Off.of_below HB9.out _),by rw [<-HNP.out];exact HPW3.out.off OPhi.nice (Off.of_below HB9.out Foot.none) (fun _ _ h=>h),by rw [<-HNC.out];exact HCW.out.off OInstr.nice (Off.of_below HB9.out Foot.none) (fun _ _ h=>h),.inl ⟨HOP.out,rfl⟩⟩
  have hq3:(top == 3)=false:=by simpa using ho3
  have HOP:Hid (¬ (x.term.op=2 \/ x.term.op=3)):=h! (by rw [<-HTOP.out];exact fun h=>h.elim ho2 ho3)
  clear ho2 ho3
  go_wp2
  refine bodyPost_end (v:=.tuple #[]) (by simp [results,Tryz.results92,go_sem, *]) rfl ⟨wr,rfl,HO3.out,by rw [<-HNP.out];exact HPW3.out,by rw [<-HNC.out];exact HCW.out,.inr ⟨HOP.out,rfl⟩⟩
def MapR (w:World) (S:Foot) (bv:Value) (xs:List BlockD) (to:Int -> Int) (e:Ending) (w' : World):Prop:=e = .returned (.tuple #[])/\Off S w w' /\ eU w' S bv (xs.map (mapB to))
theorem aBF {W W1 w9:World} {S S1 S2:Foot} {xs:List BlockD} {ab:Option Addr} {cb g i:Nat} {x:BlockD} {to:Int -> Int} (hx:xs[i]? = some x) (hto:In64 (to x.term.val)) (hg:ab=some ⟨g,0,none⟩)
  (h1:eU W1 S (.slice ab xs.length cb) ((fV (mapB to) xs i).set i { x with phis:=x.phis.map (mapP to),code:=x.code.map (mapX to) }))
  (hc:((x.term.op=2 \/ x.term.op=3)/\w9=W1.setCell ⟨g,i * 6+3,none⟩ (.int .i64 (to x.term.val))) \/ (¬ (x.term.op=2 \/ x.term.op=3)/\w9=W1)) :
  eU w9 S (.slice ab xs.length cb) (fV (mapB to) xs (i+1)):=by
 have hil:i < xs.length:=(aD.1 hx).1
 rw [<-fX (g:=mapB to) hx]
 rcases hc with ⟨ho,rfl⟩ | ⟨ho,rfl⟩
 ·have h2:=eU.val h1 (j:=i) (x := { x with phis:=x.phis.map (mapP to),code:=x.code.map (mapX to) }) (by rw [List.getElem?_set_self (by rw [eS];exact hil)]) (g:=g) (cap:=cb) (by rw [cI,eS,hg]) hto
  rw [List.set_set] at h2
  have e:mapB to x = { x with phis:=x.phis.map (mapP to),code:=x.code.map (mapX to),term := { x.term with val:=to x.term.val } }:=by
   rw [xR];unfold mapT;rw [if_pos ho]
  rw [e];exact h2
 ·have e:mapB to x = { x with phis:=x.phis.map (mapP to),code:=x.code.map (mapX to) }:=by
   rw [xR];unfold mapT;rw [if_neg ho]
  rw [e];exact h1
set_option maxRecDepth 100000 in
theorem mapC {w:World} {b cb:Nat} {ab:Option Addr} {xs:List BlockD} {S:Foot} {k:FuncId} {cap:Array Value} {to:Int -> Int} (hc:w.cell? ⟨b,3,none⟩=some (.slice ab xs.length cb)) (hbl:b < w.heap.size) (hbS:¬ S b)
  (hO:eU w S (.slice ab xs.length cb) xs) (eg:Enters Tryz.prog k) (hto:∀ v,In64 v -> In64 (to v)) (hstep:qL k cap to S w) :
  Calls Tryz.prog 49 #[.pointer (some ⟨b,0,none⟩),.func (.func k) #[] cap] w (MapR w S (.slice ab xs.length cb) xs to):=by
 have HC:=h! hc
 have HO:=h! hO
 have HTO:=h! hto
 have HST:=h! hstep
 have HEG:=h! eg
 have hnb:xs.length <= 17592186044416:=by obtain ⟨cs,G,F,hp⟩:=hO;exact hp.row.big
 obtain ⟨nb,hnb'⟩ : ∃ nb,nb=xs.length:=⟨_,rfl⟩
 rw [<-hnb'] at hc hnb HC HO ⊢
 have HNB:=h! hnb'
 have HBS:=h! hbS
 clear hO hto hstep eg hnb' hbS
 go_enter Tryz.func49,Tryz.ntmps49
 go_wp2_with fail
 clear hc
 go_loopw [10] (fun iv wr => ∃ i:Nat,i <= nb/\iv = .int .i64 i/\eU wr S (.slice ab nb cb) (fV (mapB to) xs i)/\Off S w wr) (fun iv _=>nb - (intOf iv).toNat)
 case atStart=>exact ⟨0,aI _,rfl,by rw [fI];exact HO.out,Off.refl _ _⟩
 case round =>
  obtain ⟨i,hi,rfl,hol,ho⟩:=hrel
  have HOF:=h! ho
  have HOL:=h! hol
  clear hol ho
  by_cases hlt:i < nb
  ·obtain ⟨x,hx⟩ : ∃ x,xs[i]? = some x:=⟨_,aC (by rw [<-HNB.out];exact hlt)⟩
   obtain ⟨g,cap',ap,ai,at_,cp,ci,ct,S1,S2,hv,hgl,hSg,hBC,hfr,hO1,hO2,d1,d2,h12,n1,n2,hclose⟩:=eU.opened HOL.out (j:=i) (x:=x) (by rw [fW];exact hx)
   rw [eS, <-HNB.out] at hv
   injection hv with e1 e2 e3
   subst e1
   subst e3
   have HX:=h! hx
   have HCL:=h! hclose
   have HSG:=h! hSg
   have HD1:=h! d1
   have HD2:=h! d2
   have hv64:=hBC.val64
   have HV64:=h! hv64
   have HCALL:=h! (yB hBC hgl hfr hO1 hO2 n1 n2 h12 d1 d2 HEG.out HTO.out (HST.out.off HOF.out))
   have c3:=(HOF.out.cell (b:=b) (o:=3) hbl HBS.out).trans HC.out
   clear hx hclose hSg d1 d2 hBC hfr hO1 hO2 h12 n1 n2 e2 hgl hv64
   go_wp2_with (refine HCALL.out.mono ?_;rintro e w9 ⟨W1,rfl,hoff,hps,hcs,hcase⟩;have HNX:Hid (eU w9 S (.slice (some ⟨g,0,none⟩) nb cb) (fV (mapB to) xs (i+1))):=h! (by rw [HNB.out];exact aBF (W:=wr) (S1:=S1) (S2:=S2) HX.out (HTO.out _ HV64.out) rfl (by rw [<-HNB.out];exact HCL.out W1 _ _ hoff hps hcs) hcase);have HNO:Hid (Off S w w9):=h! (HOF.out.trans ((hoff.mono fun q _ h=>h.elim (HD1.out q) (HD2.out q)).trans (by rcases hcase with ⟨_,rfl⟩ | ⟨_,rfl⟩;exact (Off.set W1 ⟨g,i * 6+3,none⟩ _).mono fun z _ hz=>(by have h9:z=g:=hz;rw [h9];exact HSG.out);exact Off.refl _ _)));clear hoff hps hcs hcase c3)
   go_roundw
   case rel=>exact ⟨i+1,hlt,by go_num,HNX.out,HNO.out⟩
   simp [intOf];omega
  obtain rfl:nb=i:=by omega
  have HE:Hid (eU wr S (.slice ab nb cb) (xs.map (mapB to))):=h! (by have h9:=HOL.out;rw [HNB.out,gD, <-HNB.out] at h9;exact h9)
  clear HOL
  go_wp2
  exact bodyPost_end (v:=.tuple #[]) (by simp [results,Tryz.results49,go_sem, *]) rfl ⟨rfl,HOF.out,HE.out⟩
end
end Go.Proofs.YtagabiidbbhhmaaGreat
