/- Part 46. -/
import Derived.Test.YtagabiidbbhhmaaGreatER44
import Derived.Test.YtagabiidbbhhmaaGreatER45
namespace Go.Proofs.YtagabiidbbhhmaaGreat
set_option linter.all false
open Go.RowKit
theorem uM {α : Type} {R:World -> Foot -> List Value -> α -> Prop} (hR:Nice R) {P:Program} {w:World} {o:Oper} {a:Act} (s x:Operand) (t e:TypeId)
  (ho:o.op = .call { callee:=.builtin .append,args:=#[s,x],argTypes:=#[t,t] }) {z:Value} {size bytes:Nat} (he:Elem P t e z size bytes)
  {v:Value} {B:Nat} {ds:List Value} (hs:a.eval s=v) (hx:a.eval x = .slice (some ⟨B,0,none⟩) 1 1) {bs:List Nat} {base:Nat} {S Fn:Foot} {xs:List α} {y : α} {n:Nat} (hn:xs.length=n)
  (H:Holds bs base w S (fun W=>OSl R e size W S v xs)) (hB:Box w B ds.toArray) (hds:ds.length=size) (hel:R w Fn ds y) (hF:Fn.off S) (hFb:mB base Fn) (hbs:∀ b ∈ bs,b < base) (hbase:base <= w.heap.size)
  (h1:∀ u ∈ ds,u.oneCell' = true) (hlen:n+1 <= 17592186044416) (hbytes:(n+1) * bytes <= 140737488355328) {XF:Nat -> Foot} {i lim:Nat} (hFl:∀ k,Fn k -> lim <= k) (hl:lim <= w.heap.size) (hX:∀ k,S k -> XF i k) :
  ∃ u w'',(execOp a.eval o).run P w = .ok (.value u) w'' /\ (∃ S',Holds bs base w'' S' (fun W=>OSl R e size W S' u (xs ++ [y]))/\(∀ k,S' k -> S k \/ lim <= k) /\ ∃ g cap,u = .slice (some ⟨g,0,none⟩) (n+1) cap)/\Four.Step XF (fun _=>True) i w w'':=by
 obtain ⟨v',w',S',q0,q1,q2,q3,q4⟩:=yG hR s x t e ho he hs hx hn H hB hds hel hF hFb hbs hbase h1 hlen hbytes
 refine ⟨v',w',q0,⟨S',q1,fun k hk => ?_,q4⟩,q3.mono fun k _ hk=>hX k hk,fun h=>h⟩
 rcases q2 k hk with h | h | h
 ·exact .inl h
 ·exact .inr (hFl k h)
 ·exact .inr (by omega)
theorem OBlock.one {W:World} {S:Foot} {cs:List Value} {b:BlockD} (h:OBlock W S cs b):∀ u ∈ cs,u.oneCell' = true:=by
 obtain ⟨⟨v,u,t,S1,S2,S3,rfl,h1,h2,⟨⟨tv,rfl,h3⟩, -⟩, -⟩, -⟩:=h
 obtain ⟨a1,c1,rfl⟩:=(h1.reads (R0:=PhiR) fun _ _ _ h=>h.reads).form
 obtain ⟨a2,c2,rfl⟩:=(h2.reads (R0:=iB) fun _ _ _ h=>h.reads).form
 obtain ⟨a3,c3,rfl⟩:=h3.ints.form
 simp [Value.oneCell']
set_option maxHeartbeats 25600000 in
set_option maxRecDepth 100000 in
theorem aEK {w:World} {v:Value} {f:FuncD} (hv:fU w v f) (hsz:∀ x ∈ f.blocks,x.phis.length <= 100000/\x.code.length <= 100000) (hnb:f.blocks.length <= 100000):Calls Tryz.prog 40 #[v] w (aFU f w):=by
 have HV:=h! hv
 obtain ⟨ap,cp,ab,cb,rfl,hp,bf,bg,hB⟩:=hv.form
 have bx:=h! (And.intro bf bg)
 obtain ⟨a2,c2,bb,bo,cr,cm,hbm,co,bm,bz⟩:=eY hB
 cases cr
 obtain ⟨np,bk⟩ : ∃ np,np=f.params.length:=⟨_,rfl⟩
 obtain ⟨ar,bt⟩ : ∃ ar,ar=f.arrays:=⟨_,rfl⟩
 obtain ⟨ce,bl⟩ : ∃ ce,ce=f.cells:=⟨_,rfl⟩
 obtain ⟨nb,aq⟩ : ∃ nb,nb=f.blocks.length:=⟨_,rfl⟩
 rw [<-aq] at cm bm co hnb
 rw [<-aq, <-bk, <-bt, <-bl]
 rw [<-bk] at hp
 have cg:=h! hp
 have cl:=h! bk
 have bq:=h! aq
 have cw:=h! bm
 have cF:=h! bz
 have cd:Hid (ar=f.arrays/\ce=f.cells):=h! ⟨bt,bl⟩
 have ch:=h! hsz
 clear hp hB hv bz bk aq bm bt bl bf bg hsz HV
 go_enter Tryz.func40,Tryz.ntmps40
 go_upto_region 2 with (fail)
 have ao:=(Below.refl w.heap.size w).alloc (aB _) (.cells #[.slice ap np cp,.int .i64 ar,.int .i64 ce,.slice ab nb cb] 25)
 have HW:=h! ao
 clear ao
 have B1:=h! (Box.new w #[.slice ap np cp,.int .i64 ar,.int .i64 ce,.slice ab nb cb] 25)
 have ay:(w.alloc (.cells #[.slice ap np cp,.int .i64 ar,.int .i64 ce,.slice ab nb cb] 25)).heap.size=w.heap.size+1:=World.size_alloc _ _
 generalize w.alloc (.cells #[.slice ap np cp,.int .i64 ar,.int .i64 ce,.slice ab nb cb] 25)=ba at *
 have ao:=(Below.refl ba.heap.size ba).alloc (aB _) (.cells #[.slice none 0 0,.int .i64 0,.int .i64 0,.slice none 0 0] 25)
 replace B1:=h! (B1.out.later ao)
 replace HW:=h! (HW.out.trans (ao.mono HW.out.size))
 clear ao
 have B2:=h! (Box.new ba #[.slice none 0 0,.int .i64 0,.int .i64 0,.slice none 0 0] 25)
 rw [ay] at B2
 have bd:(ba.alloc (.cells #[.slice none 0 0,.int .i64 0,.int .i64 0,.slice none 0 0] 25)).heap.size=w.heap.size+1+1:=by rw [World.size_alloc,ay]
 clear ay
 generalize ba.alloc (.cells #[.slice none 0 0,.int .i64 0,.int .i64 0,.slice none 0 0] 25)=bj at *
 have ao:=(Below.refl bj.heap.size bj).alloc (aB _) (.cells #[.slice ap np cp,.int .i64 ar,.int .i64 ce,.slice ab nb cb] 25)
 replace B1:=h! (B1.out.later ao)
 replace B2:=h! (B2.out.later ao)
 replace HW:=h! (HW.out.trans (ao.mono HW.out.size))
 clear ao
 have B3:=h! (Box.new bj #[.slice ap np cp,.int .i64 ar,.int .i64 ce,.slice ab nb cb] 25)
 rw [bd] at B3
 clear bd
 generalize bj.alloc (.cells #[.slice ap np cp,.int .i64 ar,.int .i64 ce,.slice ab nb cb] 25)=wv at *
 obtain ⟨aj,al,ai⟩:=B1.out
 obtain ⟨ak,af,ah⟩:=B2.out
 obtain ⟨ag,am,ae⟩:=B3.out
 go_upto_region 3 with (at_builtin;refine jB rfl _ _ rfl rfl rfl (cg.out.below HW.out) ?_;intro ac ad w2 SQ q1 q2 q3;have cG:=B3.out.later q3;obtain ⟨lx,cx,fx⟩:=cG)
 clear lx cx fx
 rw [<-cl.out] at q1 ⊢
 have HQ:Hid (Holds [w.heap.size,w.heap.size+1,w.heap.size+1+1] (w.heap.size+3) w2 SQ (fun W=>eU W SQ (.slice ac np ad) f.params)):=h! (((gH q1 q2).from (by have:=B3.out.lt;omega)).low (by simp))
 clear q1 q2
 clear aj al ai ak af ah ag am ae
 replace B1:=h! (B1.out.later q3)
 replace B2:=h! (B2.out.later q3)
 replace B3:=h! (B3.out.later q3)
 replace HW:=h! (HW.out.trans (q3.mono HW.out.size))
 clear q3
 obtain ⟨aj,al,ai⟩:=B1.out
 obtain ⟨ak,af,ah⟩:=B2.out
 obtain ⟨ag,am,ae⟩:=B3.out
 clear aj al ai ak af ah ag am ae
 have aa:=(Only.set w2 (w.heap.size+1+1) 0 (.slice ac np ad))
 replace B1:=h! (B1.out.only aa (by first | assumption | (simp;done) | omega))
 replace B2:=h! (B2.out.only aa (by first | assumption | (simp;done) | omega))
 replace HQ:=h! (HQ.out.other (p:=⟨w.heap.size+1+1,0,none⟩) (.slice ac np ad) (by simp))
 replace HW:=h! (aa.2.2 HW.out (by first | assumption | omega | (have:=HW.out.size;omega) | (simp;done) | (simp;omega)))
 replace B3:=h! (Box.to (A':=#[(.slice ac np ad),.int .i64 ar,.int .i64 ce,.slice ab nb cb]) (B3.out.set 0 (.slice ac np ad)) (by first | rfl | simp))
 clear aa
 generalize (w2.setCell ⟨w.heap.size+1+1,0,none⟩ (.slice ac np ad))=w3 at *
 obtain ⟨aj,al,ai⟩:=B1.out
 obtain ⟨ak,af,ah⟩:=B2.out
 obtain ⟨ag,am,ae⟩:=B3.out
 go_upto_region 4 with (fail)
 clear aj al ai ak af ah ag am ae
 have aa:=(Only.set w3 (w.heap.size+1+1) 3 (.slice none 0 0))
 replace B1:=h! (B1.out.only aa (by first | assumption | (simp;done) | omega))
 replace B2:=h! (B2.out.only aa (by first | assumption | (simp;done) | omega))
 replace HQ:=h! (HQ.out.other (p:=⟨w.heap.size+1+1,3,none⟩) (.slice none 0 0) (by simp))
 replace HW:=h! (aa.2.2 HW.out (by first | assumption | omega | (have:=HW.out.size;omega) | (simp;done) | (simp;omega)))
 replace B3:=h! (Box.to (A':=#[(.slice ac np ad),.int .i64 ar,.int .i64 ce,(.slice none 0 0)]) (B3.out.set 3 (.slice none 0 0)) (by first | rfl | simp))
 clear aa
 generalize (w3.setCell ⟨w.heap.size+1+1,3,none⟩ (.slice none 0 0))=w5 at *
 obtain ⟨aj,al,ai⟩:=B1.out
 obtain ⟨ak,af,ah⟩:=B2.out
 obtain ⟨ag,am,ae⟩:=B3.out
 go_wp2_with fail
 go_loopw [4] (fun i wr => ∃ (j:Nat) (vj:Value) (SB:Foot),j <= nb/\i = .int .i64 j/\Below w.heap.size w wr/\Box wr w.heap.size #[.slice ap np cp,.int .i64 ar,.int .i64 ce,.slice ab nb cb]/\Box wr (w.heap.size+1) #[.slice none 0 0,.int .i64 0,.int .i64 0,.slice none 0 0]/\Box wr (w.heap.size+1+1) #[.slice ac np ad,.int .i64 ar,.int .i64 ce,vj] /\
   Holds [w.heap.size,w.heap.size+1,w.heap.size+1+1] (w.heap.size+3) wr SQ (fun W=>eU W SQ (.slice ac np ad) f.params)/\Holds [w.heap.size,w.heap.size+1,w.heap.size+1+1] (w.heap.size+3) wr SB (fun W=>fA W SB vj (f.blocks.take j))/\SQ.off SB/\(∃ a c,vj = .slice a j c)) (fun i _=>nb - (intOf i).toNat)
 case atStart=>exact ⟨0,.slice none 0 0,Foot.none,aJ _,rfl,HW.out,B1.out,B2.out,B3.out,HQ.out,⟨OSl.nil none,fun _ _ h hk=>h.keep OBlock.nice hk,fun k h=>h.elim,fun k h=>h.elim,fun k h=>h.elim⟩,fun k _ h=>h.elim,_,_,rfl⟩
 obtain ⟨j,vj,SB,hj,rfl,hW,h1,h2,h3,h4,h5,h6,av,cv,rfl⟩:=hrel
 clear aj al ai ak af ah ag am ae
 replace HW:=h! hW
 replace B1:=h! h1
 replace B2:=h! h2
 replace B3:=h! h3
 replace HQ:=h! h4
 have ax:=h! h5
 have bh:=h! h6
 clear hW h1 h2 h3 h4 h5 h6
 generalize wr=w6 at *
 obtain ⟨aj,al,ai⟩:=B1.out
 obtain ⟨ak,af,ah⟩:=B2.out
 obtain ⟨ag,am,ae⟩:=B3.out
 by_cases hlt:j < nb
 ·obtain ⟨rfl,cB⟩:=cw.out (by omega)
  obtain ⟨x,bi⟩ : ∃ x,f.blocks[j]? = some x:=⟨_,aC (by have:=bq.out;omega)⟩
  obtain ⟨api,aii,ati,cpi,cii,cti,hC⟩:=cF.out j x bi
  have ci:=h! hC.blockV
  have cj:=h! hC
  have cc:=h! (ch.out x (aG bi))
  have cq:=h! (eT f.blocks j x bi)
  clear bi hC
  have cy:Hid ((f.blocks.take j).length=j):=h! (by rw [aV];have:=bq.out;omega)
  have be:Hid (∀ k,SB k -> k < w6.heap.size):=h! ax.out.lt
  have bn:Hid (∀ k,SQ k -> k < w6.heap.size):=h! HQ.out.lt
  have hl6:w.heap.size+3 <= w6.heap.size:=by omega
  obtain ⟨XF,br,bv⟩ : ∃ XF:Nat -> Foot,(∀ q k,q ≠ 9 -> ¬ XF q k) /\ ∀ k,XF 9 k ↔ SB k:=⟨fun q=>if q=9 then SB else Foot.none,fun q k hq h=>by simp only [if_neg hq] at h;exact h.elim,fun k=>by simp⟩
  have bO:=h! br
  have ct:=h! bv
  have az:Hid (∀ k,Four.All XF k -> SB k):=h! (fun k ⟨q,hq⟩=>by
   by_cases e:q=9
   ·subst e;exact (bv k).1 hq
   exact absurd hq (br q k e))
  clear br bv
  have xW:∀ q k,XF q k -> k < w6.heap.size:=fun q k h=>be.out k (az.out k ⟨q,h⟩)
  have xI:∀ w w' : World,True -> Below w.heap.size w w' -> True:=fun _ _ _ _=>trivial
  have ck:True:=trivial
  have bw:¬ Four.All XF w.heap.size:=fun h=>ax.out.free _ (az.out _ h) (by simp)
  have cf:¬ Four.All XF (w.heap.size+1):=fun h=>ax.out.free _ (az.out _ h) (by simp)
  have ca:¬ Four.All XF (w.heap.size+1+1):=fun h=>ax.out.free _ (az.out _ h) (by simp)
  have cn:SQ.off (Four.All XF):=fun k h1 h2=>bh.out k h1 (az.out k h2)
  have an:∀ k,k < w6.heap.size -> Four.All XF k -> w.heap.size <= k:=fun k _ h=>by have:=ax.out.base k (az.out k h);omega
  go_upto_region 7 with (fail)
  refine Four.wp_region_grow (XF:=XF) (I:=(fun _=>True)) 10 (fun ν kz=>match kz with | 7=>.holds (fun u w' => ∃ (pv uv tv:Value) (S:Foot),u = .agg #[pv,uv,.int .i64 x.term.op,.int .i64 x.term.val,tv,.int .i64 x.term.n]/\Holds [] w6.heap.size w' S (fun W=>OBlock W S [pv,uv,.int .i64 x.term.op,.int .i64 x.term.val,tv,.int .i64 x.term.n] x)) | 8=>.holds (fun u w' => ∃ (B:Nat) (pv uv tv:Value) (S:Foot),u = .slice (some ⟨B,0,none⟩) 1 1/\w6.heap.size <= B/\Box w' B #[pv,uv,.int .i64 x.term.op,.int .i64 x.term.val,tv,.int .i64 x.term.n]/\Holds [] w6.heap.size w' S (fun W=>OBlock W S [pv,uv,.int .i64 x.term.op,.int .i64 x.term.val,tv,.int .i64 x.term.n] x)) | 9=>.holds (fun u w' => ∃ S,Holds [w.heap.size,w.heap.size+1,w.heap.size+1+1] (w.heap.size+3) w' S (fun W=>fA W S u (f.blocks.take j ++ [x]))/\(∀ k,S k -> SB k \/ w6.heap.size <= k) /\ ∃ g cap,u = .slice (some ⟨g,0,none⟩) (j+1) cap) | _=>.plain) (by kernel_rfl) (by kernel_rfl) ?_ ?_ xW xI ck ?_ (fun ν => ?_)
  ·(intro ν k;(try dsimp only);split <;> first | exact True.intro | (intro u w1 w2 hu hb;first | (obtain ⟨pv,uv,tv,S,h1,h2⟩:=hu;exact ⟨pv,uv,tv,S,h1,h2.off hb (fun k g1 ⟨q,_,g2⟩=>by have:=xW q k g2;have:=h2.base k g1;omega)⟩) | (obtain ⟨B,pv,uv,tv,S,h0,h1,h2,h3⟩:=hu;exact ⟨B,pv,uv,tv,S,h0,h1,h2.off hb (fun ⟨q,_,g2⟩=>by have:=xW q _ g2;omega),h3.off hb (fun k g1 ⟨q,_,g2⟩=>by have:=xW q k g2;have:=h3.base k g1;omega)⟩) | (obtain ⟨S,h1,h2,h3⟩:=hu;exact ⟨S,h1.off hb (fun k _ ⟨q,g1,g2⟩=>bO.out q k g1 g2),h2,h3⟩)))
  ·(intro ν ν' k h;first | rfl | ((try dsimp only);split <;> first | rfl))
  ·(intro ν j B mk A h;(try dsimp only at h);split at h <;> first | (cases h;exact Nat.le_refl _) | cases h)
  simp only [aO,aS,aP,aU]
  iterate 7 (refine Four.Grow.val (v := ?_) rfl rfl (fun wg hbg hdg => ?_) ?_;rotate_left;(focus ((obtain ⟨lg0,cg0,fg0⟩:=B1.out.off hbg.off bw);(obtain ⟨lg1,cg1,fg1⟩:=B2.out.off hbg.off cf);(obtain ⟨lg2,cg2,fg2⟩:=B3.out.off hbg.off ca);(obtain ⟨k0,k1,k2,k3,k4,k5, -, -, -, -, -, -⟩:=cj.out.below (HW.out.trans (hbg.off.below HW.out.size an)) cB);clear hbg hdg;first | (go_simp;done) | (go_simp;with_reducible rfl)));simp only [Act.put,aA,aD,aE])
  refine Four.Grow.call (f := ?_) (args := ?_) rfl (fun wg => ?_) (fun wg hbg hdg => ?_) ?_
  rotate_left 2
  focus (first | (go_simp;done) | (go_simp;refine And.intro ?_ ?_ <;> with_reducible rfl) | (go_simp;with_reducible rfl))
  focus (exact (nW (ci.out.below (HW.out.trans (hbg.off.below HW.out.size an))) cc.out.1 cc.out.2).mono (fun e w2 ⟨pv,uv,tv,S,he,hO,hF,hw⟩=>⟨_,he,⟨pv,uv,tv,S,rfl,(iN OBlock.nice hO hF).from hbg.1.size⟩,hw⟩))
  simp only [Act.put,Known.val,aA,aD,aE]
  refine Four.Grow.gives rfl (fun wg hbg hdg => ?_) ?_
  focus ((have h7:∃ (pv uv tv:Value) (S:Foot), ν 7 = .agg #[pv,uv,.int .i64 x.term.op,.int .i64 x.term.val,tv,.int .i64 x.term.n]/\Holds [] w6.heap.size wg S (fun W=>OBlock W S [pv,uv,.int .i64 x.term.op,.int .i64 x.term.val,tv,.int .i64 x.term.n] x):=hdg 7 (by kernel_rfl));(obtain ⟨pv,uv,tv,S,e7,k7⟩:=h7);(have hsz:=hbg.1.size);clear hdg;simp only [e7];refine ⟨.slice (some ⟨wg.heap.size,0,none⟩) 1 1,wg.alloc (.cells #[pv,uv,.int .i64 x.term.op,.int .i64 x.term.val,tv,.int .i64 x.term.n] 63), ?_,⟨wg.heap.size,pv,uv,tv,S,rfl,hsz,Box.new _ _ _,k7.alloc _⟩,Four.Step.of (fun _ _ _ _=>trivial) ((Below.refl _ _).alloc (aB _) _)⟩;clear hbg k7;(first | (go_simp;done) | (go_simp;with_reducible rfl)))
  simp only [Act.put,Known.val,aA,aD,aE]
  refine Four.Grow.gives rfl (fun wg hbg hdg => ?_) ?_
  focus ((have h8:∃ (B:Nat) (pv uv tv:Value) (S:Foot), ν 8 = .slice (some ⟨B,0,none⟩) 1 1/\w6.heap.size <= B/\Box wg B #[pv,uv,.int .i64 x.term.op,.int .i64 x.term.val,tv,.int .i64 x.term.n]/\Holds [] w6.heap.size wg S (fun W=>OBlock W S [pv,uv,.int .i64 x.term.op,.int .i64 x.term.val,tv,.int .i64 x.term.n] x):=hdg 8 (by kernel_rfl));(obtain ⟨B,pv,uv,tv,S,e8,hB8,cz,k8⟩:=h8);(have hsz:=hbg.1.size);simp only [e8];exact uM OBlock.nice _ _ 23 63 rfl rE rfl rfl cy.out (ax.out.off hbg.1 (fun k _ ⟨q,g1,_,g3⟩=>bO.out q k g1 g3)) cz rfl k8.now (fun k g1 g2=>by have:=k8.base k g1;have:=be.out k g2;omega) (fun k g1=>by have:=k8.base k g1;omega) (by intro b hb;simp at hb;omega) (by omega) k8.now.one (by omega) (by omega) k8.base hsz (fun k hk=>(ct.out k).2 hk))
  simp only [Act.put,Known.val,aA,aD,aE]
  intro wg hb hf cs
  clear cs
  clear aj al ai ak af ah ag am ae
  replace B1:=h! (B1.out.off hb.1 bw)
  replace B2:=h! (B2.out.off hb.1 cf)
  replace B3:=h! (B3.out.off hb.1 ca)
  replace HQ:=h! (HQ.out.off hb.1 cn)
  replace HW:=h! (HW.out.trans (hb.1.below HW.out.size an))
  obtain ⟨aj,al,ai⟩:=B1.out
  obtain ⟨ak,af,ah⟩:=B2.out
  obtain ⟨ag,am,ae⟩:=B3.out
  simp only [bH,Nat.reduceAdd]
  have h9:∃ S,Holds [w.heap.size,w.heap.size+1,w.heap.size+1+1] (w.heap.size+3) wg S (fun W=>fA W S (ν 9) (f.blocks.take j ++ [x]))/\(∀ k,S k -> SB k \/ w6.heap.size <= k) /\ ∃ g cap, ν 9 = .slice (some ⟨g,0,none⟩) (j+1) cap:=hf 9 (by omega)
  obtain ⟨SN,k1,k2,g9,c9,e9⟩:=h9
  rw [e9] at k1
  simp only [e9]
  have aw:=h! k1
  rw [<-cq.out] at aw
  have bp:Hid (SQ.off SN):=h! (fun k h1 h2=>by rcases k2 k h2 with h3 | h3;exact bh.out k h1 h3;have:=bn.out k h1;omega)
  clear e9 k1 k2 hf hb ax bh
  go_wp2
  clear aj al ai ak af ah ag am ae
  have aa:=(Only.set wg (w.heap.size+1+1) 3 (.slice (some ⟨g9,0,none⟩) (j+1) c9))
  replace B1:=h! (B1.out.only aa (by first | assumption | (simp;done) | omega))
  replace B2:=h! (B2.out.only aa (by first | assumption | (simp;done) | omega))
  replace HQ:=h! (HQ.out.other (p:=⟨w.heap.size+1+1,3,none⟩) (.slice (some ⟨g9,0,none⟩) (j+1) c9) (by simp))
  replace aw:=h! (aw.out.other (p:=⟨w.heap.size+1+1,3,none⟩) (.slice (some ⟨g9,0,none⟩) (j+1) c9) (by simp))
  replace HW:=h! (aa.2.2 HW.out (by first | assumption | omega | (have:=HW.out.size;omega) | (simp;done) | (simp;omega)))
  replace B3:=h! (Box.to (A':=#[.slice ac np ad,.int .i64 ar,.int .i64 ce,(.slice (some ⟨g9,0,none⟩) (j+1) c9)]) (B3.out.set 3 (.slice (some ⟨g9,0,none⟩) (j+1) c9)) (by first | rfl | simp))
  clear aa
  generalize (wg.setCell ⟨w.heap.size+1+1,3,none⟩ (.slice (some ⟨g9,0,none⟩) (j+1) c9))=w8 at *
  obtain ⟨aj,al,ai⟩:=B1.out
  obtain ⟨ak,af,ah⟩:=B2.out
  obtain ⟨ag,am,ae⟩:=B3.out
  go_roundw
  case rel=>exact ⟨j+1,.slice (some ⟨g9,0,none⟩) (j+1) c9,SN,hlt,by go_num,HW.out,B1.out,B2.out,B3.out,HQ.out,aw.out,bp.out,_,_,rfl⟩
  simp [intOf];omega
 have bs:j=nb:=by omega
 have bc:Hid (Holds [w.heap.size,w.heap.size+1,w.heap.size+1+1] (w.heap.size+3) w6 SB (fun W=>fA W SB (.slice av nb cv) f.blocks)):=h! (by
  have h9:=ax.out
  rw [aH (by have:=bq.out;omega),bs] at h9
  exact h9)
 rw [bs] at B3
 clear ax bs
 clear aj al ai ak af ah ag am ae
 obtain ⟨aj,al,ai⟩:=B1.out
 obtain ⟨ak,af,ah⟩:=B2.out
 obtain ⟨ag,am,ae⟩:=B3.out
 go_wp2
 clear aj al ai ak af ah ag am ae
 have aa:=((((Only.set w6 (w.heap.size+1) 0 (.slice ac np ad)).put 1 (.int .i64 ar)).put 2 (.int .i64 ce)).put 3 (.slice av nb cv))
 replace B1:=h! (B1.out.only aa (by first | assumption | (simp;done) | omega))
 replace B3:=h! (B3.out.only aa (by first | assumption | (simp;done) | omega))
 replace HQ:=h! ((((HQ.out.other (p:=⟨w.heap.size+1,0,none⟩) (.slice ac np ad) (by simp)).other (p:=⟨w.heap.size+1,1,none⟩) (.int .i64 ar) (by simp)).other (p:=⟨w.heap.size+1,2,none⟩) (.int .i64 ce) (by simp)).other (p:=⟨w.heap.size+1,3,none⟩) (.slice av nb cv) (by simp))
 replace bc:=h! ((((bc.out.other (p:=⟨w.heap.size+1,0,none⟩) (.slice ac np ad) (by simp)).other (p:=⟨w.heap.size+1,1,none⟩) (.int .i64 ar) (by simp)).other (p:=⟨w.heap.size+1,2,none⟩) (.int .i64 ce) (by simp)).other (p:=⟨w.heap.size+1,3,none⟩) (.slice av nb cv) (by simp))
 replace HW:=h! (aa.2.2 HW.out (by first | assumption | omega | (have:=HW.out.size;omega) | (simp;done) | (simp;omega)))
 replace B2:=h! (Box.to (A':=#[(.slice ac np ad),(.int .i64 ar),(.int .i64 ce),(.slice av nb cv)]) ((((B2.out.set 0 (.slice ac np ad)).set 1 (.int .i64 ar)).set 2 (.int .i64 ce)).set 3 (.slice av nb cv)) (by first | rfl | simp))
 clear aa
 generalize ((((w6.setCell ⟨w.heap.size+1,0,none⟩ (.slice ac np ad)).setCell ⟨w.heap.size+1,1,none⟩ (.int .i64 ar)).setCell ⟨w.heap.size+1,2,none⟩ (.int .i64 ce)).setCell ⟨w.heap.size+1,3,none⟩ (.slice av nb cv))=w7 at *
 obtain ⟨aj,al,ai⟩:=B1.out
 obtain ⟨ak,af,ah⟩:=B2.out
 obtain ⟨ag,am,ae⟩:=B3.out
 refine bodyPost_ret (v:=.agg #[.slice ac np ad,.int .i64 ar,.int .i64 ce,.slice av nb cv]) (by simp [results,Tryz.results40,go_sem, *]) rfl ⟨_,fun q=>SQ q \/ SB q,rfl,⟨⟨_,_,SQ,SB,by rw [cd.out.1,cd.out.2],HQ.out.now,bc.out.now,bh.out,fun k h=>.inl h,fun k h=>.inr h⟩,fun k hk=>hk.elim (HQ.out.lt k) (bc.out.lt k),bx.out.1,bx.out.2⟩,fun k hk => ?_,HW.out⟩
 rcases hk with hk | hk
 ·have:=HQ.out.base k hk;omega
 have:=bc.out.base k hk;omega
theorem Off.frozen {S:Foot} {W W' : World} (h:Off S W W') {b o:Nat} (hl:b < W.heap.size) (hn:¬ S b):W'.frozen? ⟨b,o,none⟩=W.frozen? ⟨b,o,none⟩:=World.frozen?_of_block (w:=W) (a:=⟨b,o,none⟩) (h.block b hl hn)
theorem uN {w:World} {ops:Array Oper} {rest:List Oper} {o:Oper} {a:Act} {Q:Exit -> Act -> World -> Prop} (hgd:o.guard=none) (s x:Operand)
  (ho:o.op = .call { callee:=.builtin .append,args:=#[s,x],argTypes:=#[22,22] }) {v:Value} {B:Nat} {y:Int} (hs:a.eval s=v) (hx:a.eval x = .slice (some ⟨B,0,none⟩) 1 1) {S:Foot} {xs:List Int} {n:Nat} (hn:xs.length=n)
  (H:eU w S v xs) (hB:Box w B #[.int .i64 y]) (hy:In64 y) (hlen:n+1 <= 100000)
  (hK:∀ g cap w',eU w' (Foot.one g) (.slice (some ⟨g,0,none⟩) (n+1) cap) (xs ++ [y]) -> (S g \/ w.heap.size <= g) -> Off S w w' -> wpList Tryz.prog ops Q rest (a.put o.dst (.slice (some ⟨g,0,none⟩) (n+1) cap)) w'):wpList Tryz.prog ops Q (o :: rest) a w:=by
 refine lE (P:=Tryz.prog) hgd s x 22 3 ho mI hs hx H.1 (rD (n:=1) (size:=1) (ds:=[.int .i64 y]) hB rfl (by omega)) (by intro u hu;simp at hu;subst hu;rfl) (by omega) (by omega) fun v' w' G' r1 r2 r3 => ?_
 have hO:eU w' G' v' (xs ++ [y]):=by
  refine ⟨?_,fun z hz => ?_⟩
  ·rw [aI,aZ];exact r1
  rcases aM.1 hz with h | h
  ·exact H.2 z h
  simp at h;subst h;exact hy
 obtain ⟨g,cap,rfl,hg, -⟩:=hO.1.addr (by simp)
 have hl:(xs ++ [y]).length=n+1:=by simp [hn]
 rw [hl] at hO ⊢
 obtain ⟨k1,k2⟩:=hO.narrow (by omega)
 exact hK g cap w' k1 (r2 g k2) r3
end Go.Proofs.YtagabiidbbhhmaaGreat
