/- Part 47. -/
import Derived.Test.YtagabiidbbhhmaaGreatEC45
import Derived.Test.YtagabiidbbhhmaaGreatEC46
import Derived.Test.YtagabiidbbhhmaaGreatEC35
namespace Go.Proofs.YtagabiidbbhhmaaGreat
set_option maxHeartbeats 25600000
set_option linter.all false
open Go.RowKit
theorem tJ {α : Type} {R:World -> Foot -> List Value -> α -> Prop} (hR:Nice R) {P:Program} {w:World} {o:Oper} {a:Act} (s x:Operand) (t e:TypeId)
  (ho:o.op = .call { callee:=.builtin .append,args:=#[s,x],argTypes:=#[t,t] }) {z:Value} {size bytes:Nat} (he:Elem P t e z size bytes)
  {v:Value} {B:Nat} {ds:List Value} (hs:a.eval s=v) (hx:a.eval x = .slice (some ⟨B,0,none⟩) 1 1) {bs:List Nat} {base:Nat} {S Fn:Foot} {xs:List α} {y : α} {n:Nat} (hn:xs.length=n)
  (H:Holds bs base w S (fun W=>OSl R e size W S v xs)) (hB:Box w B ds.toArray) (hds:ds.length=size) (hel:R w Fn ds y) (hF:Fn.off S) (hFb:kW base Fn) (hbs:∀ b ∈ bs,b < base) (hbase:base <= w.heap.size)
  (h1:∀ u ∈ ds,u.oneCell' = true) (hlen:n+1 <= 17592186044416) (hbytes:(n+1) * bytes <= 140737488355328) {XF:Nat -> Foot} {i lim:Nat} (hFl:∀ k,Fn k -> lim <= k) (hl:lim <= w.heap.size) (hX:∀ k,S k -> XF i k) :
  ∃ u w'',(execOp a.eval o).run P w = .ok (.value u) w'' /\ (∃ S',Holds bs base w'' S' (fun W=>OSl R e size W S' u (xs ++ [y]))/\(∀ k,S' k -> S k \/ lim <= k) /\ ∃ g cap,u = .slice (some ⟨g,0,none⟩) (n+1) cap)/\Four.Step XF (fun _=>True) i w w'':=by
 obtain ⟨v',w',S',q0,q1,q2,q3,q4⟩:=wR hR s x t e ho he hs hx hn H hB hds hel hF hFb hbs hbase h1 hlen hbytes
 refine ⟨v',w',q0,⟨S',q1,fun k hk => ?_,q4⟩,q3.mono fun k _ hk=>hX k hk,fun h=>h⟩
 rcases q2 k hk with h | h | h
 ·exact .inl h
 ·exact .inr (hFl k h)
 ·exact .inr (by omega)
theorem OBlock.one {W:World} {S:Foot} {cs:List Value} {b:BlockD} (h:OBlock W S cs b):∀ u ∈ cs,u.oneCell' = true:=by
 obtain ⟨⟨v,u,t,S1,S2,S3,rfl,h1,h2,⟨⟨tv,rfl,h3⟩, -⟩, -⟩, -⟩:=h
 obtain ⟨a1,c1,rfl⟩:=(h1.reads (R0:=PhiR) fun _ _ _ h=>h.reads).form
 obtain ⟨a2,c2,rfl⟩:=(h2.reads (R0:=gW) fun _ _ _ h=>h.reads).form
 obtain ⟨a3,c3,rfl⟩:=h3.ints.form
 simp [Value.oneCell']
set_option maxRecDepth 100000 in
theorem aD9 {w:World} {v:Value} {f:FuncD} (hv:fO w v f) (hsz:∀ x ∈ f.blocks,x.phis.length <= 100000/\x.code.length <= 100000) (hnb:f.blocks.length <= 100000):Calls Tryz.prog 40 #[v] w (aE4 f w):=by
 have HV:=h! hv
 obtain ⟨ap,cp,ab,cb,rfl,hp,ha64,hc64,hB⟩:=hv.form
 have H64:=h! (And.intro ha64 hc64)
 obtain ⟨a2,c2,bb,bo,hbe,hbc,hbm,hbl,hba,hbx⟩:=eT hB
 cases hbe
 obtain ⟨np,hnp⟩ : ∃ np,np=f.params.length:=⟨_,rfl⟩
 obtain ⟨ar,har⟩ : ∃ ar,ar=f.arrays:=⟨_,rfl⟩
 obtain ⟨ce,hce⟩ : ∃ ce,ce=f.cells:=⟨_,rfl⟩
 obtain ⟨nb,hnbd⟩ : ∃ nb,nb=f.blocks.length:=⟨_,rfl⟩
 rw [<-hnbd] at hbc hba hbl hnb
 rw [<-hnbd, <-hnp, <-har, <-hce]
 rw [<-hnp] at hp
 have HPR:=h! hp
 have HNP:=h! hnp
 have HNB:=h! hnbd
 have HBA:=h! hba
 have HBX:=h! hbx
 have HAC:Hid (ar=f.arrays/\ce=f.cells):=h! ⟨har,hce⟩
 have HSZ:=h! hsz
 clear hp hB hv hbx hnp hnbd hba har hce ha64 hc64 hsz HV
 go_enter Tryz.func40,Tryz.ntmps40
 go_upto_region 2 with (fail)
 have hA_:=(Below.refl w.heap.size w).alloc (aA _) (.cells #[.slice ap np cp,.int .i64 ar,.int .i64 ce,.slice ab nb cb] 25)
 have HW:=h! hA_
 clear hA_
 have B1:=h! (Box.new w #[.slice ap np cp,.int .i64 ar,.int .i64 ce,.slice ab nb cb] 25)
 have hz0_:(w.alloc (.cells #[.slice ap np cp,.int .i64 ar,.int .i64 ce,.slice ab nb cb] 25)).heap.size=w.heap.size+1:=World.size_alloc _ _
 generalize w.alloc (.cells #[.slice ap np cp,.int .i64 ar,.int .i64 ce,.slice ab nb cb] 25)=wv0 at *
 have hA_:=(Below.refl wv0.heap.size wv0).alloc (aA _) (.cells #[.slice none 0 0,.int .i64 0,.int .i64 0,.slice none 0 0] 25)
 replace B1:=h! (B1.out.later hA_)
 replace HW:=h! (HW.out.trans (hA_.mono HW.out.size))
 clear hA_
 have B2:=h! (Box.new wv0 #[.slice none 0 0,.int .i64 0,.int .i64 0,.slice none 0 0] 25)
 rw [hz0_] at B2
 have hz1_:(wv0.alloc (.cells #[.slice none 0 0,.int .i64 0,.int .i64 0,.slice none 0 0] 25)).heap.size=w.heap.size+1+1:=by rw [World.size_alloc,hz0_]
 clear hz0_
 generalize wv0.alloc (.cells #[.slice none 0 0,.int .i64 0,.int .i64 0,.slice none 0 0] 25)=wv1 at *
 have hA_:=(Below.refl wv1.heap.size wv1).alloc (aA _) (.cells #[.slice ap np cp,.int .i64 ar,.int .i64 ce,.slice ab nb cb] 25)
 replace B1:=h! (B1.out.later hA_)
 replace B2:=h! (B2.out.later hA_)
 replace HW:=h! (HW.out.trans (hA_.mono HW.out.size))
 clear hA_
 have B3:=h! (Box.new wv1 #[.slice ap np cp,.int .i64 ar,.int .i64 ce,.slice ab nb cb] 25)
 rw [hz1_] at B3
 clear hz1_
 generalize wv1.alloc (.cells #[.slice ap np cp,.int .i64 ar,.int .i64 ce,.slice ab nb cb] 25)=wv at *
 obtain ⟨lB1,cB1,fB1⟩:=B1.out
 obtain ⟨lB2,cB2,fB2⟩:=B2.out
 obtain ⟨lB3,cB3,fB3⟩:=B3.out
 go_upto_region 3 with (at_builtin;refine iT rfl _ _ rfl rfl rfl (HPR.out.below HW.out) ?_;intro pa2 pc2 w2 SQ q1 q2 q3;have hB3:=B3.out.later q3;obtain ⟨lx,cx,fx⟩:=hB3)
 clear lx cx fx
 rw [<-HNP.out] at q1 ⊢
 have HQ:Hid (Holds [w.heap.size,w.heap.size+1,w.heap.size+1+1] (w.heap.size+3) w2 SQ (fun W=>eP W SQ (.slice pa2 np pc2) f.params)):=h! (((fK q1 q2).from (by have:=B3.out.lt;omega)).low (by simp))
 clear q1 q2
 clear lB1 cB1 fB1 lB2 cB2 fB2 lB3 cB3 fB3
 replace B1:=h! (B1.out.later q3)
 replace B2:=h! (B2.out.later q3)
 replace B3:=h! (B3.out.later q3)
 replace HW:=h! (HW.out.trans (q3.mono HW.out.size))
 clear q3
 obtain ⟨lB1,cB1,fB1⟩:=B1.out
 obtain ⟨lB2,cB2,fB2⟩:=B2.out
 obtain ⟨lB3,cB3,fB3⟩:=B3.out
 clear lB1 cB1 fB1 lB2 cB2 fB2 lB3 cB3 fB3
 have hO_:=(Only.set w2 (w.heap.size+1+1) 0 (.slice pa2 np pc2))
 replace B1:=h! (B1.out.only hO_ (by first | assumption | (simp;done) | omega))
 replace B2:=h! (B2.out.only hO_ (by first | assumption | (simp;done) | omega))
 replace HQ:=h! (HQ.out.other (p:=⟨w.heap.size+1+1,0,none⟩) (.slice pa2 np pc2) (by simp))
 replace HW:=h! (hO_.2.2 HW.out (by first | assumption | omega | (have:=HW.out.size;omega) | (simp;done) | (simp;omega)))
 replace B3:=h! (Box.to (A':=#[(.slice pa2 np pc2),.int .i64 ar,.int .i64 ce,.slice ab nb cb]) (B3.out.set 0 (.slice pa2 np pc2)) (by first | rfl | simp))
 clear hO_
 generalize (w2.setCell ⟨w.heap.size+1+1,0,none⟩ (.slice pa2 np pc2))=w3 at *
 obtain ⟨lB1,cB1,fB1⟩:=B1.out
 obtain ⟨lB2,cB2,fB2⟩:=B2.out
 obtain ⟨lB3,cB3,fB3⟩:=B3.out
 go_upto_region 4 with (fail)
 clear lB1 cB1 fB1 lB2 cB2 fB2 lB3 cB3 fB3
 have hO_:=(Only.set w3 (w.heap.size+1+1) 3 (.slice none 0 0))
 replace B1:=h! (B1.out.only hO_ (by first | assumption | (simp;done) | omega))
 replace B2:=h! (B2.out.only hO_ (by first | assumption | (simp;done) | omega))
 replace HQ:=h! (HQ.out.other (p:=⟨w.heap.size+1+1,3,none⟩) (.slice none 0 0) (by simp))
 replace HW:=h! (hO_.2.2 HW.out (by first | assumption | omega | (have:=HW.out.size;omega) | (simp;done) | (simp;omega)))
 replace B3:=h! (Box.to (A':=#[(.slice pa2 np pc2),.int .i64 ar,.int .i64 ce,(.slice none 0 0)]) (B3.out.set 3 (.slice none 0 0)) (by first | rfl | simp))
 clear hO_
 generalize (w3.setCell ⟨w.heap.size+1+1,3,none⟩ (.slice none 0 0))=w5 at *
 obtain ⟨lB1,cB1,fB1⟩:=B1.out
 obtain ⟨lB2,cB2,fB2⟩:=B2.out
 obtain ⟨lB3,cB3,fB3⟩:=B3.out
 go_wp2_with fail
 go_loopw [4] (fun i wr => ∃ (j:Nat) (vj:Value) (SB:Foot),j <= nb/\i = .int .i64 j/\Below w.heap.size w wr/\Box wr w.heap.size #[.slice ap np cp,.int .i64 ar,.int .i64 ce,.slice ab nb cb]/\Box wr (w.heap.size+1) #[.slice none 0 0,.int .i64 0,.int .i64 0,.slice none 0 0]/\Box wr (w.heap.size+1+1) #[.slice pa2 np pc2,.int .i64 ar,.int .i64 ce,vj] /\
   Holds [w.heap.size,w.heap.size+1,w.heap.size+1+1] (w.heap.size+3) wr SQ (fun W=>eP W SQ (.slice pa2 np pc2) f.params)/\Holds [w.heap.size,w.heap.size+1,w.heap.size+1+1] (w.heap.size+3) wr SB (fun W=>eU W SB vj (f.blocks.take j))/\SQ.off SB/\(∃ a c,vj = .slice a j c)) (fun i _=>nb - (intOf i).toNat)
 case atStart=>exact ⟨0,.slice none 0 0,Foot.none,aI _,rfl,HW.out,B1.out,B2.out,B3.out,HQ.out,⟨OSl.nil none,fun _ _ h hk=>h.keep OBlock.nice hk,fun k h=>h.elim,fun k h=>h.elim,fun k h=>h.elim⟩,fun k _ h=>h.elim,_,_,rfl⟩
 obtain ⟨j,vj,SB,hj,rfl,hW,h1,h2,h3,h4,h5,h6,av,cv,rfl⟩:=hrel
 clear lB1 cB1 fB1 lB2 cB2 fB2 lB3 cB3 fB3
 replace HW:=h! hW
 replace B1:=h! h1
 replace B2:=h! h2
 replace B3:=h! h3
 replace HQ:=h! h4
 have HBS:=h! h5
 have HQB:=h! h6
 clear hW h1 h2 h3 h4 h5 h6
 generalize wr=w6 at *
 obtain ⟨lB1,cB1,fB1⟩:=B1.out
 obtain ⟨lB2,cB2,fB2⟩:=B2.out
 obtain ⟨lB3,cB3,fB3⟩:=B3.out
 by_cases hlt:j < nb
 ·obtain ⟨rfl,hbp⟩:=HBA.out (by omega)
  obtain ⟨x,hxm⟩ : ∃ x,f.blocks[j]? = some x:=⟨_,aC (by have:=HNB.out;omega)⟩
  obtain ⟨api,aii,ati,cpi,cii,cti,hC⟩:=HBX.out j x hxm
  have HBV:=h! hC.blockV
  have HBC:=h! hC
  have HSX:=h! (HSZ.out x (aG hxm))
  have HTK:=h! (eM f.blocks j x hxm)
  clear hxm hC
  have HLN:Hid ((f.blocks.take j).length=j):=h! (by rw [aW];have:=HNB.out;omega)
  have HB4L:Hid (∀ k,SB k -> k < w6.heap.size):=h! HBS.out.lt
  have HQ4L:Hid (∀ k,SQ k -> k < w6.heap.size):=h! HQ.out.lt
  have hl6:w.heap.size+3 <= w6.heap.size:=by omega
  obtain ⟨XF,hX1,hX2⟩ : ∃ XF:Nat -> Foot,(∀ q k,q ≠ 9 -> ¬ XF q k) /\ ∀ k,XF 9 k ↔ SB k:=⟨fun q=>if q=9 then SB else Foot.none,fun q k hq h=>by simp only [if_neg hq] at h;exact h.elim,fun k=>by simp⟩
  have HX1:=h! hX1
  have HX2:=h! hX2
  have HXA:Hid (∀ k,Four.All XF k -> SB k):=h! (fun k ⟨q,hq⟩=>by
   by_cases e:q=9
   ·subst e;exact (hX2 k).1 hq
   exact absurd hq (hX1 q k e))
  clear hX1 hX2
  have xW:∀ q k,XF q k -> k < w6.heap.size:=fun q k h=>HB4L.out k (HXA.out k ⟨q,h⟩)
  have xI:∀ w w' : World,True -> Below w.heap.size w w' -> True:=fun _ _ _ _=>trivial
  have xI0:True:=trivial
  have xB1:¬ Four.All XF w.heap.size:=fun h=>HBS.out.free _ (HXA.out _ h) (by simp)
  have xB2:¬ Four.All XF (w.heap.size+1):=fun h=>HBS.out.free _ (HXA.out _ h) (by simp)
  have xB3:¬ Four.All XF (w.heap.size+1+1):=fun h=>HBS.out.free _ (HXA.out _ h) (by simp)
  have xHQ:SQ.off (Four.All XF):=fun k h1 h2=>HQB.out k h1 (HXA.out k h2)
  have xBASE:∀ k,k < w6.heap.size -> Four.All XF k -> w.heap.size <= k:=fun k _ h=>by have:=HBS.out.base k (HXA.out k h);omega
  go_upto_region 7 with (fail)
  refine Four.wp_region_grow (XF:=XF) (I:=(fun _=>True)) 10 (fun ν kz=>match kz with | 7=>.holds (fun u w' => ∃ (pv uv tv:Value) (S:Foot),u = .agg #[pv,uv,.int .i64 x.term.op,.int .i64 x.term.val,tv,.int .i64 x.term.n]/\Holds [] w6.heap.size w' S (fun W=>OBlock W S [pv,uv,.int .i64 x.term.op,.int .i64 x.term.val,tv,.int .i64 x.term.n] x)) | 8=>.holds (fun u w' => ∃ (B:Nat) (pv uv tv:Value) (S:Foot),u = .slice (some ⟨B,0,none⟩) 1 1/\w6.heap.size <= B/\Box w' B #[pv,uv,.int .i64 x.term.op,.int .i64 x.term.val,tv,.int .i64 x.term.n]/\Holds [] w6.heap.size w' S (fun W=>OBlock W S [pv,uv,.int .i64 x.term.op,.int .i64 x.term.val,tv,.int .i64 x.term.n] x)) | 9=>.holds (fun u w' => ∃ S,Holds [w.heap.size,w.heap.size+1,w.heap.size+1+1] (w.heap.size+3) w' S (fun W=>eU W S u (f.blocks.take j ++ [x]))/\(∀ k,S k -> SB k \/ w6.heap.size <= k) /\ ∃ g cap,u = .slice (some ⟨g,0,none⟩) (j+1) cap) | _=>.plain) (by kernel_rfl) (by kernel_rfl) ?_ ?_ xW xI xI0 ?_ (fun ν => ?_)
  ·(intro ν k;(try dsimp only);split <;> first | exact True.intro | (intro u w1 w2 hu hb;first | (obtain ⟨pv,uv,tv,S,h1,h2⟩:=hu;exact ⟨pv,uv,tv,S,h1,h2.off hb (fun k g1 ⟨q,_,g2⟩=>by have:=xW q k g2;have:=h2.base k g1;omega)⟩) | (obtain ⟨B,pv,uv,tv,S,h0,h1,h2,h3⟩:=hu;exact ⟨B,pv,uv,tv,S,h0,h1,h2.off hb (fun ⟨q,_,g2⟩=>by have:=xW q _ g2;omega),h3.off hb (fun k g1 ⟨q,_,g2⟩=>by have:=xW q k g2;have:=h3.base k g1;omega)⟩) | (obtain ⟨S,h1,h2,h3⟩:=hu;exact ⟨S,h1.off hb (fun k _ ⟨q,g1,g2⟩=>HX1.out q k g1 g2),h2,h3⟩)))
  ·(intro ν ν' k h;first | rfl | ((try dsimp only);split <;> first | rfl))
  ·(intro ν j B mk A h;(try dsimp only at h);split at h <;> first | (cases h;exact Nat.le_refl _) | cases h)
  simp only [aO,aV,aS,aX]
  iterate 7 (refine Four.Grow.val (v := ?_) rfl rfl (fun wg hbg hdg => ?_) ?_;rotate_left;(focus ((obtain ⟨lg0,cg0,fg0⟩:=B1.out.off hbg.off xB1);(obtain ⟨lg1,cg1,fg1⟩:=B2.out.off hbg.off xB2);(obtain ⟨lg2,cg2,fg2⟩:=B3.out.off hbg.off xB3);(obtain ⟨k0,k1,k2,k3,k4,k5, -, -, -, -, -, -⟩:=HBC.out.below (HW.out.trans (hbg.off.below HW.out.size xBASE)) hbp);clear hbg hdg;first | (go_simp;done) | (go_simp;with_reducible rfl)));simp only [Act.put,aB,aE,aF])
  refine Four.Grow.call (f := ?_) (args := ?_) rfl (fun wg => ?_) (fun wg hbg hdg => ?_) ?_
  rotate_left 2
  focus (first | (go_simp;done) | (go_simp;refine And.intro ?_ ?_ <;> with_reducible rfl) | (go_simp;with_reducible rfl))
  focus (exact (nO (HBV.out.below (HW.out.trans (hbg.off.below HW.out.size xBASE))) HSX.out.1 HSX.out.2).mono (fun e w2 ⟨pv,uv,tv,S,he,hO,hF,hw⟩=>⟨_,he,⟨pv,uv,tv,S,rfl,(iO OBlock.nice hO hF).from hbg.1.size⟩,hw⟩))
  simp only [Act.put,Known.val,aB,aE,aF]
  refine Four.Grow.gives rfl (fun wg hbg hdg => ?_) ?_
  focus ((have h7:∃ (pv uv tv:Value) (S:Foot), ν 7 = .agg #[pv,uv,.int .i64 x.term.op,.int .i64 x.term.val,tv,.int .i64 x.term.n]/\Holds [] w6.heap.size wg S (fun W=>OBlock W S [pv,uv,.int .i64 x.term.op,.int .i64 x.term.val,tv,.int .i64 x.term.n] x):=hdg 7 (by kernel_rfl));(obtain ⟨pv,uv,tv,S,e7,k7⟩:=h7);(have hsz:=hbg.1.size);clear hdg;simp only [e7];refine ⟨.slice (some ⟨wg.heap.size,0,none⟩) 1 1,wg.alloc (.cells #[pv,uv,.int .i64 x.term.op,.int .i64 x.term.val,tv,.int .i64 x.term.n] 63), ?_,⟨wg.heap.size,pv,uv,tv,S,rfl,hsz,Box.new _ _ _,k7.alloc _⟩,Four.Step.of (fun _ _ _ _=>trivial) ((Below.refl _ _).alloc (aA _) _)⟩;clear hbg k7;(first | (go_simp;done) | (go_simp;with_reducible rfl)))
  simp only [Act.put,Known.val,aB,aE,aF]
  refine Four.Grow.gives rfl (fun wg hbg hdg => ?_) ?_
  focus ((have h8:∃ (B:Nat) (pv uv tv:Value) (S:Foot), ν 8 = .slice (some ⟨B,0,none⟩) 1 1/\w6.heap.size <= B/\Box wg B #[pv,uv,.int .i64 x.term.op,.int .i64 x.term.val,tv,.int .i64 x.term.n]/\Holds [] w6.heap.size wg S (fun W=>OBlock W S [pv,uv,.int .i64 x.term.op,.int .i64 x.term.val,tv,.int .i64 x.term.n] x):=hdg 8 (by kernel_rfl));(obtain ⟨B,pv,uv,tv,S,e8,hB8,hX8,k8⟩:=h8);(have hsz:=hbg.1.size);simp only [e8];exact tJ OBlock.nice _ _ 23 63 rfl tB rfl rfl HLN.out (HBS.out.off hbg.1 (fun k _ ⟨q,g1,_,g3⟩=>HX1.out q k g1 g3)) hX8 rfl k8.now (fun k g1 g2=>by have:=k8.base k g1;have:=HB4L.out k g2;omega) (fun k g1=>by have:=k8.base k g1;omega) (by intro b hb;simp at hb;omega) (by omega) k8.now.one (by omega) (by omega) k8.base hsz (fun k hk=>(HX2.out k).2 hk))
  simp only [Act.put,Known.val,aB,aE,aF]
  intro wg hb hf hap
  clear hap
  clear lB1 cB1 fB1 lB2 cB2 fB2 lB3 cB3 fB3
  replace B1:=h! (B1.out.off hb.1 xB1)
  replace B2:=h! (B2.out.off hb.1 xB2)
  replace B3:=h! (B3.out.off hb.1 xB3)
  replace HQ:=h! (HQ.out.off hb.1 xHQ)
  replace HW:=h! (HW.out.trans (hb.1.below HW.out.size xBASE))
  obtain ⟨lB1,cB1,fB1⟩:=B1.out
  obtain ⟨lB2,cB2,fB2⟩:=B2.out
  obtain ⟨lB3,cB3,fB3⟩:=B3.out
  simp only [bE,Nat.reduceAdd]
  have h9:∃ S,Holds [w.heap.size,w.heap.size+1,w.heap.size+1+1] (w.heap.size+3) wg S (fun W=>eU W S (ν 9) (f.blocks.take j ++ [x]))/\(∀ k,S k -> SB k \/ w6.heap.size <= k) /\ ∃ g cap, ν 9 = .slice (some ⟨g,0,none⟩) (j+1) cap:=hf 9 (by omega)
  obtain ⟨SN,k1,k2,g9,c9,e9⟩:=h9
  rw [e9] at k1
  simp only [e9]
  have HBS2:=h! k1
  rw [<-HTK.out] at HBS2
  have HQB2:Hid (SQ.off SN):=h! (fun k h1 h2=>by rcases k2 k h2 with h3 | h3;exact HQB.out k h1 h3;have:=HQ4L.out k h1;omega)
  clear e9 k1 k2 hf hb HBS HQB
  go_wp2
  clear lB1 cB1 fB1 lB2 cB2 fB2 lB3 cB3 fB3
  have hO_:=(Only.set wg (w.heap.size+1+1) 3 (.slice (some ⟨g9,0,none⟩) (j+1) c9))
  replace B1:=h! (B1.out.only hO_ (by first | assumption | (simp;done) | omega))
  replace B2:=h! (B2.out.only hO_ (by first | assumption | (simp;done) | omega))
  replace HQ:=h! (HQ.out.other (p:=⟨w.heap.size+1+1,3,none⟩) (.slice (some ⟨g9,0,none⟩) (j+1) c9) (by simp))
  replace HBS2:=h! (HBS2.out.other (p:=⟨w.heap.size+1+1,3,none⟩) (.slice (some ⟨g9,0,none⟩) (j+1) c9) (by simp))
  replace HW:=h! (hO_.2.2 HW.out (by first | assumption | omega | (have:=HW.out.size;omega) | (simp;done) | (simp;omega)))
  replace B3:=h! (Box.to (A':=#[.slice pa2 np pc2,.int .i64 ar,.int .i64 ce,(.slice (some ⟨g9,0,none⟩) (j+1) c9)]) (B3.out.set 3 (.slice (some ⟨g9,0,none⟩) (j+1) c9)) (by first | rfl | simp))
  clear hO_
  generalize (wg.setCell ⟨w.heap.size+1+1,3,none⟩ (.slice (some ⟨g9,0,none⟩) (j+1) c9))=w8 at *
  obtain ⟨lB1,cB1,fB1⟩:=B1.out
  obtain ⟨lB2,cB2,fB2⟩:=B2.out
  obtain ⟨lB3,cB3,fB3⟩:=B3.out
  go_roundw
  case rel=>exact ⟨j+1,.slice (some ⟨g9,0,none⟩) (j+1) c9,SN,hlt,by go_num,HW.out,B1.out,B2.out,B3.out,HQ.out,HBS2.out,HQB2.out,_,_,rfl⟩
  simp [intOf];omega
 have hjn:j=nb:=by omega
 have HBF:Hid (Holds [w.heap.size,w.heap.size+1,w.heap.size+1+1] (w.heap.size+3) w6 SB (fun W=>eU W SB (.slice av nb cv) f.blocks)):=h! (by
  have h9:=HBS.out
  rw [aH (by have:=HNB.out;omega),hjn] at h9
  exact h9)
 rw [hjn] at B3
 clear HBS hjn
 clear lB1 cB1 fB1 lB2 cB2 fB2 lB3 cB3 fB3
 obtain ⟨lB1,cB1,fB1⟩:=B1.out
 obtain ⟨lB2,cB2,fB2⟩:=B2.out
 obtain ⟨lB3,cB3,fB3⟩:=B3.out
 go_wp2
 clear lB1 cB1 fB1 lB2 cB2 fB2 lB3 cB3 fB3
 have hO_:=((((Only.set w6 (w.heap.size+1) 0 (.slice pa2 np pc2)).put 1 (.int .i64 ar)).put 2 (.int .i64 ce)).put 3 (.slice av nb cv))
 replace B1:=h! (B1.out.only hO_ (by first | assumption | (simp;done) | omega))
 replace B3:=h! (B3.out.only hO_ (by first | assumption | (simp;done) | omega))
 replace HQ:=h! ((((HQ.out.other (p:=⟨w.heap.size+1,0,none⟩) (.slice pa2 np pc2) (by simp)).other (p:=⟨w.heap.size+1,1,none⟩) (.int .i64 ar) (by simp)).other (p:=⟨w.heap.size+1,2,none⟩) (.int .i64 ce) (by simp)).other (p:=⟨w.heap.size+1,3,none⟩) (.slice av nb cv) (by simp))
 replace HBF:=h! ((((HBF.out.other (p:=⟨w.heap.size+1,0,none⟩) (.slice pa2 np pc2) (by simp)).other (p:=⟨w.heap.size+1,1,none⟩) (.int .i64 ar) (by simp)).other (p:=⟨w.heap.size+1,2,none⟩) (.int .i64 ce) (by simp)).other (p:=⟨w.heap.size+1,3,none⟩) (.slice av nb cv) (by simp))
 replace HW:=h! (hO_.2.2 HW.out (by first | assumption | omega | (have:=HW.out.size;omega) | (simp;done) | (simp;omega)))
 replace B2:=h! (Box.to (A':=#[(.slice pa2 np pc2),(.int .i64 ar),(.int .i64 ce),(.slice av nb cv)]) ((((B2.out.set 0 (.slice pa2 np pc2)).set 1 (.int .i64 ar)).set 2 (.int .i64 ce)).set 3 (.slice av nb cv)) (by first | rfl | simp))
 clear hO_
 generalize ((((w6.setCell ⟨w.heap.size+1,0,none⟩ (.slice pa2 np pc2)).setCell ⟨w.heap.size+1,1,none⟩ (.int .i64 ar)).setCell ⟨w.heap.size+1,2,none⟩ (.int .i64 ce)).setCell ⟨w.heap.size+1,3,none⟩ (.slice av nb cv))=w7 at *
 obtain ⟨lB1,cB1,fB1⟩:=B1.out
 obtain ⟨lB2,cB2,fB2⟩:=B2.out
 obtain ⟨lB3,cB3,fB3⟩:=B3.out
 refine bodyPost_ret (v:=.agg #[.slice pa2 np pc2,.int .i64 ar,.int .i64 ce,.slice av nb cv]) (by simp [results,Tryz.results40,go_sem, *]) rfl ⟨_,fun q=>SQ q \/ SB q,rfl,⟨⟨_,_,SQ,SB,by rw [HAC.out.1,HAC.out.2],HQ.out.now,HBF.out.now,HQB.out,fun k h=>.inl h,fun k h=>.inr h⟩,fun k hk=>hk.elim (HQ.out.lt k) (HBF.out.lt k),H64.out.1,H64.out.2⟩,fun k hk => ?_,HW.out⟩
 rcases hk with hk | hk
 ·have:=HQ.out.base k hk;omega
 have:=HBF.out.base k hk;omega
theorem Off.frozen {S:Foot} {W W' : World} (h:Off S W W') {b o:Nat} (hl:b < W.heap.size) (hn:¬ S b):W'.frozen? ⟨b,o,none⟩=W.frozen? ⟨b,o,none⟩:=World.frozen?_of_block (w:=W) (a:=⟨b,o,none⟩) (h.block b hl hn)
theorem aEA {x y:FuncD} (h1:x.params=y.params) (h2:x.arrays=y.arrays) (h3:x.cells=y.cells) (h4:x.blocks=y.blocks):x=y:=by
 obtain ⟨a,b,c,d⟩:=x
 obtain ⟨a',b',c',d'⟩:=y
 simp only at h1 h2 h3 h4
 subst h1 h2 h3 h4
 rfl
set_option maxRecDepth 100000 in
theorem aA2 {w:World} {v u:Value} {x y:FuncD} (hv:fO w v x) (hu:fO w u y) :
  Calls Tryz.prog 14 #[v,u] w fun e w'=>e = .returned (.bool (decide (x=y)))/\Below w.heap.size w w':=by
 obtain ⟨ap,cp,ab,cb,rfl,hp, -, -,hB⟩:=hv.form
 obtain ⟨ap2,cp2,ab2,cb2,rfl,hp2, -, -,hB2⟩:=hu.form
 obtain ⟨a',c',bb,bo,hbe,hbc,hbm, -,hba,hbx⟩:=eT hB
 cases hbe
 obtain ⟨a',c',bb2,bo2,hbe,hbc2,hbm2, -,hba2,hbx2⟩:=eT hB2
 cases hbe
 obtain ⟨np,hnp⟩ : ∃ n,n=x.params.length:=⟨_,rfl⟩
 obtain ⟨nb,hnb⟩ : ∃ n,n=x.blocks.length:=⟨_,rfl⟩
 obtain ⟨ar,har⟩ : ∃ n,n=x.arrays:=⟨_,rfl⟩
 obtain ⟨ce,hce⟩ : ∃ n,n=x.cells:=⟨_,rfl⟩
 obtain ⟨np2,hnp2⟩ : ∃ n,n=y.params.length:=⟨_,rfl⟩
 obtain ⟨nb2,hnb2⟩ : ∃ n,n=y.blocks.length:=⟨_,rfl⟩
 obtain ⟨ar2,har2⟩ : ∃ n,n=y.arrays:=⟨_,rfl⟩
 obtain ⟨ce2,hce2⟩ : ∃ n,n=y.cells:=⟨_,rfl⟩
 obtain ⟨q,hq⟩ : ∃ q,q=decide (x=y):=⟨_,rfl⟩
 rw [<-hq, <-hnp, <-hnb, <-har, <-hce, <-hnp2, <-hnb2, <-har2, <-hce2]
 rw [<-hnb] at hbc hba
 rw [<-hnb2] at hbc2 hba2
 rw [<-hnp] at hp
 rw [<-hnp2] at hp2
 have HQ:=h! hq
 have HNB:=h! hnb
 have HNB2:=h! hnb2
 have HAR:=h! (And.intro har har2)
 have HCE:=h! (And.intro hce hce2)
 have HP:=h! hp
 have HP2:=h! hp2
 have HBA:=h! hba
 have HBX:=h! hbx
 have HBA2:=h! hba2
 have HBX2:=h! hbx2
 clear hp hp2 hB hB2 hq hnp hnb har hce hnp2 hnb2 har2 hce2 hba hbx hba2 hbx2 hv hu
 go_enter Tryz.func14,Tryz.ntmps14
 go_upto_region 1 with (fail)
 have hA_:=(Below.refl w.heap.size w).alloc (aA _) (.cells #[.slice ap np cp,.int .i64 ar,.int .i64 ce,.slice ab nb cb] 25)
 have HW:=h! hA_
 clear hA_
 have B1:=h! (Box.new w #[.slice ap np cp,.int .i64 ar,.int .i64 ce,.slice ab nb cb] 25)
 have hz0_:(w.alloc (.cells #[.slice ap np cp,.int .i64 ar,.int .i64 ce,.slice ab nb cb] 25)).heap.size=w.heap.size+1:=World.size_alloc _ _
 generalize w.alloc (.cells #[.slice ap np cp,.int .i64 ar,.int .i64 ce,.slice ab nb cb] 25)=wv0 at *
 have hA_:=(Below.refl wv0.heap.size wv0).alloc (aA _) (.cells #[.slice ap2 np2 cp2,.int .i64 ar2,.int .i64 ce2,.slice ab2 nb2 cb2] 25)
 replace B1:=h! (B1.out.later hA_)
 replace HW:=h! (HW.out.trans (hA_.mono HW.out.size))
 clear hA_
 have B2:=h! (Box.new wv0 #[.slice ap2 np2 cp2,.int .i64 ar2,.int .i64 ce2,.slice ab2 nb2 cb2] 25)
 rw [hz0_] at B2
 clear hz0_
 generalize wv0.alloc (.cells #[.slice ap2 np2 cp2,.int .i64 ar2,.int .i64 ce2,.slice ab2 nb2 cb2] 25)=wv at *
 obtain ⟨lB1,cB1,fB1⟩:=B1.out
 obtain ⟨lB2,cB2,fB2⟩:=B2.out
 cases h1:(ar != ar2)
 rotate_left
 ·skip
  have hqf:q=false:=by rw [HQ.out];exact decide_eq_false (fun e=>(by have h9:ar ≠ ar2:=(by simpa using h1);exact h9 (by rw [HAR.out.1,HAR.out.2,e])))
  subst hqf
  go_wp2
  go_ret
  exact ⟨rfl,HW.out⟩
 cases h2:(ce != ce2)
 rotate_left
 ·skip
  have hqf:q=false:=by rw [HQ.out];exact decide_eq_false (fun e=>(by have h9:ce ≠ ce2:=(by simpa using h2);exact h9 (by rw [HCE.out.1,HCE.out.2,e])))
  subst hqf
  go_wp2
  go_ret
  exact ⟨rfl,HW.out⟩
 go_wp2_with fail
 refine (zK (HP.out.below HW.out) (HP2.out.below HW.out)).mono ?_
 rintro e w2 ⟨rfl,hb⟩
 obtain ⟨c,hc⟩ : ∃ c,c=decide (x.params=y.params):=⟨_,rfl⟩
 rw [<-hc]
 have HC:=h! hc
 clear hc
 clear lB1 cB1 fB1 lB2 cB2 fB2
 replace B1:=h! (B1.out.later hb)
 replace B2:=h! (B2.out.later hb)
 replace HW:=h! (HW.out.trans (hb.mono HW.out.size))
 clear hb
 obtain ⟨lB1,cB1,fB1⟩:=B1.out
 obtain ⟨lB2,cB2,fB2⟩:=B2.out
 cases c
 ·skip
  have hqf:q=false:=by rw [HQ.out];exact decide_eq_false (fun e=>(by have h9:=HC.out;simp [e] at h9))
  subst hqf
  go_wp2
  go_ret
  exact ⟨rfl,HW.out⟩
 cases h3:((nb:Int) != (nb2:Int))
 rotate_left
 ·skip
  have hqf:q=false:=by rw [HQ.out];exact decide_eq_false (fun e=>(by have h9:nb ≠ nb2:=(by simp at h3;omega);exact h9 (by rw [HNB.out,HNB2.out,e])))
  subst hqf
  go_wp2
  go_ret
  exact ⟨rfl,HW.out⟩
 have HEQ:Hid (x.params=y.params/\x.arrays=y.arrays/\x.cells=y.cells):=h! ⟨by simpa using HC.out.symm,by rw [<-HAR.out.1, <-HAR.out.2];simpa using h1,by rw [<-HCE.out.1, <-HCE.out.2];simpa using h2⟩
 obtain rfl:nb=nb2:=by simp at h3;omega
 clear HC HAR HCE HP HP2
 go_wp2_with fail
 clear h1 h2 h3
 go_loopw [5] (fun i wr => ∃ k:Nat,k <= nb/\i = .int .i64 k/\Below w.heap.size w wr/\Box wr w.heap.size #[.slice ap np cp,.int .i64 ar,.int .i64 ce,.slice ab nb cb]/\Box wr (w.heap.size+1) #[.slice ap2 np2 cp2,.int .i64 ar2,.int .i64 ce2,.slice ab2 nb cb2] /\ ∀ j,j < k -> x.blocks[j]? = y.blocks[j]?) (fun i _=>nb - (intOf i).toNat)
 case atStart=>exact ⟨0,aI _,rfl,HW.out,B1.out,B2.out,fun j h=>absurd h (eL _)⟩
 case round =>
  obtain ⟨k,hk,rfl,hW,hb1,hb2,hs⟩:=hrel
  clear lB1 cB1 fB1 lB2 cB2 fB2
  replace HW:=h! hW
  replace B1:=h! hb1
  replace B2:=h! hb2
  have HS:=h! hs
  clear hW hb1 hb2 hs
  obtain ⟨lB1,cB1,fB1⟩:=B1.out
  obtain ⟨lB2,cB2,fB2⟩:=B2.out
  by_cases hlt:k < nb
  ·obtain ⟨rfl,hbp⟩:=HBA.out (by omega)
   obtain ⟨rfl,hbp2⟩:=HBA2.out (by omega)
   obtain ⟨p,hpk⟩ : ∃ p,x.blocks[k]? = some p:=⟨_,aC (by have:=HNB.out;omega)⟩
   obtain ⟨r,hrk⟩ : ∃ r,y.blocks[k]? = some r:=⟨_,aC (by have:=HNB2.out;omega)⟩
   obtain ⟨p1,p2,p3,q1,q2,q3,hP⟩:=HBX.out k p hpk
   obtain ⟨r1,r2,r3,s1,s2,s3,hR⟩:=HBX2.out k r hrk
   have HPK:=h! hpk
   have HRK:=h! hrk
   have HPP:=h! hP
   have HRR:=h! hR
   obtain ⟨c,hc⟩ : ∃ c,c=decide (p=r):=⟨_,rfl⟩
   have HC:=h! hc
   have HCT:Hid (∀ w4,Below wr.heap.size wr w4 -> Calls Tryz.prog 45 #[.agg #[.slice p1 p.phis.length q1,.slice p2 p.code.length q2,.int .i64 p.term.op,.int .i64 p.term.val,.slice p3 p.term.to.length q3,.int .i64 p.term.n],.agg #[.slice r1 r.phis.length s1,.slice r2 r.code.length s2,.int .i64 r.term.op,.int .i64 r.term.val,.slice r3 r.term.to.length s3,.int .i64 r.term.n]] w4 fun e w'=>e = .returned (.bool c)/\Below w4.heap.size w4 w'):=h! (fun w4 hb=>by
    rw [hc]
    exact rH ((HPP.out.blockV.below HW.out).below hb) ((HRR.out.blockV.below HW.out).below hb))
   have HNE:Hid (p ≠ r -> q=false):=h! (fun h=>by rw [HQ.out];exact decide_eq_false (fun e=>h (by have h9:=HPK.out;rw [e,HRK.out] at h9;cases h9;rfl)))
   clear hpk hrk hP hR hc
   go_upto_region 6 with (fail)
   refine wp_region_grow 12 (fun kz=>match kz with | 10=>.const (.bool c) | _=>.plain) (by kernel_rfl) (by kernel_rfl) ?_ (fun ν => ?_)
   ·(intro k;(try dsimp only);split <;> first | exact True.intro | (intro u w1 w2 hu hb;exact hu.below hb))
   simp only [aO,aV,aS,aX]
   iterate 4 (refine Grow.val (v := ?_) rfl rfl (fun wg hbg hdg => ?_) ?_;rotate_left;(focus ((obtain ⟨lg0,cg0,fg0⟩:=B1.out.later hbg);(obtain ⟨lg1,cg1,fg1⟩:=B2.out.later hbg);clear hbg hdg;first | (go_simp;done) | (go_simp;with_reducible rfl)));simp only [Act.put,aB,aE,aF])
   refine Grow.val (v := ?_) rfl rfl (fun wg hbg hdg => ?_) ?_
   rotate_left
   focus ((obtain ⟨lg0,cg0,fg0⟩:=B1.out.later hbg);(obtain ⟨lg1,cg1,fg1⟩:=B2.out.later hbg);(obtain ⟨m0,m1,m2,m3,m4,m5, -, -, -, -, -, -⟩:=HPP.out.below (HW.out.trans (hbg.mono HW.out.size)) hbp);clear hbg hdg;first | (go_simp;done) | (go_simp;with_reducible rfl))
   simp only [Act.put,aB,aE,aF]
   iterate 4 (refine Grow.val (v := ?_) rfl rfl (fun wg hbg hdg => ?_) ?_;rotate_left;(focus ((obtain ⟨lg0,cg0,fg0⟩:=B1.out.later hbg);(obtain ⟨lg1,cg1,fg1⟩:=B2.out.later hbg);clear hbg hdg;first | (go_simp;done) | (go_simp;with_reducible rfl)));simp only [Act.put,aB,aE,aF])
   refine Grow.val (v := ?_) rfl rfl (fun wg hbg hdg => ?_) ?_
   rotate_left
   focus ((obtain ⟨lg0,cg0,fg0⟩:=B1.out.later hbg);(obtain ⟨lg1,cg1,fg1⟩:=B2.out.later hbg);(obtain ⟨m0,m1,m2,m3,m4,m5, -, -, -, -, -, -⟩:=HRR.out.below (HW.out.trans (hbg.mono HW.out.size)) hbp2);clear hbg hdg;first | (go_simp;done) | (go_simp;with_reducible rfl))
   simp only [Act.put,aB,aE,aF]
   refine Grow.call (f := ?_) (args := ?_) rfl (fun wg => ?_) (fun wg hbg hdg => ?_) ?_
   rotate_left 2
   focus (first | (go_simp;done) | (go_simp;refine And.intro ?_ ?_ <;> with_reducible rfl) | (go_simp;with_reducible rfl))
   focus exact Calls.mono (HCT.out wg hbg) (fun e w2 ⟨he,hb2⟩=>⟨_,he,rfl,hb2⟩)
   simp only [Act.put,Known.val,aB,aE,aF]
   refine Grow.val (v := ?_) rfl rfl (fun wg hbg hdg => ?_) ?_
   rotate_left
   focus ((obtain ⟨lg0,cg0,fg0⟩:=B1.out.later hbg);(obtain ⟨lg1,cg1,fg1⟩:=B2.out.later hbg);clear hbg hdg;first | (go_simp;done) | (go_simp;with_reducible rfl))
   simp only [Act.put,aB,aE,aF]
   intro wg hb hf hap
   clear hap
   clear lB1 cB1 fB1 lB2 cB2 fB2
   replace B1:=h! (B1.out.later hb)
   replace B2:=h! (B2.out.later hb)
   replace HW:=h! (HW.out.trans (hb.mono HW.out.size))
   clear hb
   obtain ⟨lB1,cB1,fB1⟩:=B1.out
   obtain ⟨lB2,cB2,fB2⟩:=B2.out
   clear hf
   cases c
   ·have hqf:q=false:=HNE.out (by have:=HC.out;simpa using this)
    subst hqf
    go_wp2
    go_ret
    exact ⟨rfl,HW.out⟩
   have HPR:Hid (p=r):=h! (by have:=HC.out;simpa using this)
   go_wp2
   go_roundw
   case rel =>
    refine ⟨k+1,hlt,by go_num,HW.out,B1.out,B2.out,fun j hj => ?_⟩
    by_cases e:j=k
    ·subst e;rw [HPK.out,HRK.out,HPR.out]
    exact HS.out j (by omega)
   simp [intOf];omega
  have hqt:q=true:=by rw [HQ.out];exact decide_eq_true (aEA HEQ.out.1 HEQ.out.2.1 HEQ.out.2.2 (oM HNB.out HNB2.out (fun j hj=>HS.out j (by omega))))
  subst hqt
  go_wp2
  go_ret
  exact ⟨rfl,HW.out⟩
end Go.Proofs.YtagabiidbbhhmaaGreat
