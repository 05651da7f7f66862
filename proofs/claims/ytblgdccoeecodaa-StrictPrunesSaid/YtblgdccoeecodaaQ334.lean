/- What the claim needs,part 34. -/
import Derived.Test.YtblgdccoeecodaaQ323
import Derived.Test.YtblgdccoeecodaaQ333
import Derived.Test.YtblgdccoeecodaaQ332
namespace Go.Proofs.Ytblgdccoeecodaa
set_option linter.unusedSimpArgs false
set_option linter.unusedVariables false
open Go.RowKit
theorem gives_osnoc {α : Type} {R:World -> Foot -> List Value -> α -> Prop} (hR:Nice R) {P:Program} {w:World} {o:Oper} {a:Act} (s x:Operand) (t e:TypeId)
  (ho:o.op = .call { callee:=.builtin .append,args:=#[s,x],argTypes:=#[t,t] }) {z:Value} {size bytes:Nat} (he:Elem P t e z size bytes)
  {v:Value} {B:Nat} {ds:List Value} (hs:a.eval s=v) (hx:a.eval x = .slice (some ⟨B,0,none⟩) 1 1) {bs:List Nat} {base:Nat} {S Fn:Foot} {xs:List α} {y : α} {n:Nat} (hn:xs.length=n)
  (H:Holds bs base w S (fun W=>OSl R e size W S v xs)) (hB:Box w B ds.toArray) (hds:ds.length=size) (hel:R w Fn ds y) (hF:Fn.off S) (hFb:Fresh base Fn) (hbs:∀ b ∈ bs,b < base) (hbase:base <= w.heap.size)
  (h1:∀ u ∈ ds,u.oneCell' = true) (hlen:n+1 <= 17592186044416) (hbytes:(n+1) * bytes <= 140737488355328) {XF:Nat -> Foot} {i lim:Nat} (hFl:∀ k,Fn k -> lim <= k) (hl:lim <= w.heap.size) (hX:∀ k,S k -> XF i k) :
  ∃ u w'',(execOp a.eval o).run P w = .ok (.value u) w'' /\ (∃ S',Holds bs base w'' S' (fun W=>OSl R e size W S' u (xs ++ [y]))/\(∀ k,S' k -> S k \/ lim <= k) /\ ∃ g cap,u = .slice (some ⟨g,0,none⟩) (n+1) cap)/\Four.Step XF (fun _=>True) i w w'':=by
 obtain ⟨v',w',S',q0,q1,q2,q3,q4⟩:=exec_osnoc hR s x t e ho he hs hx hn H hB hds hel hF hFb hbs hbase h1 hlen hbytes
 refine ⟨v',w',q0,⟨S',q1,fun k hk => ?_,q4⟩,q3.mono fun k _ hk=>hX k hk,fun h=>h⟩
 rcases q2 k hk with h | h | h
 ·exact .inl h
 ·exact .inr (hFl k h)
 ·exact .inr (by omega)
theorem OBlock.one {W:World} {S:Foot} {cs:List Value} {b:BlockD} (h:OBlock W S cs b):∀ u ∈ cs,u.oneCell' = true:=by
 obtain ⟨⟨v,u,t,S1,S2,S3,rfl,h1,h2,⟨⟨tv,rfl,h3⟩, -⟩, -⟩, -⟩:=h
 obtain ⟨a1,c1,rfl⟩:=(h1.reads (R0:=PhiR) fun _ _ _ h=>h.reads).form
 obtain ⟨a2,c2,rfl⟩:=(h2.reads (R0:=InstrR) fun _ _ _ h=>h.reads).form
 obtain ⟨a3,c3,rfl⟩:=h3.ints.form
 simp [Value.oneCell']
set_option maxHeartbeats 25600000 in
set_option maxRecDepth 100000 in
theorem refCopy {w:World} {v:Value} {f:FuncD} (hv:FuncV w v f) (hsz:∀ x ∈ f.blocks,x.phis.length <= 100000/\x.code.length <= 100000) (hnb:f.blocks.length <= 100000):Calls Try.prog 37 #[v] w (CopyR f w):=by
 have HV:=Lib.hid hv
 obtain ⟨ap,cp,ab,cb,rfl,hp,ha64,hc64,hB⟩:=hv.form
 have H64:=Lib.hid (And.intro ha64 hc64)
 obtain ⟨a2,c2,bb,bo,hbe,hbc,hbm,hbl,hba,hbx⟩:=blocks_parts hB
 cases hbe
 obtain ⟨np,hnp⟩ : ∃ np,np=f.params.length:=⟨_,rfl⟩
 obtain ⟨ar,har⟩ : ∃ ar,ar=f.arrays:=⟨_,rfl⟩
 obtain ⟨ce,hce⟩ : ∃ ce,ce=f.cells:=⟨_,rfl⟩
 obtain ⟨nb,hnbd⟩ : ∃ nb,nb=f.blocks.length:=⟨_,rfl⟩
 rw [<-hnbd] at hbc hba hbl hnb
 rw [<-hnbd, <-hnp, <-har, <-hce]
 rw [<-hnp] at hp
 have HPR:=Lib.hid hp
 have HNP:=Lib.hid hnp
 have HNB:=Lib.hid hnbd
 have HBA:=Lib.hid hba
 have HBX:=Lib.hid hbx
 have HAC:Hid (ar=f.arrays/\ce=f.cells):=Lib.hid ⟨har,hce⟩
 have HSZ:=Lib.hid hsz
 clear hp hB hv hbx hnp hnbd hba har hce ha64 hc64 hsz HV
 go_enter Try.func37,Try.ntmps37
 go_upto_region 2 with (fail)
 have B1:Hid (Box (((w.alloc (.cells #[.slice ap np cp,.int .i64 ar,.int .i64 ce,.slice ab nb cb] 25)).alloc (.cells #[.slice none 0 0,.int .i64 0,.int .i64 0,.slice none 0 0] 25)).alloc (.cells #[.slice ap np cp,.int .i64 ar,.int .i64 ce,.slice ab nb cb] 25)) (w.heap.size) #[.slice ap np cp,.int .i64 ar,.int .i64 ce,.slice ab nb cb]):=Lib.hid (by simpa using (((Box.new w #[.slice ap np cp,.int .i64 ar,.int .i64 ce,.slice ab nb cb] 25).alloc _).alloc _))
 have B2:Hid (Box (((w.alloc (.cells #[.slice ap np cp,.int .i64 ar,.int .i64 ce,.slice ab nb cb] 25)).alloc (.cells #[.slice none 0 0,.int .i64 0,.int .i64 0,.slice none 0 0] 25)).alloc (.cells #[.slice ap np cp,.int .i64 ar,.int .i64 ce,.slice ab nb cb] 25)) (w.heap.size+1) #[.slice none 0 0,.int .i64 0,.int .i64 0,.slice none 0 0]):=Lib.hid (by simpa using ((Box.new (w.alloc (.cells #[.slice ap np cp,.int .i64 ar,.int .i64 ce,.slice ab nb cb] 25)) #[.slice none 0 0,.int .i64 0,.int .i64 0,.slice none 0 0] 25).alloc _))
 have B3:Hid (Box (((w.alloc (.cells #[.slice ap np cp,.int .i64 ar,.int .i64 ce,.slice ab nb cb] 25)).alloc (.cells #[.slice none 0 0,.int .i64 0,.int .i64 0,.slice none 0 0] 25)).alloc (.cells #[.slice ap np cp,.int .i64 ar,.int .i64 ce,.slice ab nb cb] 25)) (w.heap.size+1+1) #[.slice ap np cp,.int .i64 ar,.int .i64 ce,.slice ab nb cb]):=Lib.hid (by simpa using (Box.new ((w.alloc (.cells #[.slice ap np cp,.int .i64 ar,.int .i64 ce,.slice ab nb cb] 25)).alloc (.cells #[.slice none 0 0,.int .i64 0,.int .i64 0,.slice none 0 0] 25)) #[.slice ap np cp,.int .i64 ar,.int .i64 ce,.slice ab nb cb] 25))
 have HW:Hid (Below w.heap.size w (((w.alloc (.cells #[.slice ap np cp,.int .i64 ar,.int .i64 ce,.slice ab nb cb] 25)).alloc (.cells #[.slice none 0 0,.int .i64 0,.int .i64 0,.slice none 0 0] 25)).alloc (.cells #[.slice ap np cp,.int .i64 ar,.int .i64 ce,.slice ab nb cb] 25))):=Lib.hid ((((Below.refl _ _).alloc (Nat.le_refl _) _).alloc (by simp) _).alloc (by simp;omega) _)
 generalize (((w.alloc (.cells #[.slice ap np cp,.int .i64 ar,.int .i64 ce,.slice ab nb cb] 25)).alloc (.cells #[.slice none 0 0,.int .i64 0,.int .i64 0,.slice none 0 0] 25)).alloc (.cells #[.slice ap np cp,.int .i64 ar,.int .i64 ce,.slice ab nb cb] 25))=wv at *
 obtain ⟨lB1,cB1,fB1⟩:=B1.out
 obtain ⟨lB2,cB2,fB2⟩:=B2.out
 obtain ⟨lB3,cB3,fB3⟩:=B3.out
 go_upto_region 3 with (at_builtin;refine wpList_iclone rfl _ _ rfl rfl rfl (HPR.out.below HW.out) ?_;intro pa2 pc2 w2 SQ q1 q2 q3;have hB3:=B3.out.later q3;obtain ⟨lx,cx,fx⟩:=hB3)
 clear lx cx fx
 rw [<-HNP.out] at q1 ⊢
 have HQ:Hid (Holds [w.heap.size,w.heap.size+1,w.heap.size+1+1] (w.heap.size+3) w2 SQ (fun W=>OInts W SQ (.slice pa2 np pc2) f.params)):=Lib.hid (((holds_ints q1 q2).from (by have:=B3.out.lt;omega)).low (by simp))
 clear q1 q2
 clear lB1 cB1 fB1 lB2 cB2 fB2 lB3 cB3 fB3
 replace B1:=Lib.hid (B1.out.later q3)
 replace B2:=Lib.hid (B2.out.later q3)
 replace B3:=Lib.hid (B3.out.later q3)
 replace HW:=Lib.hid (HW.out.trans (q3.mono HW.out.size))
 clear q3
 obtain ⟨lB1,cB1,fB1⟩:=B1.out
 obtain ⟨lB2,cB2,fB2⟩:=B2.out
 obtain ⟨lB3,cB3,fB3⟩:=B3.out


 have B1_:Box (w2.setCell ⟨w.heap.size+1+1,0,none⟩ (.slice pa2 np pc2)) (w.heap.size) #[.slice ap np cp,.int .i64 ar,.int .i64 ce,.slice ab nb cb]:=by simpa using (B1.out.other (p:=⟨w.heap.size+1+1,0,none⟩) (.slice pa2 np pc2) (by first | assumption | (simp;done) | omega | (dsimp only;omega)))
 have B2_:Box (w2.setCell ⟨w.heap.size+1+1,0,none⟩ (.slice pa2 np pc2)) (w.heap.size+1) #[.slice none 0 0,.int .i64 0,.int .i64 0,.slice none 0 0]:=by simpa using (B2.out.other (p:=⟨w.heap.size+1+1,0,none⟩) (.slice pa2 np pc2) (by first | assumption | (simp;done) | omega | (dsimp only;omega)))
 have B3_:Box (w2.setCell ⟨w.heap.size+1+1,0,none⟩ (.slice pa2 np pc2)) (w.heap.size+1+1) #[(.slice pa2 np pc2),.int .i64 ar,.int .i64 ce,.slice ab nb cb]:=by simpa using (B3.out.set 0 (.slice pa2 np pc2))
 have HQ_:=(HQ.out.other (p:=⟨w.heap.size+1+1,0,none⟩) (.slice pa2 np pc2) (by simp))
 have HW_:Below w.heap.size w (w2.setCell ⟨w.heap.size+1+1,0,none⟩ (.slice pa2 np pc2)):=(HW.out.setCell (p:=⟨w.heap.size+1+1,0,none⟩) (by first | assumption | omega | (dsimp only;omega) | (have:=HW.out.size;omega) | (simp;done) | (simp;omega)) (.slice pa2 np pc2))
 clear lB1 cB1 fB1 lB2 cB2 fB2 lB3 cB3 fB3
 clear B1 B2 B3 HQ HW
 generalize (w2.setCell ⟨w.heap.size+1+1,0,none⟩ (.slice pa2 np pc2))=w3 at *
 have B1:=Lib.hid B1_
 clear B1_
 have B2:=Lib.hid B2_
 clear B2_
 have B3:=Lib.hid B3_
 clear B3_
 have HQ:=Lib.hid HQ_
 clear HQ_
 have HW:=Lib.hid HW_
 clear HW_
 obtain ⟨lB1,cB1,fB1⟩:=B1.out
 obtain ⟨lB2,cB2,fB2⟩:=B2.out
 obtain ⟨lB3,cB3,fB3⟩:=B3.out
 go_upto_region 4 with (fail)
 have B1_:Box (w3.setCell ⟨w.heap.size+1+1,3,none⟩ (.slice none 0 0)) (w.heap.size) #[.slice ap np cp,.int .i64 ar,.int .i64 ce,.slice ab nb cb]:=by simpa using (B1.out.other (p:=⟨w.heap.size+1+1,3,none⟩) (.slice none 0 0) (by first | assumption | (simp;done) | omega | (dsimp only;omega)))
 have B2_:Box (w3.setCell ⟨w.heap.size+1+1,3,none⟩ (.slice none 0 0)) (w.heap.size+1) #[.slice none 0 0,.int .i64 0,.int .i64 0,.slice none 0 0]:=by simpa using (B2.out.other (p:=⟨w.heap.size+1+1,3,none⟩) (.slice none 0 0) (by first | assumption | (simp;done) | omega | (dsimp only;omega)))
 have B3_:Box (w3.setCell ⟨w.heap.size+1+1,3,none⟩ (.slice none 0 0)) (w.heap.size+1+1) #[(.slice pa2 np pc2),.int .i64 ar,.int .i64 ce,(.slice none 0 0)]:=by simpa using (B3.out.set 3 (.slice none 0 0))
 have HQ_:=(HQ.out.other (p:=⟨w.heap.size+1+1,3,none⟩) (.slice none 0 0) (by simp))
 have HW_:Below w.heap.size w (w3.setCell ⟨w.heap.size+1+1,3,none⟩ (.slice none 0 0)):=(HW.out.setCell (p:=⟨w.heap.size+1+1,3,none⟩) (by first | assumption | omega | (dsimp only;omega) | (have:=HW.out.size;omega) | (simp;done) | (simp;omega)) (.slice none 0 0))
 clear lB1 cB1 fB1 lB2 cB2 fB2 lB3 cB3 fB3
 clear B1 B2 B3 HQ HW
 generalize (w3.setCell ⟨w.heap.size+1+1,3,none⟩ (.slice none 0 0))=w5 at *
 have B1:=Lib.hid B1_
 clear B1_
 have B2:=Lib.hid B2_
 clear B2_
 have B3:=Lib.hid B3_
 clear B3_
 have HQ:=Lib.hid HQ_
 clear HQ_
 have HW:=Lib.hid HW_
 clear HW_
 obtain ⟨lB1,cB1,fB1⟩:=B1.out
 obtain ⟨lB2,cB2,fB2⟩:=B2.out
 obtain ⟨lB3,cB3,fB3⟩:=B3.out
 go_wp2_with fail
 go_loopw [4] (fun i wr => ∃ (j:Nat) (vj:Value) (SB:Foot),j <= nb/\i = .int .i64 j/\Below w.heap.size w wr/\Box wr w.heap.size #[.slice ap np cp,.int .i64 ar,.int .i64 ce,.slice ab nb cb]/\Box wr (w.heap.size+1) #[.slice none 0 0,.int .i64 0,.int .i64 0,.slice none 0 0]/\Box wr (w.heap.size+1+1) #[.slice pa2 np pc2,.int .i64 ar,.int .i64 ce,vj] /\
   Holds [w.heap.size,w.heap.size+1,w.heap.size+1+1] (w.heap.size+3) wr SQ (fun W=>OInts W SQ (.slice pa2 np pc2) f.params)/\Holds [w.heap.size,w.heap.size+1,w.heap.size+1+1] (w.heap.size+3) wr SB (fun W=>OBlocks W SB vj (f.blocks.take j))/\SQ.off SB/\(∃ a c,vj = .slice a j c)) (fun i _=>nb - (intOf i).toNat)
 case atStart=>exact ⟨0,.slice none 0 0,Foot.none,Nat.zero_le _,rfl,HW.out,B1.out,B2.out,B3.out,HQ.out,⟨OSl.nil none,fun _ _ h hk=>h.keep OBlock.nice hk,fun k h=>h.elim,fun k h=>h.elim,fun k h=>h.elim⟩,fun k _ h=>h.elim,_,_,rfl⟩
 case round =>
  obtain ⟨j,vj,SB,hj,rfl,hW,h1,h2,h3,h4,h5,h6,av,cv,rfl⟩:=hrel
  clear lB1 cB1 fB1 lB2 cB2 fB2 lB3 cB3 fB3
  replace HW:=Lib.hid hW
  replace B1:=Lib.hid h1
  replace B2:=Lib.hid h2
  replace B3:=Lib.hid h3
  replace HQ:=Lib.hid h4
  have HBS:=Lib.hid h5
  have HQB:=Lib.hid h6
  clear hW h1 h2 h3 h4 h5 h6
  generalize wr=w6 at *


  obtain ⟨lB1,cB1,fB1⟩:=B1.out
  obtain ⟨lB2,cB2,fB2⟩:=B2.out
  obtain ⟨lB3,cB3,fB3⟩:=B3.out
  by_cases hlt:j < nb
  ·obtain ⟨rfl,hbp⟩:=HBA.out (by omega)



   obtain ⟨x,hxm⟩ : ∃ x,f.blocks[j]? = some x:=⟨_,List.getElem?_eq_getElem (by have:=HNB.out;omega)⟩
   obtain ⟨api,aii,ati,cpi,cii,cti,hC⟩:=HBX.out j x hxm
   have HBV:=Lib.hid hC.blockV
   have HBC:=Lib.hid hC
   have HSX:=Lib.hid (HSZ.out x (List.mem_of_getElem? hxm))
   have HTK:=Lib.hid (take_snoc f.blocks j x hxm)
   clear hxm hC
   have HLN:Hid ((f.blocks.take j).length=j):=Lib.hid (by rw [List.length_take];have:=HNB.out;omega)
   have HB4L:Hid (∀ k,SB k -> k < w6.heap.size):=Lib.hid HBS.out.lt
   have HQ4L:Hid (∀ k,SQ k -> k < w6.heap.size):=Lib.hid HQ.out.lt
   have hl6:w.heap.size+3 <= w6.heap.size:=by omega
   obtain ⟨XF,hX1,hX2⟩ : ∃ XF:Nat -> Foot,(∀ q k,q ≠ 9 -> ¬ XF q k) /\ ∀ k,XF 9 k ↔ SB k:=⟨fun q=>if q=9 then SB else Foot.none,fun q k hq h=>by simp only [if_neg hq] at h;exact h.elim,fun k=>by simp⟩
   have HX1:=Lib.hid hX1
   have HX2:=Lib.hid hX2
   have HXA:Hid (∀ k,Four.All XF k -> SB k):=Lib.hid (fun k ⟨q,hq⟩=>by
    by_cases e:q=9
    ·subst e;exact (hX2 k).1 hq
    ·exact absurd hq (hX1 q k e))
   clear hX1 hX2
   have xW:∀ q k,XF q k -> k < w6.heap.size:=fun q k h=>HB4L.out k (HXA.out k ⟨q,h⟩)
   have xI:∀ w w' : World,True -> Below w.heap.size w w' -> True:=fun _ _ _ _=>trivial
   have xI0:True:=trivial
   have xB1:¬ Four.All XF w.heap.size:=fun h=>HBS.out.free _ (HXA.out _ h) (by simp)
   have xB2:¬ Four.All XF (w.heap.size+1):=fun h=>HBS.out.free _ (HXA.out _ h) (by simp)
   have xB3:¬ Four.All XF (w.heap.size+1+1):=fun h=>HBS.out.free _ (HXA.out _ h) (by simp)
   have xHQ:SQ.off (Four.All XF):=fun k h1 h2=>HQB.out k h1 (HXA.out k h2)
   have xBASE:∀ k,k < w6.heap.size -> Four.All XF k -> w.heap.size <= k:=fun k _ h=>by have:=HBS.out.base k (HXA.out k h);omega

   go_upto_region 7 with (fail)
   refine Four.wp_region_grow (XF:=XF) (I:=(fun _=>True)) 10 (fun ν kz=>match kz with | 7=>.holds (fun u w' => ∃ (pv uv tv:Value) (S:Foot),u = .agg #[pv,uv,.int .i64 x.term.op,.int .i64 x.term.val,tv,.int .i64 x.term.n]/\Holds [] w6.heap.size w' S (fun W=>OBlock W S [pv,uv,.int .i64 x.term.op,.int .i64 x.term.val,tv,.int .i64 x.term.n] x)) | 8=>.holds (fun u w' => ∃ (B:Nat) (pv uv tv:Value) (S:Foot),u = .slice (some ⟨B,0,none⟩) 1 1/\w6.heap.size <= B/\Box w' B #[pv,uv,.int .i64 x.term.op,.int .i64 x.term.val,tv,.int .i64 x.term.n]/\Holds [] w6.heap.size w' S (fun W=>OBlock W S [pv,uv,.int .i64 x.term.op,.int .i64 x.term.val,tv,.int .i64 x.term.n] x)) | 9=>.holds (fun u w' => ∃ S,Holds [w.heap.size,w.heap.size+1,w.heap.size+1+1] (w.heap.size+3) w' S (fun W=>OBlocks W S u (f.blocks.take j ++ [x]))/\(∀ k,S k -> SB k \/ w6.heap.size <= k) /\ ∃ g cap,u = .slice (some ⟨g,0,none⟩) (j+1) cap) | _=>.plain) (by kernel_rfl) (by kernel_rfl) ?_ ?_ xW xI xI0 ?_ (fun ν => ?_)
   ·(intro ν k;(try dsimp only);split <;> first | exact True.intro | (intro u w1 w2 hu hb;first | (obtain ⟨pv,uv,tv,S,h1,h2⟩:=hu;exact ⟨pv,uv,tv,S,h1,h2.off hb (fun k g1 ⟨q,_,g2⟩=>by have:=xW q k g2;have:=h2.base k g1;omega)⟩) | (obtain ⟨B,pv,uv,tv,S,h0,h1,h2,h3⟩:=hu;exact ⟨B,pv,uv,tv,S,h0,h1,h2.off hb (fun ⟨q,_,g2⟩=>by have:=xW q _ g2;omega),h3.off hb (fun k g1 ⟨q,_,g2⟩=>by have:=xW q k g2;have:=h3.base k g1;omega)⟩) | (obtain ⟨S,h1,h2,h3⟩:=hu;exact ⟨S,h1.off hb (fun k _ ⟨q,g1,g2⟩=>HX1.out q k g1 g2),h2,h3⟩)))
   ·(intro ν ν' k h;first | rfl | ((try dsimp only);split <;> first | rfl))
   ·(intro ν j B mk A h;(try dsimp only at h);split at h <;> first | (cases h;exact Nat.le_refl _) | cases h)
   simp only [List.take_succ_cons,List.take_zero,List.drop_succ_cons,List.drop_zero]
   iterate 7 (refine Four.Grow.val (v := ?_) rfl rfl (fun wg hbg hdg => ?_) ?_;rotate_left;(focus ((obtain ⟨lg0,cg0,fg0⟩:=B1.out.off hbg.off xB1);(obtain ⟨lg1,cg1,fg1⟩:=B2.out.off hbg.off xB2);(obtain ⟨lg2,cg2,fg2⟩:=B3.out.off hbg.off xB3);(obtain ⟨k0,k1,k2,k3,k4,k5, -, -, -, -, -, -⟩:=HBC.out.below (HW.out.trans (hbg.off.below HW.out.size xBASE)) hbp);clear hbg hdg;first | (go_simp;done) | (go_simp;with_reducible rfl)));simp only [Act.put,List.setIfInBounds_toArray,List.set_cons_zero,List.set_cons_succ])
   refine Four.Grow.call (f := ?_) (args := ?_) rfl (fun wg => ?_) (fun wg hbg hdg => ?_) ?_
   rotate_left 2
   focus (first | (go_simp;done) | (go_simp;refine And.intro ?_ ?_ <;> with_reducible rfl) | (go_simp;with_reducible rfl))
   focus (exact (refCopyBlock (HBV.out.below (HW.out.trans (hbg.off.below HW.out.size xBASE))) HSX.out.1 HSX.out.2).mono (fun e w2 ⟨pv,uv,tv,S,he,hO,hF,hw⟩=>⟨_,he,⟨pv,uv,tv,S,rfl,(holds_nice OBlock.nice hO hF).from hbg.1.size⟩,hw⟩))
   simp only [Act.put,Known.val,List.setIfInBounds_toArray,List.set_cons_zero,List.set_cons_succ]
   refine Four.Grow.gives rfl (fun wg hbg hdg => ?_) ?_
   focus ((have h7:∃ (pv uv tv:Value) (S:Foot), ν 7 = .agg #[pv,uv,.int .i64 x.term.op,.int .i64 x.term.val,tv,.int .i64 x.term.n]/\Holds [] w6.heap.size wg S (fun W=>OBlock W S [pv,uv,.int .i64 x.term.op,.int .i64 x.term.val,tv,.int .i64 x.term.n] x):=hdg 7 (by kernel_rfl));(obtain ⟨pv,uv,tv,S,e7,k7⟩:=h7);(have hsz:=hbg.1.size);clear hdg;simp only [e7];refine ⟨.slice (some ⟨wg.heap.size,0,none⟩) 1 1,wg.alloc (.cells #[pv,uv,.int .i64 x.term.op,.int .i64 x.term.val,tv,.int .i64 x.term.n] 56), ?_,⟨wg.heap.size,pv,uv,tv,S,rfl,hsz,Box.new _ _ _,k7.alloc _⟩,Four.Step.of (fun _ _ _ _=>trivial) ((Below.refl _ _).alloc (Nat.le_refl _) _)⟩;clear hbg k7;(first | (go_simp;done) | (go_simp;with_reducible rfl)))
   simp only [Act.put,Known.val,List.setIfInBounds_toArray,List.set_cons_zero,List.set_cons_succ]
   refine Four.Grow.gives rfl (fun wg hbg hdg => ?_) ?_
   focus ((have h8:∃ (B:Nat) (pv uv tv:Value) (S:Foot), ν 8 = .slice (some ⟨B,0,none⟩) 1 1/\w6.heap.size <= B/\Box wg B #[pv,uv,.int .i64 x.term.op,.int .i64 x.term.val,tv,.int .i64 x.term.n]/\Holds [] w6.heap.size wg S (fun W=>OBlock W S [pv,uv,.int .i64 x.term.op,.int .i64 x.term.val,tv,.int .i64 x.term.n] x):=hdg 8 (by kernel_rfl));(obtain ⟨B,pv,uv,tv,S,e8,hB8,hX8,k8⟩:=h8);(have hsz:=hbg.1.size);simp only [e8];exact gives_osnoc OBlock.nice _ _ 23 56 rfl elBlock rfl rfl HLN.out (HBS.out.off hbg.1 (fun k _ ⟨q,g1,_,g3⟩=>HX1.out q k g1 g3)) hX8 rfl k8.now (fun k g1 g2=>by have:=k8.base k g1;have:=HB4L.out k g2;omega) (fun k g1=>by have:=k8.base k g1;omega) (by intro b hb;simp at hb;omega) (by omega) k8.now.one (by omega) (by omega) k8.base hsz (fun k hk=>(HX2.out k).2 hk))
   simp only [Act.put,Known.val,List.setIfInBounds_toArray,List.set_cons_zero,List.set_cons_succ]
   intro wg hb hf hap
   clear hap
   clear lB1 cB1 fB1 lB2 cB2 fB2 lB3 cB3 fB3
   replace B1:=Lib.hid (B1.out.off hb.1 xB1)
   replace B2:=Lib.hid (B2.out.off hb.1 xB2)
   replace B3:=Lib.hid (B3.out.off hb.1 xB3)
   replace HQ:=Lib.hid (HQ.out.off hb.1 xHQ)
   replace HW:=Lib.hid (HW.out.trans (hb.1.below HW.out.size xBASE))
   obtain ⟨lB1,cB1,fB1⟩:=B1.out
   obtain ⟨lB2,cB2,fB2⟩:=B2.out
   obtain ⟨lB3,cB3,fB3⟩:=B3.out
   simp only [Nat.zero_add,Nat.reduceAdd]
   have h9:∃ S,Holds [w.heap.size,w.heap.size+1,w.heap.size+1+1] (w.heap.size+3) wg S (fun W=>OBlocks W S (ν 9) (f.blocks.take j ++ [x]))/\(∀ k,S k -> SB k \/ w6.heap.size <= k) /\ ∃ g cap, ν 9 = .slice (some ⟨g,0,none⟩) (j+1) cap:=hf 9 (by omega)
   obtain ⟨SN,k1,k2,g9,c9,e9⟩:=h9
   rw [e9] at k1
   simp only [e9]
   have HBS2:=Lib.hid k1
   rw [<-HTK.out] at HBS2
   have HQB2:Hid (SQ.off SN):=Lib.hid (fun k h1 h2=>by rcases k2 k h2 with h3 | h3;exact HQB.out k h1 h3;have:=HQ4L.out k h1;omega)
   clear e9 k1 k2 hf hb HBS HQB

   go_wp2
   have B1_:Box (wg.setCell ⟨w.heap.size+1+1,3,none⟩ (.slice (some ⟨g9,0,none⟩) (j+1) c9)) (w.heap.size) #[.slice ap np cp,.int .i64 ar,.int .i64 ce,.slice (some ⟨bb,bo,none⟩) nb cb]:=by simpa using (B1.out.other (p:=⟨w.heap.size+1+1,3,none⟩) (.slice (some ⟨g9,0,none⟩) (j+1) c9) (by first | assumption | (simp;done) | omega | (dsimp only;omega)))
   have B2_:Box (wg.setCell ⟨w.heap.size+1+1,3,none⟩ (.slice (some ⟨g9,0,none⟩) (j+1) c9)) (w.heap.size+1) #[.slice none 0 0,.int .i64 0,.int .i64 0,.slice none 0 0]:=by simpa using (B2.out.other (p:=⟨w.heap.size+1+1,3,none⟩) (.slice (some ⟨g9,0,none⟩) (j+1) c9) (by first | assumption | (simp;done) | omega | (dsimp only;omega)))
   have B3_:Box (wg.setCell ⟨w.heap.size+1+1,3,none⟩ (.slice (some ⟨g9,0,none⟩) (j+1) c9)) (w.heap.size+1+1) #[.slice pa2 np pc2,.int .i64 ar,.int .i64 ce,(.slice (some ⟨g9,0,none⟩) (j+1) c9)]:=by simpa using (B3.out.set 3 (.slice (some ⟨g9,0,none⟩) (j+1) c9))
   have HQ_:=(HQ.out.other (p:=⟨w.heap.size+1+1,3,none⟩) (.slice (some ⟨g9,0,none⟩) (j+1) c9) (by simp))
   have HBS2_:=(HBS2.out.other (p:=⟨w.heap.size+1+1,3,none⟩) (.slice (some ⟨g9,0,none⟩) (j+1) c9) (by simp))
   have HW_:Below w.heap.size w (wg.setCell ⟨w.heap.size+1+1,3,none⟩ (.slice (some ⟨g9,0,none⟩) (j+1) c9)):=(HW.out.setCell (p:=⟨w.heap.size+1+1,3,none⟩) (by first | assumption | omega | (dsimp only;omega) | (have:=HW.out.size;omega) | (simp;done) | (simp;omega)) (.slice (some ⟨g9,0,none⟩) (j+1) c9))
   clear lB1 cB1 fB1 lB2 cB2 fB2 lB3 cB3 fB3
   clear B1 B2 B3 HQ HBS2 HW
   generalize (wg.setCell ⟨w.heap.size+1+1,3,none⟩ (.slice (some ⟨g9,0,none⟩) (j+1) c9))=w8 at *
   have B1:=Lib.hid B1_
   clear B1_
   have B2:=Lib.hid B2_
   clear B2_
   have B3:=Lib.hid B3_
   clear B3_
   have HQ:=Lib.hid HQ_
   clear HQ_
   have HBS2:=Lib.hid HBS2_
   clear HBS2_
   have HW:=Lib.hid HW_
   clear HW_
   obtain ⟨lB1,cB1,fB1⟩:=B1.out
   obtain ⟨lB2,cB2,fB2⟩:=B2.out
   obtain ⟨lB3,cB3,fB3⟩:=B3.out
   go_roundw
   case rel=>exact ⟨j+1,.slice (some ⟨g9,0,none⟩) (j+1) c9,SN,hlt,by go_num,HW.out,B1.out,B2.out,B3.out,HQ.out,HBS2.out,HQB2.out,_,_,rfl⟩
   case measure=>simp [intOf];omega
  ·have hjn:j=nb:=by omega
   have HBF:Hid (Holds [w.heap.size,w.heap.size+1,w.heap.size+1+1] (w.heap.size+3) w6 SB (fun W=>OBlocks W SB (.slice av nb cv) f.blocks)):=Lib.hid (by
    have h9:=HBS.out
    rw [List.take_of_length_le (by have:=HNB.out;omega),hjn] at h9
    exact h9)
   rw [hjn] at B3
   clear HBS hjn




   clear lB1 cB1 fB1 lB2 cB2 fB2 lB3 cB3 fB3
   obtain ⟨lB1,cB1,fB1⟩:=B1.out
   obtain ⟨lB2,cB2,fB2⟩:=B2.out
   obtain ⟨lB3,cB3,fB3⟩:=B3.out
   go_wp2
   have B1_:Box ((((w6.setCell ⟨w.heap.size+1,0,none⟩ (.slice pa2 np pc2)).setCell ⟨w.heap.size+1,1,none⟩ (.int .i64 ar)).setCell ⟨w.heap.size+1,2,none⟩ (.int .i64 ce)).setCell ⟨w.heap.size+1,3,none⟩ (.slice av nb cv)) (w.heap.size) #[.slice ap np cp,.int .i64 ar,.int .i64 ce,.slice ab nb cb]:=by simpa using ((((B1.out.other (p:=⟨w.heap.size+1,0,none⟩) (.slice pa2 np pc2) (by first | assumption | (simp;done) | omega | (dsimp only;omega))).other (p:=⟨w.heap.size+1,1,none⟩) (.int .i64 ar) (by first | assumption | (simp;done) | omega | (dsimp only;omega))).other (p:=⟨w.heap.size+1,2,none⟩) (.int .i64 ce) (by first | assumption | (simp;done) | omega | (dsimp only;omega))).other (p:=⟨w.heap.size+1,3,none⟩) (.slice av nb cv) (by first | assumption | (simp;done) | omega | (dsimp only;omega)))
   have B2_:Box ((((w6.setCell ⟨w.heap.size+1,0,none⟩ (.slice pa2 np pc2)).setCell ⟨w.heap.size+1,1,none⟩ (.int .i64 ar)).setCell ⟨w.heap.size+1,2,none⟩ (.int .i64 ce)).setCell ⟨w.heap.size+1,3,none⟩ (.slice av nb cv)) (w.heap.size+1) #[(.slice pa2 np pc2),(.int .i64 ar),(.int .i64 ce),(.slice av nb cv)]:=by simpa using ((((B2.out.set 0 (.slice pa2 np pc2)).set 1 (.int .i64 ar)).set 2 (.int .i64 ce)).set 3 (.slice av nb cv))
   have B3_:Box ((((w6.setCell ⟨w.heap.size+1,0,none⟩ (.slice pa2 np pc2)).setCell ⟨w.heap.size+1,1,none⟩ (.int .i64 ar)).setCell ⟨w.heap.size+1,2,none⟩ (.int .i64 ce)).setCell ⟨w.heap.size+1,3,none⟩ (.slice av nb cv)) (w.heap.size+1+1) #[.slice pa2 np pc2,.int .i64 ar,.int .i64 ce,.slice av nb cv]:=by simpa using ((((B3.out.other (p:=⟨w.heap.size+1,0,none⟩) (.slice pa2 np pc2) (by first | assumption | (simp;done) | omega | (dsimp only;omega))).other (p:=⟨w.heap.size+1,1,none⟩) (.int .i64 ar) (by first | assumption | (simp;done) | omega | (dsimp only;omega))).other (p:=⟨w.heap.size+1,2,none⟩) (.int .i64 ce) (by first | assumption | (simp;done) | omega | (dsimp only;omega))).other (p:=⟨w.heap.size+1,3,none⟩) (.slice av nb cv) (by first | assumption | (simp;done) | omega | (dsimp only;omega)))
   have HQ_:=((((HQ.out.other (p:=⟨w.heap.size+1,0,none⟩) (.slice pa2 np pc2) (by simp)).other (p:=⟨w.heap.size+1,1,none⟩) (.int .i64 ar) (by simp)).other (p:=⟨w.heap.size+1,2,none⟩) (.int .i64 ce) (by simp)).other (p:=⟨w.heap.size+1,3,none⟩) (.slice av nb cv) (by simp))
   have HBF_:=((((HBF.out.other (p:=⟨w.heap.size+1,0,none⟩) (.slice pa2 np pc2) (by simp)).other (p:=⟨w.heap.size+1,1,none⟩) (.int .i64 ar) (by simp)).other (p:=⟨w.heap.size+1,2,none⟩) (.int .i64 ce) (by simp)).other (p:=⟨w.heap.size+1,3,none⟩) (.slice av nb cv) (by simp))
   have HW_:Below w.heap.size w ((((w6.setCell ⟨w.heap.size+1,0,none⟩ (.slice pa2 np pc2)).setCell ⟨w.heap.size+1,1,none⟩ (.int .i64 ar)).setCell ⟨w.heap.size+1,2,none⟩ (.int .i64 ce)).setCell ⟨w.heap.size+1,3,none⟩ (.slice av nb cv)):=((((HW.out.setCell (p:=⟨w.heap.size+1,0,none⟩) (by first | assumption | omega | (dsimp only;omega) | (have:=HW.out.size;omega) | (simp;done) | (simp;omega)) (.slice pa2 np pc2)).setCell (p:=⟨w.heap.size+1,1,none⟩) (by first | assumption | omega | (dsimp only;omega) | (have:=HW.out.size;omega) | (simp;done) | (simp;omega)) (.int .i64 ar)).setCell (p:=⟨w.heap.size+1,2,none⟩) (by first | assumption | omega | (dsimp only;omega) | (have:=HW.out.size;omega) | (simp;done) | (simp;omega)) (.int .i64 ce)).setCell (p:=⟨w.heap.size+1,3,none⟩) (by first | assumption | omega | (dsimp only;omega) | (have:=HW.out.size;omega) | (simp;done) | (simp;omega)) (.slice av nb cv))
   clear lB1 cB1 fB1 lB2 cB2 fB2 lB3 cB3 fB3
   clear B1 B2 B3 HQ HBF HW
   generalize ((((w6.setCell ⟨w.heap.size+1,0,none⟩ (.slice pa2 np pc2)).setCell ⟨w.heap.size+1,1,none⟩ (.int .i64 ar)).setCell ⟨w.heap.size+1,2,none⟩ (.int .i64 ce)).setCell ⟨w.heap.size+1,3,none⟩ (.slice av nb cv))=w7 at *
   have B1:=Lib.hid B1_
   clear B1_
   have B2:=Lib.hid B2_
   clear B2_
   have B3:=Lib.hid B3_
   clear B3_
   have HQ:=Lib.hid HQ_
   clear HQ_
   have HBF:=Lib.hid HBF_
   clear HBF_
   have HW:=Lib.hid HW_
   clear HW_
   obtain ⟨lB1,cB1,fB1⟩:=B1.out
   obtain ⟨lB2,cB2,fB2⟩:=B2.out
   obtain ⟨lB3,cB3,fB3⟩:=B3.out
   refine bodyPost_ret (v:=.agg #[.slice pa2 np pc2,.int .i64 ar,.int .i64 ce,.slice av nb cv]) (by simp [results,Try.results37,go_sem, *]) rfl ⟨_,fun q=>SQ q \/ SB q,rfl,⟨⟨_,_,SQ,SB,by rw [HAC.out.1,HAC.out.2],HQ.out.now,HBF.out.now,HQB.out,fun k h=>.inl h,fun k h=>.inr h⟩,fun k hk=>hk.elim (HQ.out.lt k) (HBF.out.lt k),H64.out.1,H64.out.2⟩,fun k hk => ?_,HW.out⟩
   rcases hk with hk | hk
   ·have:=HQ.out.base k hk;omega
   ·have:=HBF.out.base k hk;omega
end Go.Proofs.Ytblgdccoeecodaa
namespace Go.Proofs.Ytblgdccoeecodaa
set_option linter.unusedSimpArgs false
set_option linter.unusedVariables false
open Go.RowKit
theorem wpList_iapp {w:World} {ops:Array Oper} {rest:List Oper} {o:Oper} {a:Act} {Q:Exit -> Act -> World -> Prop} (hgd:o.guard=none) (s x:Operand)
  (ho:o.op = .call { callee:=.builtin .append,args:=#[s,x],argTypes:=#[22,22] }) {v:Value} {B:Nat} {y:Int} (hs:a.eval s=v) (hx:a.eval x = .slice (some ⟨B,0,none⟩) 1 1) {S:Foot} {xs:List Int} {n:Nat} (hn:xs.length=n)
  (H:OInts w S v xs) (hB:Box w B #[.int .i64 y]) (hy:In64 y) (hlen:n+1 <= 100000)
  (hK:∀ g cap w',OInts w' (Foot.one g) (.slice (some ⟨g,0,none⟩) (n+1) cap) (xs ++ [y]) -> (S g \/ w.heap.size <= g) -> Off S w w' -> wpList Try.prog ops Q rest (a.put o.dst (.slice (some ⟨g,0,none⟩) (n+1) cap)) w'):wpList Try.prog ops Q (o :: rest) a w:=by
 refine wpList_oapp (P:=Try.prog) hgd s x 22 3 ho elInt hs hx H.1 (row_box (n:=1) (size:=1) (ds:=[.int .i64 y]) hB rfl (by omega)) (by intro u hu;simp at hu;subst hu;rfl) (by omega) (by omega) fun v' w' G' r1 r2 r3 => ?_
 have hO:OInts w' G' v' (xs ++ [y]):=by
  refine ⟨?_,fun z hz => ?_⟩
  ·rw [List.length_append,List.map_append];exact r1
  ·rcases List.mem_append.1 hz with h | h
   ·exact H.2 z h
   ·simp at h;subst h;exact hy
 obtain ⟨g,cap,rfl,hg, -⟩:=hO.1.addr (by simp)
 have hl:(xs ++ [y]).length=n+1:=by simp [hn]
 rw [hl] at hO ⊢
 obtain ⟨k1,k2⟩:=hO.narrow (by omega)
 exact hK g cap w' k1 (r2 g k2) r3
end Go.Proofs.Ytblgdccoeecodaa
