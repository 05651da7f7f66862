/- Part 54. -/
import Derived.Test.YtagabiidbbhhmaaGreatER48
namespace Go.Proofs.YtagabiidbbhhmaaGreat
set_option linter.all false
section
open Go.RowKit Go.Shelf
theorem pP {T:List (Int × Int)} {id:Int} {i:Nat} (h:∀ p ∈ T.take i,p.1 ≠ id) {p:Int × Int} (hp:T[i]? = some p) (he:p.1=id):tyOf T id=some p.2:=by
 obtain ⟨hi,aa⟩:=aF.1 hp
 have h1:T.take i ++ p :: T.drop (i+1)=T:=by rw [<-aa, <-List.drop_eq_getElem_cons hi,dC]
 have h2:T.find? (fun q=>q.1 == id)=some p:=by
  rw [<-h1,List.find?_append,List.find?_eq_none.2 (fun q hq=>by simpa using h q hq),Option.none_or,List.find?_cons,show (p.1 == id)=true by simpa using he]
 unfold tyOf
 rw [h2];rfl
def toP (ps:List (Int × Int)) (v:Int):Int:=(tyOf ps v).getD v
theorem aB3 {ps:List (Int × Int)} {v:Int} (h:∀ p ∈ ps,p.1 ≠ v):toP ps v=v:=by
 unfold toP
 rw [gK.2 (fun hm=>by obtain ⟨p,hp,he⟩:=aX.1 hm;exact h p hp he)];rfl
theorem aB4 {ps:List (Int × Int)} {v:Int} {i:Nat} (h:∀ p ∈ ps.take i,p.1 ≠ v) {p:Int × Int} (hp:ps[i]? = some p) (he:p.1=v):toP ps v=p.2:=by
 unfold toP
 rw [pP h hp he];rfl
set_option maxHeartbeats 3200000 in
theorem aGM {w:World} {sv:Value} {ps:List (Int × Int)} {v:Int} (hv:Row w sv ps.length 2 (iH ps)) (hnm:ps.length <= 1000000):Calls Tryz.prog 43 #[sv,.int .i64 v] w fun e w'=>e = .returned (.int .i64 (toP ps v))/\Below w.heap.size w w':=by
 obtain ⟨n,hn⟩ : ∃ n,n=ps.length:=⟨_,rfl⟩
 rw [<-hn] at hv hnm
 have HN:=h! hn
 obtain ⟨va,vc,vb,vo,ak,hvc,hvm,ah,ae⟩:=hv.parts
 have aa:=hv.len
 cases ak
 have aj:=h! ah
 have ai:=h! ae
 have an:=h! aa
 obtain ⟨tt,ac⟩ : ∃ tt,tt=toP ps v:=⟨_,rfl⟩
 rw [<-ac]
 have ad:=h! ac
 clear ah ae aa hv hn ac
 go_enter Tryz.func43,Tryz.ntmps43
 go_wp2_with fail
 go_loopw [5] (fun ii wr => ∃ i:Nat,i <= n/\ii = .int .i64 i/\(∀ p ∈ ps.take i,p.1 ≠ v)/\wr=w) (fun ii _=>n - (intOf ii).toNat)
 case atStart=>exact ⟨0,aJ _,rfl,by simp,rfl⟩
 obtain ⟨i,hi,rfl,af,rfl⟩:=hrel
 have ab:=h! af
 clear af
 by_cases hlt:i < n
 ·obtain ⟨p,hp⟩ : ∃ p,ps[i]? = some p:=⟨_,aC (by have:=HN.out;omega)⟩
  obtain ⟨rfl,hvb⟩:=aj.out (by have:=an.out;omega)
  obtain ⟨h1,h2⟩:=mY _ _ _ hp
  have am:=ai.out _ _ h1
  have ag:=ai.out _ _ h2
  rw [<-Nat.add_assoc] at ag
  have HP:=h! hp
  have al:=h! (eT _ i p hp)
  clear h1 h2 hp
  obtain ⟨x,t⟩:=p
  simp only at am ag
  cases hx:(x == v)
  ·have HX:=h! hx
   go_wp2
   go_roundw
   case rel=>exact ⟨i+1,hlt,by go_num,fun q hq=>by
     rw [al.out] at hq
     rcases aM.1 hq with h | h
     ·exact ab.out q h
     simp at h;subst h;have:=HX.out;simpa using this,by trivial⟩
   simp [intOf];omega
  have HX:=h! hx
  go_wp2
  go_ret
  exact ⟨by rw [ad.out,aB4 ab.out HP.out (by have:=HX.out;simpa using this)];rfl,Below.refl _ _⟩
 obtain rfl:i=n:=by omega
 rw [aH (by have:=HN.out;omega)] at ab
 go_wp2
 go_ret
 exact ⟨by rw [ad.out,aB3 ab.out];rfl,Below.refl _ _⟩
def ToOk (sv:Value) (to:Int -> Int) (w:World):Prop := ∀ (W:World) (v:Int),In64 v -> Below w.heap.size w W -> Calls Tryz.prog 43 #[sv,.int .i64 v] W fun e W'=>e = .returned (.int .i64 (to v))/\Below W.heap.size W W'
theorem ToOk.of_row {w:World} {sv:Value} {ps:List (Int × Int)} (hv:Row w sv ps.length 2 (iH ps)) (hn:ps.length <= 1000000):ToOk sv (toP ps) w:=fun W v _ hb=>aGM (hv.below hb) hn
theorem ToOk.later {w w' : World} {sv:Value} {to:Int -> Int} (h:ToOk sv to w) (hb:Below w.heap.size w w'):ToOk sv to w':=fun W v h64 hb2=>h W v h64 (hb.trans (hb2.mono hb.size))
end
section
open Go.RowKit Go.Shelf
private theorem gA.alloc {w0 W:World} (h:gA w0 W) (o:Obj):gA w0 (W.alloc o):=h.later ((Below.refl _ _).alloc (aB _) o)
set_option maxHeartbeats 25600000 in
set_option maxRecDepth 100000 in
theorem aAU {w:World} {v sv:Value} {x:BlockD} {to:Int -> Int} (hv:BlockV w v x) (hp1:x.phis.length <= 100000) (hc1:x.code.length <= 100000) (hto:∀ v,In64 v -> In64 (to v)) (hT:ToOk sv to w) :
  Calls Tryz.prog 41 #[v,sv] w (pT (mapB to x) w):=by
 have HX:=h! hv
 have ep:=h! (And.intro hp1 hc1)
 have dy:=h! hto
 have HT:=h! hT
 obtain ⟨⟨pv,uv,tv,rfl,hp,hc,ht⟩,dr,bf,de⟩:=hv
 obtain ⟨ap,cp,rfl⟩:=hp.form
 obtain ⟨ac,cc,rfl⟩:=hc.form
 obtain ⟨ta,tc,rfl⟩:=ht.form
 obtain ⟨nt,dw⟩ : ∃ n,n=x.term.to.length:=⟨_,rfl⟩
 obtain ⟨np,dl⟩ : ∃ n,n=x.phis.length:=⟨_,rfl⟩
 obtain ⟨nc,di⟩ : ∃ n,n=x.code.length:=⟨_,rfl⟩
 obtain ⟨op,cw⟩ : ∃ n,n=x.term.op:=⟨_,rfl⟩
 obtain ⟨val,bs⟩ : ∃ n,n=x.term.val:=⟨_,rfl⟩
 obtain ⟨tn,dn⟩ : ∃ n,n=x.term.n:=⟨_,rfl⟩
 have ba:Hid (op=x.term.op/\val=x.term.val/\tn=x.term.n):=h! ⟨cw,bs,dn⟩
 have bt:Hid (In64 op/\In64 val/\In64 tn):=h! (by rw [cw,bs,dn];exact ⟨dr,bf,de⟩)
 rw [<-cw, <-bs, <-dn, <-dw, <-dl, <-di] at HX
 rw [<-cw, <-bs, <-dn, <-dw, <-dl, <-di]
 rw [<-dl] at hp1
 rw [<-di] at hc1
 have er:=h! dw
 have cr:=h! dl
 have cs:=h! di
 clear hp hc ht cw bs dn dw dl di dr bf de hto hT
 go_enter Tryz.func41,Tryz.ntmps41
 go_upto_region 1 with (fail)
 have bm:=(Below.refl w.heap.size w).alloc (aB _) (.cells #[.slice ap np cp,.slice ac nc cc,.int .i64 op,.int .i64 val,.slice ta nt tc,.int .i64 tn] 63)
 have HW:=h! bm
 clear bm
 have B1:=h! (Box.new w #[.slice ap np cp,.slice ac nc cc,.int .i64 op,.int .i64 val,.slice ta nt tc,.int .i64 tn] 63)
 have dm:(w.alloc (.cells #[.slice ap np cp,.slice ac nc cc,.int .i64 op,.int .i64 val,.slice ta nt tc,.int .i64 tn] 63)).heap.size=w.heap.size+1:=World.size_alloc _ _
 generalize w.alloc (.cells #[.slice ap np cp,.slice ac nc cc,.int .i64 op,.int .i64 val,.slice ta nt tc,.int .i64 tn] 63)=dv at *
 have bm:=(Below.refl dv.heap.size dv).alloc (aB _) (.cells #[.slice none 0 0,.slice none 0 0,.int .i64 0,.int .i64 0,.slice none 0 0,.int .i64 0] 63)
 replace B1:=h! (B1.out.later bm)
 replace HW:=h! (HW.out.trans (bm.mono HW.out.size))
 clear bm
 have B2:=h! (Box.new dv #[.slice none 0 0,.slice none 0 0,.int .i64 0,.int .i64 0,.slice none 0 0,.int .i64 0] 63)
 rw [dm] at B2
 clear dm
 generalize dv.alloc (.cells #[.slice none 0 0,.slice none 0 0,.int .i64 0,.int .i64 0,.slice none 0 0,.int .i64 0] 63)=wv at *
 obtain ⟨ct,dj,df⟩:=B1.out
 obtain ⟨cn,cy,dd⟩:=B2.out
 go_wp2_with fail
 refine (nW (HX.out.below HW.out) ep.out.1 ep.out.2).mono ?_
 rintro e w1 ⟨pv,uv,tv,S,rfl,fd,dx,hb⟩
 obtain ⟨⟨v1,u1,t1,S1,S2,S3,e1,h1,h2,h3,es,et,ew,i1,i2,i3⟩,bO⟩:=fd
 injection e1 with e1 e2
 injection e2 with e2 e3
 subst e1 e2 e3
 obtain ⟨⟨tv',e4,h3⟩, -, -, -⟩:=h3
 injection e4 with e4 e5
 injection e5 with e5 e6
 injection e6 with e6 e7
 subst e6
 obtain ⟨ag,ad,rfl⟩:=(h1.reads (R0:=PhiR) fun _ _ _ h=>h.reads).form
 obtain ⟨ae,ab,rfl⟩:=(h2.reads (R0:=iB) fun _ _ _ h=>h.reads).form
 obtain ⟨ai,ah,rfl⟩:=h3.ints.form
 rw [<-cr.out] at h1
 rw [<-cs.out] at h2
 rw [<-er.out] at h3
 rw [<-ba.out.1, <-ba.out.2.1, <-ba.out.2.2, <-cr.out, <-cs.out, <-er.out]
 have H1:Hid (Holds [w.heap.size,w.heap.size+1] (w.heap.size+1+1) w1 S1 (fun W=>fS W S1 (.slice ag np ad) x.phis)):=h! (((mH OPhi.nice h1 (fun k hk=>dx k (i1 k hk))).from (base':=w.heap.size+1+1) (by omega)).low (by intro z hz;simp at hz;omega))
 have H2:Hid (Holds [w.heap.size,w.heap.size+1] (w.heap.size+1+1) w1 S2 (fun W=>gL W S2 (.slice ae nc ab) x.code)):=h! (((mH OInstr.nice h2 (fun k hk=>dx k (i2 k hk))).from (base':=w.heap.size+1+1) (by omega)).low (by intro z hz;simp at hz;omega))
 have H3:Hid (Holds [w.heap.size,w.heap.size+1] (w.heap.size+1+1) w1 S3 (fun W=>eU W S3 (.slice ai nt ah) x.term.to)):=h! (((gH h3 (fun k hk=>dx k (i3 k hk))).from (base':=w.heap.size+1+1) (by omega)).low (by intro z hz;simp at hz;omega))
 have bp:Hid (S1.off S2/\S1.off S3/\S2.off S3):=h! ⟨es,et,ew⟩
 clear h1 h2 h3 es et ew i1 i2 i3 bO dx e4 e5 e7
 clear ct dj df cn cy dd
 replace B1:=h! (B1.out.later hb)
 replace B2:=h! (B2.out.later hb)
 replace HW:=h! (HW.out.trans (hb.mono HW.out.size))
 clear hb
 obtain ⟨ct,dj,df⟩:=B1.out
 obtain ⟨cn,cy,dd⟩:=B2.out
 have ez:=h! cn
 go_upto_region 2 with (fail)
 replace H1:=h! (H1.out.more (aB _))
 replace H2:=h! (H2.out.more (aB _))
 replace H3:=h! (H3.out.more (aB _))
 have cL:w1.heap.size ≠ w.heap.size:=fun e=>by have:=ct;omega
 have nB1B5:w.heap.size ≠ w1.heap.size:=fun e=>cL e.symm
 have cB:w1.heap.size ≠ w.heap.size+1:=fun e=>by have:=cn;omega
 have nB2B5:w.heap.size+1 ≠ w1.heap.size:=fun e=>cB e.symm
 clear ct dj df cn cy dd
 have bm:=(Below.refl w1.heap.size w1).alloc (aB _) (.cells #[.slice ag np ad,.slice ae nc ab,.int .i64 op,.int .i64 val,.slice ai nt ah,.int .i64 tn] 63)
 replace B1:=h! (B1.out.later bm)
 replace B2:=h! (B2.out.later bm)
 replace H1:=h! (H1.out.later bm)
 replace H2:=h! (H2.out.later bm)
 replace H3:=h! (H3.out.later bm)
 replace HW:=h! (HW.out.trans (bm.mono HW.out.size))
 clear bm
 have B5:=h! (Box.new w1 #[.slice ag np ad,.slice ae nc ab,.int .i64 op,.int .i64 val,.slice ai nt ah,.int .i64 tn] 63)
 generalize w1.alloc (.cells #[.slice ag np ad,.slice ae nc ab,.int .i64 op,.int .i64 val,.slice ai nt ah,.int .i64 tn] 63)=w4 at *
 obtain ⟨ct,dj,df⟩:=B1.out
 obtain ⟨cn,cy,dd⟩:=B2.out
 obtain ⟨fe,fb,fc⟩:=B5.out
 generalize w1.heap.size=b5 at *
 clear ct dj df B1
 clear cn cy dd fe fb fc
 go_wp2_with fail
 go_loopw [6] (fun iv wr => ∃ i:Nat,i <= np/\iv = .int .i64 i/\fS wr S1 (.slice ag np ad) (gC (mapP to) x.phis i)/\Off S1 w4 wr) (fun iv _=>np - (intOf iv).toNat)
 case atStart=>exact ⟨0,aJ _,rfl,by rw [fR];exact H1.out.now,Off.refl _ _⟩
 case round =>
  obtain ⟨i,hi,rfl,cG,ho⟩:=hrel
  have bn:=h! ho
  have co:=h! cG
  have aj:=h! (B5.out.off ho (fun hk=>H1.out.free _ hk (by simp)))
  clear cG ho
  by_cases bO:i < np
  ·obtain ⟨p,hp⟩ : ∃ p,x.phis[i]? = some p:=⟨_,aC (by rw [<-cr.out];exact bO)⟩
   obtain ⟨g1,en,af,av,cf,cv,Sv,hv,bz,ei,dt,ci,cl,db,ds,ay⟩:=fS.vals co.out (j:=i) (p:=p) (by rw [fW];exact hp)
   rw [eV, <-cr.out] at hv
   injection hv with e1 e2 e3
   subst e1
   subst e3
   have HP:=h! hp
   have cq:=h! cl
   have ch:=h! db
   have dg:=h! ay
   have dq:=h! dt.c3
   have eo:=h! ds
   have dc:=h! bz
   have ef:p.vals.length <= 17592186044416:=cl.1.big
   obtain ⟨nv,bh⟩ : ∃ nv,nv=p.vals.length:=⟨_,rfl⟩
   rw [<-bh] at dq cq dg ef
   have bo:=h! bh
   obtain ⟨W5,ck⟩ : ∃ W5,W5=wr:=⟨_,rfl⟩
   subst ck
   clear hp cl db ay dt ei ci ds bh e2 bz
   obtain ⟨l5,k5,f5⟩:=aj.out
   go_wp2_with fail
   clear l5 k5 f5
   go_loopw [7] (fun iv wr => ∃ q:Nat,q <= nv/\iv = .int .i64 q/\eU wr Sv (.slice av nv cv) (gC to p.vals q)/\Off Sv W5 wr) (fun iv _=>nv - (intOf iv).toNat)
   case atStart=>exact ⟨0,aJ _,rfl,by rw [fR];exact cq.out,Off.refl _ _⟩
   obtain ⟨q,hq,rfl,cM,ho⟩:=hrel
   have cm:=h! cM
   have bc:=h! ho
   have bi:=h! (aj.out.off ho (fun hk=>H1.out.free _ (ch.out _ hk) (by simp)))
   have m3:=(ho.cell (b:=g1) (o:=i * 4+3) dc.out eo.out).trans dq.out
   have bv:g1 < wr.heap.size:=aY dc.out ho.size
   clear cM ho
   by_cases hqt:q < nv
   ·obtain ⟨v,hv⟩ : ∃ v,p.vals[q]? = some v:=⟨_,aC (by rw [<-bo.out];exact hqt)⟩
    obtain ⟨gv,ej,dh,bw,bb,be,bx, -⟩:=cm.out.addr (i:=q) (x:=v) (by rw [fW];exact hv)
    rw [eV, <-bo.out] at dh
    injection dh with e1 e2 e3
    subst e1
    subst e3
    have bf:=cq.out.2 v (aG hv)
    have dz:=h! hv
    have da:=h! bf
    have eb:=h! bw
    have cb:=h! bx
    have bj:=h! be
    have br:=h! m3
    have bq:Hid (gA wr wr):=h! (Below.refl _ _)
    have dk:Hid (Below w.heap.size w wr):=h! (HW.out.trans ((bn.out.trans (bc.out.mono fun z _ hz=>ch.out z hz)).below (base:=w.heap.size) HW.out.size (fun k _ hk=>by have:=H1.out.base k hk;omega)))
    clear hv bw bx e2 bf be
    obtain ⟨bk,bl,bg⟩:=bi.out
    go_upto_region 8 with (fail)
    clear m3
    refine wp_region_grow 19 (fun kz=>match kz with | 17=>.const (.int .i64 (to v)) | _=>.plain) (by kernel_rfl) (by kernel_rfl) ?_ (fun ν => ?_)
    ·(intro k;(try dsimp only);split <;> first | exact True.intro | (intro u w1 w2 hu hb;exact hu.below hb))
    simp only [aO,aS,aP,aU]
    iterate 17 (refine Grow.val (v := ?_) rfl rfl (fun wg hbg hdg => ?_) ?_;rotate_left;(focus ((obtain ⟨ed,ee,ec⟩:=bi.out.later hbg);(have em:=(hbg.cell (p:=⟨g1,i * 4+3,none⟩) bv).trans br.out;have ek:=(hbg.cell (p:=⟨gv,q,none⟩) bb).trans bj.out);clear hbg hdg;first | (go_simp;done) | (go_simp;with_reducible rfl)));simp only [Act.put,aA,aD,aE])
    refine Grow.call (f := ?_) (args := ?_) rfl (fun wg => ?_) (fun wg hbg hdg => ?_) ?_
    rotate_left 2
    focus (first | (go_simp;done) | (go_simp;refine And.intro ?_ ?_ <;> with_reducible rfl) | (go_simp;with_reducible rfl))
    focus exact Calls.mono (HT.out wg v da.out (dk.out.trans (hbg.mono dk.out.size))) (fun e w2 ⟨he,hb2⟩=>⟨_,he,rfl,hb2⟩)
    simp only [Act.put,Known.val,aA,aD,aE]
    refine Grow.val (v := ?_) rfl rfl (fun wg hbg hdg => ?_) ?_
    rotate_left
    focus ((obtain ⟨ed,ee,ec⟩:=bi.out.later hbg);(have em:=(hbg.cell (p:=⟨g1,i * 4+3,none⟩) bv).trans br.out;have ek:=(hbg.cell (p:=⟨gv,q,none⟩) bb).trans bj.out);clear hbg hdg;first | (go_simp;done) | (go_simp;with_reducible rfl))
    simp only [Act.put,aA,aD,aE]
    intro wg hb hf eg
    clear eg
    clear bk bl bg
    replace bi:=h! (bi.out.later hb)
    replace bq:=h! (bq.out.later hb)
    obtain ⟨bk,bl,bg⟩:=bi.out
    clear hf
    have ce:=(bq.out.cell (p:=⟨gv,q,none⟩) bb).trans bj.out
    have cg:∀ o,wg.frozen? ⟨gv,o,none⟩=false:=fun o=>(bq.out.frozen (p:=⟨gv,o,none⟩) bb).trans (cb.out o)
    have cj:Hid (eU (wg.setCell ⟨gv,q,none⟩ (.int .i64 (to v))) Sv (.slice (some ⟨gv,0,none⟩) nv cv) (gC to p.vals (q+1))):=h! (by
     have h9:=eU.set (cm.out.off (Off.of_below bq.out Foot.none) (fun _ _ h=>h)) (g:=gv) (cap:=cv) (by rw [eV, <-bo.out]) (i:=q) (by rw [eV, <-bo.out];exact hqt) (dy.out v da.out)
     rw [fX dz.out] at h9
     exact h9)
    have cd:Hid (Off Sv W5 (wg.setCell ⟨gv,q,none⟩ (.int .i64 (to v)))):=h! ((bc.out.trans (Off.of_below bq.out _)).trans ((Off.set wg ⟨gv,q,none⟩ _).mono fun z _ hz=>by have h9:z=gv:=hz;rw [h9];exact eb.out))
    clear bk bl bg
    go_wp2
    clear ce cg
    go_roundw
    case rel=>exact ⟨q+1,hqt,by go_num,cj.out,cd.out⟩
    simp [intOf];omega
   obtain rfl:nv=q:=by omega
   have cj:Hid (fS wr S1 (.slice (some ⟨g1,0,none⟩) np ad) (gC (mapP to) x.phis (i+1))):=h! (by
    have h9:=cm.out
    rw [bo.out,gD, <-bo.out] at h9
    have h8:=dg.out wr _ bc.out h9
    have h7:=fX (g:=mapP to) HP.out
    rw [<-h7]
    exact h8)
   have cd:Hid (Off S1 w4 wr):=h! (bn.out.trans (bc.out.mono fun z _ hz=>ch.out z hz))
   obtain ⟨l5,k5,f5⟩:=bi.out
   go_wp2
   clear l5 k5 f5 m3
   go_roundw
   case rel=>exact ⟨i+1,bO,by go_num,cj.out,cd.out⟩
   simp [intOf];omega
  obtain rfl:np=i:=by omega
  have eh:Hid (fS wr S1 (.slice ag np ad) (x.phis.map (mapP to))):=h! (by have h9:=co.out;rw [cr.out,gD, <-cr.out] at h9;exact h9)
  obtain ⟨W2,ck⟩ : ∃ W5,W5=wr:=⟨_,rfl⟩
  subst ck
  clear co bO hi
  have cz:=bn
  have ev:Hid (gL W2 S2 (.slice ae nc ab) x.code):=h! (H2.out.now.off OInstr.nice cz.out (fun z a b=>bp.out.1 z b a))
  have cx:Hid (Below w.heap.size w W2):=h! (HW.out.trans (cz.out.below (base:=w.heap.size) HW.out.size (fun k _ hk=>by have:=H1.out.base k hk;omega)))
  obtain ⟨l5,k5,f5⟩:=aj.out
  have ey:=aj
  clear bn aj
  go_wp2_with fail
  clear l5 k5 f5
  go_loopw [8] (fun iv wr => ∃ i:Nat,i <= nc/\iv = .int .i64 i/\gL wr S2 (.slice ae nc ab) (gC (mapX to) x.code i)/\Off S2 W2 wr) (fun iv _=>nc - (intOf iv).toNat)
  case atStart=>exact ⟨0,aJ _,rfl,by rw [fR];exact ev.out,Off.refl _ _⟩
  obtain ⟨i,hi,rfl,cG,ho⟩:=hrel
  have bn:=h! ho
  have co:=h! cG
  have aj:=h! (ey.out.off ho (fun hk=>H2.out.free _ hk (by simp)))
  clear cG ho
  by_cases bO:i < nc
  ·obtain ⟨p,hp⟩ : ∃ p,x.code[i]? = some p:=⟨_,aC (by rw [<-cs.out];exact bO)⟩
   obtain ⟨g1,en,aa,ca,Sv,hv,bz,ei,dt,ci,cl,db,ds,ay⟩:=gL.open co.out (j:=i) (y:=p) (by rw [fW];exact hp)
   rw [eV, <-cs.out] at hv
   injection hv with e1 e2 e3
   subst e1
   subst e3
   have HP:=h! hp
   have cq:=h! cl
   have ch:=h! db
   have dg:=h! ay
   have dq:=h! dt.c2
   have eo:=h! ds
   have dc:=h! bz
   have ef:p.args.length <= 17592186044416:=cl.1.big
   obtain ⟨nv,bh⟩ : ∃ nv,nv=p.args.length:=⟨_,rfl⟩
   rw [<-bh] at dq cq dg ef
   have bo:=h! bh
   obtain ⟨W5,ck⟩ : ∃ W5,W5=wr:=⟨_,rfl⟩
   subst ck
   clear hp cl db ay dt ei ci ds bh e2 bz
   obtain ⟨l5,k5,f5⟩:=aj.out
   go_wp2_with fail
   clear l5 k5 f5
   go_loopw [9] (fun iv wr => ∃ q:Nat,q <= nv/\iv = .int .i64 q/\eU wr Sv (.slice aa nv ca) (gC to p.args q)/\Off Sv W5 wr) (fun iv _=>nv - (intOf iv).toNat)
   case atStart=>exact ⟨0,aJ _,rfl,by rw [fR];exact cq.out,Off.refl _ _⟩
   obtain ⟨q,hq,rfl,cM,ho⟩:=hrel
   have cm:=h! cM
   have bc:=h! ho
   have bi:=h! (aj.out.off ho (fun hk=>H2.out.free _ (ch.out _ hk) (by simp)))
   have m3:=(ho.cell (b:=g1) (o:=i * 4+2) dc.out eo.out).trans dq.out
   have bv:g1 < wr.heap.size:=aY dc.out ho.size
   clear cM ho
   by_cases hqt:q < nv
   ·obtain ⟨v,hv⟩ : ∃ v,p.args[q]? = some v:=⟨_,aC (by rw [<-bo.out];exact hqt)⟩
    obtain ⟨gv,ej,dh,bw,bb,be,bx, -⟩:=cm.out.addr (i:=q) (x:=v) (by rw [fW];exact hv)
    rw [eV, <-bo.out] at dh
    injection dh with e1 e2 e3
    subst e1
    subst e3
    have bf:=cq.out.2 v (aG hv)
    have dz:=h! hv
    have da:=h! bf
    have eb:=h! bw
    have cb:=h! bx
    have bj:=h! be
    have br:=h! m3
    have bq:Hid (gA wr wr):=h! (Below.refl _ _)
    have dk:Hid (Below w.heap.size w wr):=h! (cx.out.trans ((bn.out.trans (bc.out.mono fun z _ hz=>ch.out z hz)).below (base:=w.heap.size) cx.out.size (fun k _ hk=>by have:=H2.out.base k hk;omega)))
    clear hv bw bx e2 bf be
    obtain ⟨bk,bl,bg⟩:=bi.out
    go_upto_region 15 with (fail)
    clear m3
    refine wp_region_grow 19 (fun kz=>match kz with | 17=>.const (.int .i64 (to v)) | _=>.plain) (by kernel_rfl) (by kernel_rfl) ?_ (fun ν => ?_)
    ·(intro k;(try dsimp only);split <;> first | exact True.intro | (intro u w1 w2 hu hb;exact hu.below hb))
    simp only [aO,aS,aP,aU]
    iterate 17 (refine Grow.val (v := ?_) rfl rfl (fun wg hbg hdg => ?_) ?_;rotate_left;(focus ((obtain ⟨ed,ee,ec⟩:=bi.out.later hbg);(have em:=(hbg.cell (p:=⟨g1,i * 4+2,none⟩) bv).trans br.out;have ek:=(hbg.cell (p:=⟨gv,q,none⟩) bb).trans bj.out);clear hbg hdg;first | (go_simp;done) | (go_simp;with_reducible rfl)));simp only [Act.put,aA,aD,aE])
    refine Grow.call (f := ?_) (args := ?_) rfl (fun wg => ?_) (fun wg hbg hdg => ?_) ?_
    rotate_left 2
    focus (first | (go_simp;done) | (go_simp;refine And.intro ?_ ?_ <;> with_reducible rfl) | (go_simp;with_reducible rfl))
    focus exact Calls.mono (HT.out wg v da.out (dk.out.trans (hbg.mono dk.out.size))) (fun e w2 ⟨he,hb2⟩=>⟨_,he,rfl,hb2⟩)
    simp only [Act.put,Known.val,aA,aD,aE]
    refine Grow.val (v := ?_) rfl rfl (fun wg hbg hdg => ?_) ?_
    rotate_left
    focus ((obtain ⟨ed,ee,ec⟩:=bi.out.later hbg);(have em:=(hbg.cell (p:=⟨g1,i * 4+2,none⟩) bv).trans br.out;have ek:=(hbg.cell (p:=⟨gv,q,none⟩) bb).trans bj.out);clear hbg hdg;first | (go_simp;done) | (go_simp;with_reducible rfl))
    simp only [Act.put,aA,aD,aE]
    intro wg hb hf eg
    clear eg
    clear bk bl bg
    replace bi:=h! (bi.out.later hb)
    replace bq:=h! (bq.out.later hb)
    obtain ⟨bk,bl,bg⟩:=bi.out
    clear hf
    have ce:=(bq.out.cell (p:=⟨gv,q,none⟩) bb).trans bj.out
    have cg:∀ o,wg.frozen? ⟨gv,o,none⟩=false:=fun o=>(bq.out.frozen (p:=⟨gv,o,none⟩) bb).trans (cb.out o)
    have cj:Hid (eU (wg.setCell ⟨gv,q,none⟩ (.int .i64 (to v))) Sv (.slice (some ⟨gv,0,none⟩) nv ca) (gC to p.args (q+1))):=h! (by
     have h9:=eU.set (cm.out.off (Off.of_below bq.out Foot.none) (fun _ _ h=>h)) (g:=gv) (cap:=ca) (by rw [eV, <-bo.out]) (i:=q) (by rw [eV, <-bo.out];exact hqt) (dy.out v da.out)
     rw [fX dz.out] at h9
     exact h9)
    have cd:Hid (Off Sv W5 (wg.setCell ⟨gv,q,none⟩ (.int .i64 (to v)))):=h! ((bc.out.trans (Off.of_below bq.out _)).trans ((Off.set wg ⟨gv,q,none⟩ _).mono fun z _ hz=>by have h9:z=gv:=hz;rw [h9];exact eb.out))
    clear bk bl bg
    go_wp2
    clear ce cg
    go_roundw
    case rel=>exact ⟨q+1,hqt,by go_num,cj.out,cd.out⟩
    simp [intOf];omega
   obtain rfl:nv=q:=by omega
   have cj:Hid (gL wr S2 (.slice (some ⟨g1,0,none⟩) nc ab) (gC (mapX to) x.code (i+1))):=h! (by
    have h9:=cm.out
    rw [bo.out,gD, <-bo.out] at h9
    have h8:=dg.out wr _ bc.out h9
    have h7:=fX (g:=mapX to) HP.out
    rw [<-h7]
    exact h8)
   have cd:Hid (Off S2 W2 wr):=h! (bn.out.trans (bc.out.mono fun z _ hz=>ch.out z hz))
   obtain ⟨l5,k5,f5⟩:=bi.out
   go_wp2
   clear l5 k5 f5 m3
   go_roundw
   case rel=>exact ⟨i+1,bO,by go_num,cj.out,cd.out⟩
   simp [intOf];omega
  obtain rfl:nc=i:=by omega
  have ea:Hid (gL wr S2 (.slice ae nc ab) (x.code.map (mapX to))):=h! (by have h9:=co.out;rw [cs.out,gD, <-cs.out] at h9;exact h9)
  obtain ⟨W3,ck⟩ : ∃ W5,W5=wr:=⟨_,rfl⟩
  subst ck
  clear co bO hi
  have ax:Hid (Holds [b5,w.heap.size,w.heap.size+1] (w.heap.size+1+1) W3 S1 (fun W=>fS W S1 (.slice ag np ad) (x.phis.map (mapP to)))):=h! ⟨eh.out.off OPhi.nice bn.out bp.out.1,fun _ _ h hk=>h.keep OPhi.nice hk,fun k hk=>aY (eh.out.lt k hk) bn.out.size,H1.out.base,H1.out.free⟩
  have ar:Hid (Holds [b5,w.heap.size,w.heap.size+1] (w.heap.size+1+1) W3 S2 (fun W=>gL W S2 (.slice ae nc ab) (x.code.map (mapX to)))):=h! ⟨ea.out,fun _ _ h hk=>h.keep OInstr.nice hk,ea.out.lt,H2.out.base,H2.out.free⟩
  have aw:Hid (Holds [b5,w.heap.size,w.heap.size+1] (w.heap.size+1+1) W3 S3 (fun W=>eU W S3 (.slice ai nt ah) x.term.to)):=h! ((H3.out.off cz.out (fun z a b=>bp.out.2.1 z b a)).off bn.out (fun z a b=>bp.out.2.2 z b a))
  have az:=h! ((B2.out.off cz.out (fun hk=>H1.out.free _ hk (by simp))).off bn.out (fun hk=>H2.out.free _ hk (by simp)))
  have ex:Hid (Below w.heap.size w W3):=h! (cx.out.trans (bn.out.below (base:=w.heap.size) cx.out.size (fun k _ hk=>by have:=H2.out.base k hk;omega)))
  replace HW:=ex
  clear eh ea bn cz H1 H2 H3 B2 cx ex B5 ey ev
  have hbb:=ez.out
  obtain ⟨aq,an,al⟩:=aj.out
  obtain ⟨ak,am,ao⟩:=az.out
  by_cases ho2:op=2
  ·have hq:(op == 2)=true:=by simpa using ho2
   have dp:Hid (x.term.op=2 \/ x.term.op=3):=h! (.inl (by rw [<-ba.out.1];exact ho2))
   clear ho2
   have cF:Hid (In64 (to val)):=h! (dy.out _ bt.out.2.1)
   have HM:Hid (mapB to x=⟨x.phis.map (mapP to),x.code.map (mapX to), { x.term with val:=to val }⟩):=h! (by unfold mapB mapT;rw [if_pos dp.out,ba.out.2.1])
   go_wp2_with fail
   refine (HT.out W3 val bt.out.2.1 HW.out).mono ?_
   rintro e w9 ⟨rfl,hb⟩
   clear aq an al ak am ao
   replace aj:=h! (aj.out.later hb)
   replace az:=h! (az.out.later hb)
   replace ax:=h! (ax.out.later hb)
   replace ar:=h! (ar.out.later hb)
   replace aw:=h! (aw.out.later hb)
   replace HW:=h! (HW.out.trans (hb.mono HW.out.size))
   clear hb
   obtain ⟨aq,an,al⟩:=aj.out
   obtain ⟨ak,am,ao⟩:=az.out
   go_upto_region 18 with (fail)
   clear aq an al ak am ao
   have bd:=(Only.set w9 (b5) 3 (.int .i64 (to val)))
   replace az:=h! (az.out.only bd (by first | assumption | (simp;done) | omega))
   replace ax:=h! (ax.out.other (p:=⟨b5,3,none⟩) (.int .i64 (to val)) (by simp))
   replace ar:=h! (ar.out.other (p:=⟨b5,3,none⟩) (.int .i64 (to val)) (by simp))
   replace aw:=h! (aw.out.other (p:=⟨b5,3,none⟩) (.int .i64 (to val)) (by simp))
   replace HW:=h! (bd.2.2 HW.out (by first | assumption | omega | (have:=HW.out.size;omega) | (simp;done) | (simp;omega)))
   replace aj:=h! (Box.to (A':=#[.slice ag np ad,.slice ae nc ab,.int .i64 op,(.int .i64 (to val)),.slice ai nt ah,.int .i64 tn]) (aj.out.set 3 (.int .i64 (to val))) (by first | rfl | simp))
   clear bd
   generalize (w9.setCell ⟨b5,3,none⟩ (.int .i64 (to val)))=wa at *
   obtain ⟨aq,an,al⟩:=aj.out
   obtain ⟨ak,am,ao⟩:=az.out
   go_wp2
   clear aq an al ak am ao
   have bd:=((((((Only.set wa (w.heap.size+1) 0 (.slice ag np ad)).put 1 (.slice ae nc ab)).put 2 (.int .i64 op)).put 3 (.int .i64 (to val))).put 4 (.slice ai nt ah)).put 5 (.int .i64 tn))
   replace aj:=h! (aj.out.only bd (by first | assumption | (simp;done) | omega))
   replace ax:=h! ((((((ax.out.other (p:=⟨w.heap.size+1,0,none⟩) (.slice ag np ad) (by simp)).other (p:=⟨w.heap.size+1,1,none⟩) (.slice ae nc ab) (by simp)).other (p:=⟨w.heap.size+1,2,none⟩) (.int .i64 op) (by simp)).other (p:=⟨w.heap.size+1,3,none⟩) (.int .i64 (to val)) (by simp)).other (p:=⟨w.heap.size+1,4,none⟩) (.slice ai nt ah) (by simp)).other (p:=⟨w.heap.size+1,5,none⟩) (.int .i64 tn) (by simp))
   replace ar:=h! ((((((ar.out.other (p:=⟨w.heap.size+1,0,none⟩) (.slice ag np ad) (by simp)).other (p:=⟨w.heap.size+1,1,none⟩) (.slice ae nc ab) (by simp)).other (p:=⟨w.heap.size+1,2,none⟩) (.int .i64 op) (by simp)).other (p:=⟨w.heap.size+1,3,none⟩) (.int .i64 (to val)) (by simp)).other (p:=⟨w.heap.size+1,4,none⟩) (.slice ai nt ah) (by simp)).other (p:=⟨w.heap.size+1,5,none⟩) (.int .i64 tn) (by simp))
   replace aw:=h! ((((((aw.out.other (p:=⟨w.heap.size+1,0,none⟩) (.slice ag np ad) (by simp)).other (p:=⟨w.heap.size+1,1,none⟩) (.slice ae nc ab) (by simp)).other (p:=⟨w.heap.size+1,2,none⟩) (.int .i64 op) (by simp)).other (p:=⟨w.heap.size+1,3,none⟩) (.int .i64 (to val)) (by simp)).other (p:=⟨w.heap.size+1,4,none⟩) (.slice ai nt ah) (by simp)).other (p:=⟨w.heap.size+1,5,none⟩) (.int .i64 tn) (by simp))
   replace HW:=h! (bd.2.2 HW.out (by first | assumption | omega | (have:=HW.out.size;omega) | (simp;done) | (simp;omega)))
   replace az:=h! (Box.to (A':=#[(.slice ag np ad),(.slice ae nc ab),(.int .i64 op),(.int .i64 (to val)),(.slice ai nt ah),(.int .i64 tn)]) ((((((az.out.set 0 (.slice ag np ad)).set 1 (.slice ae nc ab)).set 2 (.int .i64 op)).set 3 (.int .i64 (to val))).set 4 (.slice ai nt ah)).set 5 (.int .i64 tn)) (by first | rfl | simp))
   clear bd
   generalize ((((((wa.setCell ⟨w.heap.size+1,0,none⟩ (.slice ag np ad)).setCell ⟨w.heap.size+1,1,none⟩ (.slice ae nc ab)).setCell ⟨w.heap.size+1,2,none⟩ (.int .i64 op)).setCell ⟨w.heap.size+1,3,none⟩ (.int .i64 (to val))).setCell ⟨w.heap.size+1,4,none⟩ (.slice ai nt ah)).setCell ⟨w.heap.size+1,5,none⟩ (.int .i64 tn))=wz at *
   obtain ⟨aq,an,al⟩:=aj.out
   obtain ⟨ak,am,ao⟩:=az.out
   refine bodyPost_ret (v:=.agg #[.slice ag np ad,.slice ae nc ab,.int .i64 op,.int .i64 (to val),.slice ai nt ah,.int .i64 tn]) (by simp [results,Tryz.results41,go_sem, *]) rfl ⟨.slice ag np ad,.slice ae nc ab,.slice ai nt ah,fun k=>S1 k \/ S2 k \/ S3 k,by rw [HM.out,ba.out.1,ba.out.2.2], ?_,fun k hk => ?_,HW.out⟩
   ·rw [HM.out]
    exact ⟨⟨_,_,_,S1,S2,S3,rfl,ax.out.now,ar.out.now,⟨⟨_,rfl,aw.out.now⟩,by rw [<-ba.out.1];exact bt.out.1,cF.out,by rw [<-ba.out.2.2];exact bt.out.2.2⟩,bp.out.1,bp.out.2.1,bp.out.2.2,fun _ h=>.inl h,fun _ h=>.inr (.inl h),fun _ h=>.inr (.inr h)⟩,fun k hk=>hk.elim (ax.out.lt k) (fun h=>h.elim (ar.out.lt k) (aw.out.lt k))⟩
   have:=hk.elim (ax.out.base k) (fun h=>h.elim (ar.out.base k) (aw.out.base k));omega
  have hq:(op == 2)=false:=by simpa using ho2
  by_cases ho3:op=3
  ·have fa:(op == 3)=true:=by simpa using ho3
   have dp:Hid (x.term.op=2 \/ x.term.op=3):=h! (.inr (by rw [<-ba.out.1];exact ho3))
   clear ho2 ho3
   have cF:Hid (In64 (to val)):=h! (dy.out _ bt.out.2.1)
   have HM:Hid (mapB to x=⟨x.phis.map (mapP to),x.code.map (mapX to), { x.term with val:=to val }⟩):=h! (by unfold mapB mapT;rw [if_pos dp.out,ba.out.2.1])
   go_wp2_with fail
   refine (HT.out W3 val bt.out.2.1 HW.out).mono ?_
   rintro e w9 ⟨rfl,hb⟩
   clear aq an al ak am ao
   replace aj:=h! (aj.out.later hb)
   replace az:=h! (az.out.later hb)
   replace ax:=h! (ax.out.later hb)
   replace ar:=h! (ar.out.later hb)
   replace aw:=h! (aw.out.later hb)
   replace HW:=h! (HW.out.trans (hb.mono HW.out.size))
   clear hb
   obtain ⟨aq,an,al⟩:=aj.out
   obtain ⟨ak,am,ao⟩:=az.out
   go_upto_region 18 with (fail)
   clear aq an al ak am ao
   have bd:=(Only.set w9 (b5) 3 (.int .i64 (to val)))
   replace az:=h! (az.out.only bd (by first | assumption | (simp;done) | omega))
   replace ax:=h! (ax.out.other (p:=⟨b5,3,none⟩) (.int .i64 (to val)) (by simp))
   replace ar:=h! (ar.out.other (p:=⟨b5,3,none⟩) (.int .i64 (to val)) (by simp))
   replace aw:=h! (aw.out.other (p:=⟨b5,3,none⟩) (.int .i64 (to val)) (by simp))
   replace HW:=h! (bd.2.2 HW.out (by first | assumption | omega | (have:=HW.out.size;omega) | (simp;done) | (simp;omega)))
   replace aj:=h! (Box.to (A':=#[.slice ag np ad,.slice ae nc ab,.int .i64 op,(.int .i64 (to val)),.slice ai nt ah,.int .i64 tn]) (aj.out.set 3 (.int .i64 (to val))) (by first | rfl | simp))
   clear bd
   generalize (w9.setCell ⟨b5,3,none⟩ (.int .i64 (to val)))=wa at *
   obtain ⟨aq,an,al⟩:=aj.out
   obtain ⟨ak,am,ao⟩:=az.out
   go_wp2
   clear aq an al ak am ao
   have bd:=((((((Only.set wa (w.heap.size+1) 0 (.slice ag np ad)).put 1 (.slice ae nc ab)).put 2 (.int .i64 op)).put 3 (.int .i64 (to val))).put 4 (.slice ai nt ah)).put 5 (.int .i64 tn))
   replace aj:=h! (aj.out.only bd (by first | assumption | (simp;done) | omega))
   replace ax:=h! ((((((ax.out.other (p:=⟨w.heap.size+1,0,none⟩) (.slice ag np ad) (by simp)).other (p:=⟨w.heap.size+1,1,none⟩) (.slice ae nc ab) (by simp)).other (p:=⟨w.heap.size+1,2,none⟩) (.int .i64 op) (by simp)).other (p:=⟨w.heap.size+1,3,none⟩) (.int .i64 (to val)) (by simp)).other (p:=⟨w.heap.size+1,4,none⟩) (.slice ai nt ah) (by simp)).other (p:=⟨w.heap.size+1,5,none⟩) (.int .i64 tn) (by simp))
   replace ar:=h! ((((((ar.out.other (p:=⟨w.heap.size+1,0,none⟩) (.slice ag np ad) (by simp)).other (p:=⟨w.heap.size+1,1,none⟩) (.slice ae nc ab) (by simp)).other (p:=⟨w.heap.size+1,2,none⟩) (.int .i64 op) (by simp)).other (p:=⟨w.heap.size+1,3,none⟩) (.int .i64 (to val)) (by simp)).other (p:=⟨w.heap.size+1,4,none⟩) (.slice ai nt ah) (by simp)).other (p:=⟨w.heap.size+1,5,none⟩) (.int .i64 tn) (by simp))
   replace aw:=h! ((((((aw.out.other (p:=⟨w.heap.size+1,0,none⟩) (.slice ag np ad) (by simp)).other (p:=⟨w.heap.size+1,1,none⟩) (.slice ae nc ab) (by simp)).other (p:=⟨w.heap.size+1,2,none⟩) (.int .i64 op) (by simp)).other (p:=⟨w.heap.size+1,3,none⟩) (.int .i64 (to val)) (by simp)).other (p:=⟨w.heap.size+1,4,none⟩) (.slice ai nt ah) (by simp)).other (p:=⟨w.heap.size+1,5,none⟩) (.int .i64 tn) (by simp))
   replace HW:=h! (bd.2.2 HW.out (by first | assumption | omega | (have:=HW.out.size;omega) | (simp;done) | (simp;omega)))
   replace az:=h! (Box.to (A':=#[(.slice ag np ad),(.slice ae nc ab),(.int .i64 op),(.int .i64 (to val)),(.slice ai nt ah),(.int .i64 tn)]) ((((((az.out.set 0 (.slice ag np ad)).set 1 (.slice ae nc ab)).set 2 (.int .i64 op)).set 3 (.int .i64 (to val))).set 4 (.slice ai nt ah)).set 5 (.int .i64 tn)) (by first | rfl | simp))
   clear bd
   generalize ((((((wa.setCell ⟨w.heap.size+1,0,none⟩ (.slice ag np ad)).setCell ⟨w.heap.size+1,1,none⟩ (.slice ae nc ab)).setCell ⟨w.heap.size+1,2,none⟩ (.int .i64 op)).setCell ⟨w.heap.size+1,3,none⟩ (.int .i64 (to val))).setCell ⟨w.heap.size+1,4,none⟩ (.slice ai nt ah)).setCell ⟨w.heap.size+1,5,none⟩ (.int .i64 tn))=wz at *
   obtain ⟨aq,an,al⟩:=aj.out
   obtain ⟨ak,am,ao⟩:=az.out
   refine bodyPost_ret (v:=.agg #[.slice ag np ad,.slice ae nc ab,.int .i64 op,.int .i64 (to val),.slice ai nt ah,.int .i64 tn]) (by simp [results,Tryz.results41,go_sem, *]) rfl ⟨.slice ag np ad,.slice ae nc ab,.slice ai nt ah,fun k=>S1 k \/ S2 k \/ S3 k,by rw [HM.out,ba.out.1,ba.out.2.2], ?_,fun k hk => ?_,HW.out⟩
   ·rw [HM.out]
    exact ⟨⟨_,_,_,S1,S2,S3,rfl,ax.out.now,ar.out.now,⟨⟨_,rfl,aw.out.now⟩,by rw [<-ba.out.1];exact bt.out.1,cF.out,by rw [<-ba.out.2.2];exact bt.out.2.2⟩,bp.out.1,bp.out.2.1,bp.out.2.2,fun _ h=>.inl h,fun _ h=>.inr (.inl h),fun _ h=>.inr (.inr h)⟩,fun k hk=>hk.elim (ax.out.lt k) (fun h=>h.elim (ar.out.lt k) (aw.out.lt k))⟩
   have:=hk.elim (ax.out.base k) (fun h=>h.elim (ar.out.base k) (aw.out.base k));omega
  have fa:(op == 3)=false:=by simpa using ho3
  have dp:Hid (¬ (x.term.op=2 \/ x.term.op=3)):=h! (by rw [<-ba.out.1];exact fun h=>h.elim ho2 ho3)
  have cF:Hid (In64 val):=h! bt.out.2.1
  have HM:Hid (mapB to x=⟨x.phis.map (mapP to),x.code.map (mapX to), { x.term with val:=val }⟩):=h! (by unfold mapB mapT;rw [if_neg dp.out,ba.out.2.1])
  clear ho2 ho3
  go_wp2
  clear aq an al ak am ao
  have bd:=((((((Only.set W3 (w.heap.size+1) 0 (.slice ag np ad)).put 1 (.slice ae nc ab)).put 2 (.int .i64 op)).put 3 (.int .i64 val)).put 4 (.slice ai nt ah)).put 5 (.int .i64 tn))
  replace aj:=h! (aj.out.only bd (by first | assumption | (simp;done) | omega))
  replace ax:=h! ((((((ax.out.other (p:=⟨w.heap.size+1,0,none⟩) (.slice ag np ad) (by simp)).other (p:=⟨w.heap.size+1,1,none⟩) (.slice ae nc ab) (by simp)).other (p:=⟨w.heap.size+1,2,none⟩) (.int .i64 op) (by simp)).other (p:=⟨w.heap.size+1,3,none⟩) (.int .i64 val) (by simp)).other (p:=⟨w.heap.size+1,4,none⟩) (.slice ai nt ah) (by simp)).other (p:=⟨w.heap.size+1,5,none⟩) (.int .i64 tn) (by simp))
  replace ar:=h! ((((((ar.out.other (p:=⟨w.heap.size+1,0,none⟩) (.slice ag np ad) (by simp)).other (p:=⟨w.heap.size+1,1,none⟩) (.slice ae nc ab) (by simp)).other (p:=⟨w.heap.size+1,2,none⟩) (.int .i64 op) (by simp)).other (p:=⟨w.heap.size+1,3,none⟩) (.int .i64 val) (by simp)).other (p:=⟨w.heap.size+1,4,none⟩) (.slice ai nt ah) (by simp)).other (p:=⟨w.heap.size+1,5,none⟩) (.int .i64 tn) (by simp))
  replace aw:=h! ((((((aw.out.other (p:=⟨w.heap.size+1,0,none⟩) (.slice ag np ad) (by simp)).other (p:=⟨w.heap.size+1,1,none⟩) (.slice ae nc ab) (by simp)).other (p:=⟨w.heap.size+1,2,none⟩) (.int .i64 op) (by simp)).other (p:=⟨w.heap.size+1,3,none⟩) (.int .i64 val) (by simp)).other (p:=⟨w.heap.size+1,4,none⟩) (.slice ai nt ah) (by simp)).other (p:=⟨w.heap.size+1,5,none⟩) (.int .i64 tn) (by simp))
  replace HW:=h! (bd.2.2 HW.out (by first | assumption | omega | (have:=HW.out.size;omega) | (simp;done) | (simp;omega)))
  replace az:=h! (Box.to (A':=#[(.slice ag np ad),(.slice ae nc ab),(.int .i64 op),(.int .i64 val),(.slice ai nt ah),(.int .i64 tn)]) ((((((az.out.set 0 (.slice ag np ad)).set 1 (.slice ae nc ab)).set 2 (.int .i64 op)).set 3 (.int .i64 val)).set 4 (.slice ai nt ah)).set 5 (.int .i64 tn)) (by first | rfl | simp))
  clear bd
  generalize ((((((W3.setCell ⟨w.heap.size+1,0,none⟩ (.slice ag np ad)).setCell ⟨w.heap.size+1,1,none⟩ (.slice ae nc ab)).setCell ⟨w.heap.size+1,2,none⟩ (.int .i64 op)).setCell ⟨w.heap.size+1,3,none⟩ (.int .i64 val)).setCell ⟨w.heap.size+1,4,none⟩ (.slice ai nt ah)).setCell ⟨w.heap.size+1,5,none⟩ (.int .i64 tn))=wz at *
  obtain ⟨aq,an,al⟩:=aj.out
  obtain ⟨ak,am,ao⟩:=az.out
  refine bodyPost_ret (v:=.agg #[.slice ag np ad,.slice ae nc ab,.int .i64 op,.int .i64 val,.slice ai nt ah,.int .i64 tn]) (by simp [results,Tryz.results41,go_sem, *]) rfl ⟨.slice ag np ad,.slice ae nc ab,.slice ai nt ah,fun k=>S1 k \/ S2 k \/ S3 k,by rw [HM.out,ba.out.1,ba.out.2.2], ?_,fun k hk => ?_,HW.out⟩
  ·rw [HM.out]
   exact ⟨⟨_,_,_,S1,S2,S3,rfl,ax.out.now,ar.out.now,⟨⟨_,rfl,aw.out.now⟩,by rw [<-ba.out.1];exact bt.out.1,cF.out,by rw [<-ba.out.2.2];exact bt.out.2.2⟩,bp.out.1,bp.out.2.1,bp.out.2.2,fun _ h=>.inl h,fun _ h=>.inr (.inl h),fun _ h=>.inr (.inr h)⟩,fun k hk=>hk.elim (ax.out.lt k) (fun h=>h.elim (ar.out.lt k) (aw.out.lt k))⟩
  have:=hk.elim (ax.out.base k) (fun h=>h.elim (ar.out.base k) (aw.out.base k));omega
end
end Go.Proofs.YtagabiidbbhhmaaGreat
