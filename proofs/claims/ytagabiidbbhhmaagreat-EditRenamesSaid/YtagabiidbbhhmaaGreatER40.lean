/- Part 40. -/
import Derived.Test.YtagabiidbbhhmaaGreatER39
namespace Go.Proofs.YtagabiidbbhhmaaGreat
set_option linter.all false
open Go.RowKit
theorem uK {f:FuncD} {u:UseD} {d k:Int} (h:((entF f).find? fun e=>e.1 == u.id)=some (u.id,d,k)):iA f u ↔ ((u.pos < 0/\kJ f d.toNat u.src.toNat) \/ (¬ u.pos < 0/\kT f d k u.blk u.pos)) :=
 ⟨fun ⟨d2,k2,h2,h3⟩=>by rw [h] at h2;cases h2;exact h3,fun h3=>⟨d,k,h,h3⟩⟩
theorem vL (a b:Value) (w:World):(Instr.field 171 (.agg #[a,b]) 0).run Tryz.prog w = .ok a w:=by kernel_rfl
theorem aFW {f:FuncD} (hc:eZ f=0) {e:Int × Int × Int} (he:e ∈ entF f):0 <= e.1:=by
 have h1:e.1 ∈ (fJ f).map (·.1):=by rw [<-rB hc];exact aX.2 ⟨e,he,rfl⟩
 unfold fJ at h1
 rw [aZ,aM,nN] at h1
 rcases h1 with h1 | h1
 ·obtain ⟨i,_,h2⟩:=aX.1 h1
  omega
 obtain ⟨p,hp,h2⟩:=aX.1 h1
 have h3:=(fC hc).2
 unfold idsF idsB at h3
 rw [aL,bB] at h3
 have h4:=h3.2 p hp
 simp at h4
 omega
def xR (f:FuncD) (c:Nat) (x:BlockD) (w:World) (e:Ending) (w' : World):Prop := ∃ r:Bool,e = .returned (.bool r)/\(r=true ↔ ∀ u ∈ uxB (x,c),iA f u)/\Below w.heap.size w w'
theorem pA {f:FuncD} {c:Nat} {x:BlockD} (h:f.blocks[c]? = some x) {u:UseD} (hu:u ∈ uxB (x,c)):u ∈ uxF f:=by
 unfold uxF
 rw [bW]
 exact ⟨(x,c),by rw [bI];exact h,hu⟩
set_option maxHeartbeats 25600000 in
set_option maxRecDepth 100000 in
theorem aGX {f:FuncD} {w:World} {bs bt bg lg lcap bm:Nat} {ap ab:Option Addr} {np cp cb:Nat} {ar ce:Int} {pv ov lv A2:Value} {O:List Nat} {I:Nat -> Option Nat}
  (hS:StrM f w bs bt bg lg lcap bm #[.slice ap np cp,.int .i64 ar,.int .i64 ce,.slice ab f.blocks.length cb] pv ov lv A2 O I) (hB:eX gR 6 w (.slice ab f.blocks.length cb) f.blocks) (hO:fO f O) (hD:DomI f O I) (hc:eZ f=0)
  {c:Nat} {x:BlockD} (hx:f.blocks[c]? = some x) :
  Calls Tryz.prog 89 #[.pointer (some ⟨bs,0,none⟩),.int .i64 c] w (xR f c x w):=by
 have ax:=h! hc
 have HS:=h! hS
 have HO:=h! hO
 have HD:=h! hD
 have HX:=h! hx
 have dg:=(iE (fC hc).1).2
 have gs:=(aF.1 hx).1
 obtain ⟨a2,c2,bb,bo,gl,gx,hbm,hd,fc,fv⟩:=eY hB
 cases gl
 obtain ⟨nb,bz⟩ : ∃ nb,nb=f.blocks.length:=⟨_,rfl⟩
 rw [<-bz] at gx fc hd dg gs HS
 obtain ⟨rfl,gd⟩:=fc (by omega)
 have ck:=h! bz
 obtain ⟨cj,bn,ba,bk,bp,bc,hC⟩:=fv c x hx
 have HC:=h! hC
 have hw:Hid (∀ (W:World) (a b:Nat),Below w.heap.size w W -> a < nb -> b < nb -> Calls Tryz.prog 143 #[.pointer (some ⟨bt,0,none⟩),.int .i64 a,.int .i64 b] W fun e w' => ∃ r:Bool,e = .returned (.bool r)/\(r=true ↔ kJ f a b)/\W=w'):=h! (fun W a b hW ha hb=>by
  refine vW (a:=a) (b:=b) (hS.t.later hW) hO hD (by rw [<-bz];exact dg) (by rw [<-bz];exact ha) (by rw [<-bz];exact hb))
 have hF:Hid (∀ u ∈ uxB (x,c), ∃ d k:Nat -> Int,True):=h! (fun u _=>⟨fun _=>0,fun _=>0,trivial⟩)
 have fx:=hC.phis
 have fl:=hC.code
 obtain ⟨pl,bO⟩ : ∃ pl,pl=x.phis.length:=⟨_,rfl⟩
 obtain ⟨cl,cd⟩ : ∃ cl,cl=x.code.length:=⟨_,rfl⟩
 obtain ⟨ac,capc,bcd,ocd,dx,gz,hcm,dk,ev,fB⟩:=fZ fl
 obtain ⟨apx,capp,gk,hE,dr,ez,hppm,cL,bj,cq⟩:=fQ fx
 rw [<-bO] at dr ez cL bj
 rw [<-cd] at dx gz dk ev
 cases dr
 cases dx
 have fa:=h! bO
 have cs:=h! cd
 have fk:=h! bj
 have fj:=h! cq
 have fb:=h! ev
 have et:=h! fB
 have fo:=h! hS.t.cells.1
 have fp:Hid (w.cell? ⟨bg,3,none⟩=some (.slice (some ⟨bb,bo,none⟩) nb cb)):=h! (by have h9:=hS.t.graph.at 3 rfl;rw [bz];exact h9)
 have fz:=h! hS.t.tree.lt
 have fm:=h! hS.t.graph.lt
 clear hS hB hO hD hc hx hC fx fl bO cd bj cq ev fB fc fv bz hF
 go_enter Tryz.func89,Tryz.ntmps89
 go_upto_region 1 with (fail)
 have ad:=(Below.refl w.heap.size w).alloc (aB _) (.cells #[.pointer (some ⟨bs,0,none⟩)] 88)
 have HW:=h! ad
 clear ad
 have B1:=h! (Box.new w #[.pointer (some ⟨bs,0,none⟩)] 88)
 have ay:(w.alloc (.cells #[.pointer (some ⟨bs,0,none⟩)] 88)).heap.size=w.heap.size+1:=World.size_alloc _ _
 generalize w.alloc (.cells #[.pointer (some ⟨bs,0,none⟩)] 88)=dz at *
 have ad:=(Below.refl dz.heap.size dz).alloc (aB _) (.cells #[.int .i64 c] 3)
 replace B1:=h! (B1.out.later ad)
 replace HW:=h! (HW.out.trans (ad.mono HW.out.size))
 clear ad
 have B2:=h! (Box.new dz #[.int .i64 c] 3)
 rw [ay] at B2
 clear ay
 generalize dz.alloc (.cells #[.int .i64 c] 3)=wv at *
 obtain ⟨ae,aj,am⟩:=B1.out
 obtain ⟨ag,ak,ai⟩:=B2.out
 refine wp_region_grow 15 (fun kz=>match kz with | 14=>.made wv.heap.size (fun b=>.pointer (some ⟨b,0,none⟩)) #[.slice none 0 0,.slice none 0 0,.int .i64 0,.int .i64 0,.slice none 0 0,.int .i64 0] | _=>.plain) (by kernel_rfl) (by kernel_rfl) ?_ (fun ν => ?_)
 ·(intro k;(try dsimp only);split <;> first | exact True.intro | (intro u w1 w2 hu hb;exact hu.below hb))
 simp only [aO,aS,aP,aU]
 iterate 14 (refine Grow.val (v := ?_) rfl rfl (fun wg hbg hdg => ?_) ?_;rotate_left;(focus ((obtain ⟨lg0,cg0,fg0⟩:=B1.out.later hbg);(obtain ⟨lg1,cg1,fg1⟩:=B2.out.later hbg);(obtain ⟨xl1,xc1,xf1⟩:=(HS.out.later (HW.out.trans (hbg.mono HW.out.size))).s;have xt:=((HW.out.trans (hbg.mono HW.out.size)).cell (p:=⟨bt,0,none⟩) fz.out).trans fo.out;have xg:=((HW.out.trans (hbg.mono HW.out.size)).cell (p:=⟨bg,3,none⟩) fm.out).trans fp.out;obtain ⟨k0,k1,k2,k3,k4,k5, -, -, -, -, -, -⟩:=HC.out.below (HW.out.trans (hbg.mono HW.out.size)) gd);clear hbg hdg;first | (go_simp;done) | (go_simp;with_reducible rfl)));simp only [Act.put,aA,aD,aE])
 refine Grow.made (T := ?_) rfl rfl (fun wg hbg hdg => ?_) ?_
 rotate_left
 focus ((obtain ⟨lg0,cg0,fg0⟩:=B1.out.later hbg);(obtain ⟨lg1,cg1,fg1⟩:=B2.out.later hbg);(obtain ⟨xl1,xc1,xf1⟩:=(HS.out.later (HW.out.trans (hbg.mono HW.out.size))).s;have xt:=((HW.out.trans (hbg.mono HW.out.size)).cell (p:=⟨bt,0,none⟩) fz.out).trans fo.out;have xg:=((HW.out.trans (hbg.mono HW.out.size)).cell (p:=⟨bg,3,none⟩) fm.out).trans fp.out;obtain ⟨k0,k1,k2,k3,k4,k5, -, -, -, -, -, -⟩:=HC.out.below (HW.out.trans (hbg.mono HW.out.size)) gd);clear hbg hdg;first | (go_simp;done) | (go_simp;with_reducible rfl))
 simp only [Act.put,Known.val,aA,aD,aE]
 intro wg hb hf fh
 obtain ⟨ao,cG,dd,dq⟩:=hf 14 (by omega)
 have di:ao ≠ w.heap.size:=fun e=>by have:=ae;omega
 have nB1BK:w.heap.size ≠ ao:=fun e=>di e.symm
 have dh:ao ≠ w.heap.size+1:=fun e=>by have:=ag;omega
 have nB2BK:w.heap.size+1 ≠ ao:=fun e=>dh e.symm
 simp only [cG]
 clear cG
 clear fh
 have gBK:=bE HW.out.size dd
 clear dd
 clear ae aj am ag ak ai
 replace B1:=h! (B1.out.later hb)
 replace B2:=h! (B2.out.later hb)
 replace HW:=h! (HW.out.trans (hb.mono HW.out.size))
 clear hb
 have BK:=h! dq
 clear dq
 obtain ⟨ae,aj,am⟩:=B1.out
 obtain ⟨ag,ak,ai⟩:=B2.out
 obtain ⟨ah,an,aq⟩:=BK.out
 clear hf
 go_upto_region 2 with (fail)
 clear ae aj am ag ak ai ah an aq
 have ef:=((((((Only.set wg (ao) 0 (.slice cj x.phis.length bk)).put 1 (.slice bn x.code.length bp)).put 2 (.int .i64 x.term.op)).put 3 (.int .i64 x.term.val)).put 4 (.slice ba x.term.to.length bc)).put 5 (.int .i64 x.term.n))
 replace B1:=h! (B1.out.only ef (by first | assumption | (simp;done) | omega))
 replace B2:=h! (B2.out.only ef (by first | assumption | (simp;done) | omega))
 replace HW:=h! (ef.2.2 HW.out (by first | assumption | omega | (have:=HW.out.size;omega) | (simp;done) | (simp;omega)))
 replace BK:=h! (Box.to (A':=#[(.slice cj x.phis.length bk),(.slice bn x.code.length bp),(.int .i64 x.term.op),(.int .i64 x.term.val),(.slice ba x.term.to.length bc),(.int .i64 x.term.n)]) ((((((BK.out.set 0 (.slice cj x.phis.length bk)).set 1 (.slice bn x.code.length bp)).set 2 (.int .i64 x.term.op)).set 3 (.int .i64 x.term.val)).set 4 (.slice ba x.term.to.length bc)).set 5 (.int .i64 x.term.n)) (by first | rfl | simp))
 clear ef
 generalize ((((((wg.setCell ⟨ao,0,none⟩ (.slice cj x.phis.length bk)).setCell ⟨ao,1,none⟩ (.slice bn x.code.length bp)).setCell ⟨ao,2,none⟩ (.int .i64 x.term.op)).setCell ⟨ao,3,none⟩ (.int .i64 x.term.val)).setCell ⟨ao,4,none⟩ (.slice ba x.term.to.length bc)).setCell ⟨ao,5,none⟩ (.int .i64 x.term.n))=w2 at *
 obtain ⟨ae,aj,am⟩:=B1.out
 obtain ⟨ag,ak,ai⟩:=B2.out
 obtain ⟨ah,an,aq⟩:=BK.out
 rw [<-fa.out, <-cs.out] at BK
 clear ae aj am ag ak ai ah an aq
 obtain ⟨ae,aj,am⟩:=B1.out
 obtain ⟨ag,ak,ai⟩:=B2.out
 obtain ⟨ah,an,aq⟩:=BK.out
 go_wp2_with fail
 go_loopw [30] (fun i wr => ∃ j:Nat,j <= pl/\i = .int .i64 j/\(∀ u ∈ (x.phis.take j).flatMap (uxP c),iA f u)/\Below w.heap.size w wr/\Box wr w.heap.size #[.pointer (some ⟨bs,0,none⟩)]/\Box wr (w.heap.size+1) #[.int .i64 c]/\Box wr ao #[.slice cj pl bk,.slice bn cl bp,.int .i64 x.term.op,.int .i64 x.term.val,.slice ba x.term.to.length bc,.int .i64 x.term.n]) (fun i _=>pl - (intOf i).toNat)
 case atStart=>exact ⟨0,aJ _,rfl,by simp,HW.out,B1.out,B2.out,BK.out⟩
 case round =>
  obtain ⟨j,hj,rfl,bh,hW,h1,h2,h3⟩:=hrel
  clear ae aj am ag ak ai ah an aq
  have bx:=h! bh
  replace HW:=h! hW
  replace B1:=h! h1
  replace B2:=h! h2
  replace BK:=h! h3
  clear bh hW h1 h2 h3
  generalize wr=w3 at *
  obtain ⟨ae,aj,am⟩:=B1.out
  obtain ⟨ag,ak,ai⟩:=B2.out
  obtain ⟨ah,an,aq⟩:=BK.out
  by_cases hlt:j < pl
  ·obtain ⟨rfl,ep⟩:=fk.out (by omega)
   obtain ⟨p,cx⟩ : ∃ p,x.phis[j]? = some p:=⟨_,aC (by have:=fa.out;omega)⟩
   obtain ⟨af,av,cf,cv,hP⟩:=fj.out j p cx
   obtain ⟨m0,m1,m2,m3,r1,r2,r3,r4⟩:=hP.below HW.out ep
   have hm:=h! (aG cx)
   have ff:=h! (gT (uxP c) x.phis j p cx)
   obtain ⟨bd,cw⟩:=(jW (fC ax.out).1).phi x (aG HX.out) p (aG cx)
   obtain ⟨vl,ci⟩ : ∃ vl,vl=p.vals.length:=⟨_,rfl⟩
   rw [bd, <-ci] at m2
   rw [<-ci] at m3 cw
   have da:=h! bd
   have fg:=h! ci
   obtain ⟨av',cv',bv,hQ,fF,gn,hvm,ew,fe⟩:=hP.vals.parts
   rw [<-ci] at fF gn ew fe
   cases fF
   obtain ⟨af',cf',bf,en,fM,hk,hfm,ek,ex⟩:=hP.src.parts
   rw [bd, <-ci] at fM hk ek ex
   cases fM
   have hA:=h! ew
   have gq:=h! fe
   have eg:=h! ek
   have ho:=h! ex
   clear r1 r2 r3 r4 hP cx bd ci ew fe ek ex
   go_upto_region 5 with (fail)
   have cF:w3.heap.size ≠ w.heap.size:=fun e=>by have:=ae;omega
   have nB1BP:w.heap.size ≠ w3.heap.size:=fun e=>cF e.symm
   have cy:w3.heap.size ≠ w.heap.size+1:=fun e=>by have:=ag;omega
   have nB2BP:w.heap.size+1 ≠ w3.heap.size:=fun e=>cy e.symm
   have dw:w3.heap.size ≠ ao:=fun e=>by have:=ah;omega
   have nBKBP:ao ≠ w3.heap.size:=fun e=>dw e.symm
   clear ae aj am ag ak ai ah an aq
   have ad:=(Below.refl w3.heap.size w3).alloc (aB _) (.cells #[.int .i64 p.id,.int .i64 p.typ,.slice af vl cf,.slice av vl cv] 78)
   replace B1:=h! (B1.out.later ad)
   replace B2:=h! (B2.out.later ad)
   replace BK:=h! (BK.out.later ad)
   replace HW:=h! (HW.out.trans (ad.mono HW.out.size))
   clear ad
   have BP:=h! (Box.new w3 #[.int .i64 p.id,.int .i64 p.typ,.slice af vl cf,.slice av vl cv] 78)
   generalize w3.alloc (.cells #[.int .i64 p.id,.int .i64 p.typ,.slice af vl cf,.slice av vl cv] 78)=w4 at *
   obtain ⟨ae,aj,am⟩:=B1.out
   obtain ⟨ag,ak,ai⟩:=B2.out
   obtain ⟨ah,an,aq⟩:=BK.out
   obtain ⟨ed,ee,ec⟩:=BP.out
   clear m0 m1 m2 m3
   go_wp2_with fail
   go_loopw [37] (fun i wr => ∃ q:Nat,q <= vl/\i = .int .i64 q/\(∀ u ∈ (uxP c p).take q,iA f u)/\Below w.heap.size w wr/\Box wr w.heap.size #[.pointer (some ⟨bs,0,none⟩)]/\Box wr (w.heap.size+1) #[.int .i64 c]/\Box wr ao #[.slice (some ⟨gk,hE,none⟩) pl bk,.slice bn cl bp,.int .i64 x.term.op,.int .i64 x.term.val,.slice ba x.term.to.length bc,.int .i64 x.term.n]/\Box wr w3.heap.size #[.int .i64 p.id,.int .i64 p.typ,.slice af vl cf,.slice av vl cv]) (fun i _=>vl - (intOf i).toNat)
   case atStart=>exact ⟨0,aJ _,rfl,by simp,HW.out,B1.out,B2.out,BK.out,BP.out⟩
   obtain ⟨q,hq,rfl,bh,hW,h1,h2,h3,h4⟩:=hrel
   clear ae aj am ag ak ai ah an aq ed ee ec
   have cz:=h! bh
   replace HW:=h! hW
   replace B1:=h! h1
   replace B2:=h! h2
   replace BK:=h! h3
   replace BP:=h! h4
   clear bh hW h1 h2 h3 h4
   generalize wr=w5 at *
   obtain ⟨ae,aj,am⟩:=B1.out
   obtain ⟨ag,ak,ai⟩:=B2.out
   obtain ⟨ah,an,aq⟩:=BK.out
   obtain ⟨ed,ee,ec⟩:=BP.out
   by_cases hltq:q < vl
   ·obtain ⟨rfl,hM⟩:=hA.out (by omega)
    obtain ⟨rfl,gv⟩:=eg.out (by omega)
    have gc:=(HW.out.cell (p:=⟨bv,hQ+q,none⟩) hM).trans (gq.out q hltq)
    obtain ⟨y,hy⟩ : ∃ y,y=p.vals.getD q 0:=⟨_,rfl⟩
    obtain ⟨z,hz⟩ : ∃ z,z=p.src.getD q 0:=⟨_,rfl⟩
    rw [<-hy] at gc
    have CF:=h! ((HW.out.cell (p:=⟨bf,en+q,none⟩) gv).trans (ho.out q hltq))
    rw [<-hz] at CF
    have gb:=World.block_lt_of_cell? w5 _ CF.out
    have hu:(uxP c p)[q]? = some ⟨y,p.typ,c, -1,z⟩:=by
     unfold uxP
     have df:(p.vals.zip p.src)[q]? = some (p.vals.getD q 0,p.src.getD q 0):=cO.2 ⟨fK p.vals q (by rw [<-fg.out];exact hltq),fK p.src q (by rw [da.out, <-fg.out];exact hltq)⟩
     rw [aQ,df]
     rw [hy,hz];rfl
    have eo:=h! (eT _ _ _ hu)
    have fi:Hid ((⟨y,p.typ,c, -1,z⟩ : UseD) ∈ uxB (x,c)):=h! (by
     unfold uxB
     rw [bQ,aM]
     left
     rw [bW]
     exact ⟨p,hm.out,aG hu⟩)
    obtain ⟨d,k,aw,co,cm⟩:=nA ax.out (pA HX.out fi.out)
    obtain ⟨-, -,ea⟩:=sS (fC ax.out).1 (pA HX.out fi.out)
    obtain ⟨gf,fy⟩:=ea (by show (-1:Int) < 0;omega)
    obtain ⟨dn,rfl⟩ : ∃ dn:Nat,d=(dn:Int):=⟨d.toNat,by omega⟩
    obtain ⟨sn,fw⟩ : ∃ sn:Nat,z=(sn:Int):=⟨z.toNat,by simp only at gf;omega⟩
    have gw:dn < nb:=by have:=ck.out;omega
    have hp:sn < nb:=by have:=ck.out;simp only at fy;omega
    obtain ⟨r,hr⟩ : ∃ r:Bool,r=true ↔ kJ f dn sn:=by
     rcases Classical.em (kJ f dn sn) with h | h
     ·exact ⟨true,by simp [h]⟩
     exact ⟨false,by simp [h]⟩
    have HR:Hid (r=true ↔ iA f ⟨y,p.typ,c, -1,z⟩):=h! (by
     rw [uK aw,hr]
     have:(-1:Int) < 0:=by omega
     simp [fw,this])
    have ht:Hid (∀ wg,Below w5.heap.size w5 wg -> Calls Tryz.prog 143 #[.pointer (some ⟨bt,0,none⟩),.int .i64 dn,.int .i64 sn] wg fun e w'=>e = .returned (.bool r)/\Below wg.heap.size wg w'):=h! (fun wg hbg=>by
     refine (hw.out wg dn sn (HW.out.trans (hbg.mono HW.out.size)) gw hp).mono ?_
     rintro e w' ⟨r2,rfl,ea,rfl⟩
     obtain rfl:r2=r:=by rw [bV,ea,hr]
     exact ⟨rfl,Below.refl _ _⟩)
    have gh:Hid (∀ wg,Below w5.heap.size w5 wg -> (Instr.lookup 94 (.map (some bm)) (.int .i64 y) false).run Tryz.prog wg = .ok (.agg #[.int .i64 dn,.int .i64 k]) wg):=h! (fun wg hbg=>by
     rw [((HS.out.later (HW.out.trans (hbg.mono HW.out.size))).mp).lookup0 Tryz.underlying94 Tryz.underlying3 (uO _) y,aA5 ax.out,aw];rfl)
    rw [fw] at CF
    clear hy hz hu aw co cm ea gf fy hr
    go_upto_region 8 with (fail)
    clear gc
    refine wp_region_grow 18 (fun kz=>match kz with | 16=>.const (.bool r) | _=>.plain) (by kernel_rfl) (by kernel_rfl) ?_ (fun ν => ?_)
    ·(intro k;(try dsimp only);split <;> first | exact True.intro | (intro u w1 w2 hu hb;exact hu.below hb))
    simp only [aO,aS,aP,aU]
    iterate 16 (refine Grow.val (v := ?_) rfl rfl (fun wg hbg hdg => ?_) ?_;rotate_left;(focus ((obtain ⟨lg0,cg0,fg0⟩:=B1.out.later hbg);(obtain ⟨lg1,cg1,fg1⟩:=B2.out.later hbg);(obtain ⟨gi,gj,gr⟩:=BK.out.later hbg);(obtain ⟨hK,hN,gy⟩:=BP.out.later hbg);(obtain ⟨xl1,xc1,xf1⟩:=(HS.out.later (HW.out.trans (hbg.mono HW.out.size))).s;have hI:=gh.out wg hbg;have gp:=vL (.int .i64 dn) (.int .i64 k) wg;have hH:=(hbg.cell (p:=⟨bf,en+q,none⟩) gb).trans CF.out);clear hbg hdg;first | (go_simp;done) | (go_simp;with_reducible rfl)));simp only [Act.put,aA,aD,aE])
    refine Grow.call (f := ?_) (args := ?_) rfl (fun wg => ?_) (fun wg hbg hdg => ?_) ?_
    rotate_left 2
    focus (first | (go_simp;done) | (go_simp;refine And.intro ?_ ?_ <;> with_reducible rfl) | (go_simp;with_reducible rfl))
    focus exact Calls.mono (ht.out wg hbg) (fun e w2 ⟨he,hb2⟩=>⟨_,he,rfl,hb2⟩)
    simp only [Act.put,Known.val,aA,aD,aE]
    refine Grow.val (v := ?_) rfl rfl (fun wg hbg hdg => ?_) ?_
    rotate_left
    focus ((obtain ⟨lg0,cg0,fg0⟩:=B1.out.later hbg);(obtain ⟨lg1,cg1,fg1⟩:=B2.out.later hbg);(obtain ⟨gi,gj,gr⟩:=BK.out.later hbg);(obtain ⟨hK,hN,gy⟩:=BP.out.later hbg);(obtain ⟨xl1,xc1,xf1⟩:=(HS.out.later (HW.out.trans (hbg.mono HW.out.size))).s;have hI:=gh.out wg hbg;have gp:=vL (.int .i64 dn) (.int .i64 k) wg;have hH:=(hbg.cell (p:=⟨bf,en+q,none⟩) gb).trans CF.out);clear hbg hdg;first | (go_simp;done) | (go_simp;with_reducible rfl))
    simp only [Act.put,aA,aD,aE]
    intro wg hb hf fh
    clear fh
    clear ae aj am ag ak ai ah an aq ed ee ec
    replace B1:=h! (B1.out.later hb)
    replace B2:=h! (B2.out.later hb)
    replace BK:=h! (BK.out.later hb)
    replace BP:=h! (BP.out.later hb)
    replace HW:=h! (HW.out.trans (hb.mono HW.out.size))
    clear hb
    obtain ⟨ae,aj,am⟩:=B1.out
    obtain ⟨ag,ak,ai⟩:=B2.out
    obtain ⟨ah,an,aq⟩:=BK.out
    obtain ⟨ed,ee,ec⟩:=BP.out
    clear hf
    cases r
    ·have az:Hid (¬ ∀ u ∈ uxB (x,c),iA f u):=h! (fun h=>by have:=HR.out.2 (h _ fi.out);simp at this)
     go_wp2
     go_ret
     exact ⟨false,rfl,⟨(fun h=>by cases h),(fun h=>absurd h az.out)⟩,HW.out⟩
    have dv:Hid (∀ u ∈ (uxP c p).take (q+1),iA f u):=h! (by
     rw [eo.out]
     intro v hv
     rcases aM.1 hv with hv | hv
     ·exact cz.out v hv
     rw [dB] at hv;rw [hv];exact HR.out.1 (by trivial))
    go_wp2
    go_roundw
    case rel=>exact ⟨q+1,hltq,by go_num,dv.out,HW.out,B1.out,B2.out,BK.out,BP.out⟩
    simp [intOf];omega
   have dv:Hid (∀ u ∈ (x.phis.take (j+1)).flatMap (uxP c),iA f u):=h! (by
    rw [ff.out]
    intro v hv
    rcases aM.1 hv with hv | hv
    ·exact bx.out v hv
    refine cz.out v ?_
    rw [aH (by unfold uxP;rw [aW,eI,da.out, <-fg.out];omega)]
    exact hv)
   go_wp2
   go_roundw
   case rel=>exact ⟨j+1,hlt,by go_num,dv.out,HW.out,B1.out,B2.out,BK.out⟩
   simp [intOf];omega
  have ei:Hid (∀ u ∈ x.phis.flatMap (uxP c),iA f u):=h! (by have h9:=bx.out;rw [aH (by have:=fa.out;omega)] at h9;exact h9)
  clear bx
  go_wp2_with fail
  go_loopw [65] (fun i wr => ∃ j2:Nat,j2 <= cl/\i = .int .i64 j2/\(∀ u ∈ (x.code.zipIdx.take j2).flatMap (uxI c),iA f u)/\Below w.heap.size w wr/\Box wr w.heap.size #[.pointer (some ⟨bs,0,none⟩)]/\Box wr (w.heap.size+1) #[.int .i64 c]/\Box wr ao #[.slice cj pl bk,.slice bn cl bp,.int .i64 x.term.op,.int .i64 x.term.val,.slice ba x.term.to.length bc,.int .i64 x.term.n]) (fun i _=>cl - (intOf i).toNat)
  case atStart=>exact ⟨0,aJ _,rfl,by simp,HW.out,B1.out,B2.out,BK.out⟩
  obtain ⟨j2,hj2,rfl,bh,hW,h1,h2,h3⟩:=hrel
  clear ae aj am ag ak ai ah an aq
  have bx:=h! bh
  replace HW:=h! hW
  replace B1:=h! h1
  replace B2:=h! h2
  replace BK:=h! h3
  clear bh hW h1 h2 h3
  generalize wr=w5 at *
  obtain ⟨ae,aj,am⟩:=B1.out
  obtain ⟨ag,ak,ai⟩:=B2.out
  obtain ⟨ah,an,aq⟩:=BK.out
  by_cases hlt3:j2 < cl
  ·obtain ⟨rfl,ep⟩:=fb.out (by omega)
   obtain ⟨y,eb⟩ : ∃ y,x.code[j2]? = some y:=⟨_,aC (by have:=cs.out;omega)⟩
   obtain ⟨aa,ca,hP⟩:=et.out j2 y eb
   obtain ⟨m0,m1,m2,m3,r1,r2,r3,r4⟩:=hP.below HW.out ep
   have hz:x.code.zipIdx[j2]? = some (y,j2):=by rw [cT,eb];simp
   have ff:=h! (gT (uxI c) x.code.zipIdx j2 (y,j2) hz)
   have gB:=h! (aG hz)
   have fq:=h! ((jW (fC ax.out).1).args x (aG HX.out) y (aG eb))
   have ds:=h! hP.args
   obtain ⟨al,fG⟩ : ∃ al,al=y.args.length:=⟨_,rfl⟩
   rw [<-fG] at ds m2
   clear r1 r2 r3 r4 hP eb hz fG
   have ej:Hid (∀ u ∈ uxI c (y,j2),u ∈ uxB (x,c)):=h! (fun u hu=>by
    unfold uxB
    rw [bQ,aM]
    right
    rw [aM]
    left
    rw [bW]
    exact ⟨(y,j2),gB.out,hu⟩)
   obtain ⟨AV,eh⟩ : ∃ AV:Int -> Prop,AV=fun v => ∃ d k,((entF f).find? fun e=>e.1 == v)=some (v,d,k)/\kT f d k c j2:=⟨_,rfl⟩
   have hl:=h! eh
   have dy:Hid (∀ u ∈ uxI c (y,j2),iA f u ↔ AV u.id):=h! (fun u hu=>by
    obtain ⟨d,k,aw, -, -⟩:=nA ax.out (pA HX.out (ej.out u hu))
    rw [uK aw,eh]
    unfold uxI at hu
    rw [aX] at hu
    obtain ⟨a,ha,rfl⟩:=hu
    have hn:¬ ((j2:Nat):Int) < 0:=by omega
    constructor
    ·rintro (h | h)
     ·exact absurd h.1 hn
     exact ⟨d,k,aw,h.2⟩
    rintro ⟨d2,k2,h2,h3⟩
    rw [aw] at h2
    cases h2
    exact .inr ⟨hn,h3⟩)
   obtain ⟨g,hg⟩ : ∃ g:Int -> Bool, ∀ v,g v=true ↔ ¬ AV v:=⟨fun v=>@decide (¬ AV v) (Classical.propDecidable _),fun v=>@decide_eq_true_iff _ (Classical.propDecidable _)⟩
   have HG:=h! hg
   have hh:Hid (∀ (W:World) (v:Int),v ∈ y.args -> Below w.heap.size w W -> ∀ b3,Box W w.heap.size #[.pointer (some ⟨bs,0,none⟩)] -> Box W (w.heap.size+1) #[.int .i64 c] -> Box W b3 #[.int .i64 j2] ->
     Calls Tryz.prog 144 #[.int .i64 v,.pointer (some ⟨w.heap.size,0,none⟩),.pointer (some ⟨w.heap.size+1,0,none⟩),.pointer (some ⟨b3,0,none⟩)] W fun e W'=>e = .returned (.bool (g v))/\Below W.heap.size W W'):=h! (fun W v hv hW b3 h1 h2 h3=>by
    obtain ⟨i,hi⟩:=bL.1 hv
    have es:=(aF.1 hi).1
    have hu:(⟨v,(shp0 y.op).args.getD i 0,c,j2,0⟩ : UseD) ∈ uxI c (y,j2):=by
     unfold uxI
     rw [aX]
     refine ⟨(v,(shp0 y.op).args.getD i 0), ?_,rfl⟩
     have df:(y.args.zip (shp0 y.op).args)[i]? = some (v,(shp0 y.op).args.getD i 0):=cO.2 ⟨hi,fK _ i (by rw [<-fq.out];exact es)⟩
     exact aG df
    obtain ⟨d,k,aw,co,cm⟩:=nA ax.out (pA HX.out (ej.out _ hu))
    have cn:=HS.out.later hW
    rw [ck.out] at cn
    refine (aGN cn HO.out HD.out ax.out (at_:=(j2:Int)) aw ⟨co,cm⟩ ⟨by omega,by rw [<-ck.out];omega⟩ h1 h2 h3).mono ?_
    rintro e W' ⟨r,rfl,hr,hb⟩
    have:g v=r:=by
     rw [bV,hr,HG.out v,hl.out]
     constructor
     ·intro h h2;exact h ⟨d,k,aw,h2⟩
     rintro h ⟨d2,k2,h2,h3⟩
     rw [aw] at h2
     cases h2
     exact h h3
    rw [this]
    exact ⟨rfl,hb⟩)
   clear eh hg
   go_upto_region 15 with (fail)
   have ch:w5.heap.size ≠ w.heap.size:=fun e=>by have:=ae;omega
   have nB1B10:w.heap.size ≠ w5.heap.size:=fun e=>ch e.symm
   have bl:w5.heap.size ≠ w.heap.size+1:=fun e=>by have:=ag;omega
   have nB2B10:w.heap.size+1 ≠ w5.heap.size:=fun e=>bl e.symm
   have cc:w5.heap.size ≠ ao:=fun e=>by have:=ah;omega
   have nBKB10:ao ≠ w5.heap.size:=fun e=>cc e.symm
   have bi:w5.heap.size+1 ≠ w.heap.size:=fun e=>by have:=ae;omega
   have nB1B11:w.heap.size ≠ w5.heap.size+1:=fun e=>bi e.symm
   have bq:w5.heap.size+1 ≠ w.heap.size+1:=fun e=>by have:=ag;omega
   have nB2B11:w.heap.size+1 ≠ w5.heap.size+1:=fun e=>bq e.symm
   have br:w5.heap.size+1 ≠ ao:=fun e=>by have:=ah;omega
   have nBKB11:ao ≠ w5.heap.size+1:=fun e=>br e.symm
   have nB11B10:w5.heap.size+1 ≠ w5.heap.size:=by omega
   have nB10B11:w5.heap.size ≠ w5.heap.size+1:=by omega
   clear ae aj am ag ak ai ah an aq
   have ad:=(Below.refl w5.heap.size w5).alloc (aB _) (.cells #[.int .i64 j2] 3)
   replace B1:=h! (B1.out.later ad)
   replace B2:=h! (B2.out.later ad)
   replace BK:=h! (BK.out.later ad)
   replace HW:=h! (HW.out.trans (ad.mono HW.out.size))
   clear ad
   have bw:=h! (Box.new w5 #[.int .i64 j2] 3)
   have ay:(w5.alloc (.cells #[.int .i64 j2] 3)).heap.size=w5.heap.size+1:=World.size_alloc _ _
   generalize w5.alloc (.cells #[.int .i64 j2] 3)=be at *
   have ad:=(Below.refl be.heap.size be).alloc (aB _) (.cells #[.int .i64 y.op,.int .i64 y.id,.slice aa al ca,.int .i64 y.n] 82)
   replace B1:=h! (B1.out.later ad)
   replace B2:=h! (B2.out.later ad)
   replace BK:=h! (BK.out.later ad)
   replace bw:=h! (bw.out.later ad)
   replace HW:=h! (HW.out.trans (ad.mono HW.out.size))
   clear ad
   have ct:=h! (Box.new be #[.int .i64 y.op,.int .i64 y.id,.slice aa al ca,.int .i64 y.n] 82)
   rw [ay] at ct
   clear ay
   generalize be.alloc (.cells #[.int .i64 y.op,.int .i64 y.id,.slice aa al ca,.int .i64 y.n] 82)=w6 at *
   obtain ⟨ae,aj,am⟩:=B1.out
   obtain ⟨ag,ak,ai⟩:=B2.out
   obtain ⟨ah,an,aq⟩:=BK.out
   obtain ⟨de,dc,cr⟩:=bw.out
   obtain ⟨dt,dj,cM⟩:=ct.out
   clear m0 m1 m2 m3
   go_wp2_with fail
   refine (aC8 tL g (ds.out.below HW.out) (fun W v hv hW=>hh.out W v hv (HW.out.trans (hW.mono HW.out.size)) _ (B1.out.later hW) (B2.out.later hW) (bw.out.later hW))).mono ?_
   rintro e w7 ⟨he,hb⟩
   obtain ⟨q,hq⟩ : ∃ q,q=y.args.any g:=⟨_,rfl⟩
   rw [<-hq] at he
   subst he
   have HQ:=h! hq
   clear hq
   clear ae aj am ag ak ai ah an aq de dc cr dt dj cM
   replace B1:=h! (B1.out.later hb)
   replace B2:=h! (B2.out.later hb)
   replace BK:=h! (BK.out.later hb)
   replace bw:=h! (bw.out.later hb)
   replace ct:=h! (ct.out.later hb)
   replace HW:=h! (HW.out.trans (hb.mono HW.out.size))
   clear hb
   obtain ⟨ae,aj,am⟩:=B1.out
   obtain ⟨ag,ak,ai⟩:=B2.out
   obtain ⟨ah,an,aq⟩:=BK.out
   obtain ⟨de,dc,cr⟩:=bw.out
   obtain ⟨dt,dj,cM⟩:=ct.out
   cases q
   ·have dv:Hid (∀ u ∈ (x.code.zipIdx.take (j2+1)).flatMap (uxI c),iA f u):=h! (by
     rw [ff.out]
     intro v hv
     rcases aM.1 hv with hv | hv
     ·exact bx.out v hv
     ·rw [dy.out v hv]
      have h9:=HQ.out.symm
      rw [List.any_eq_false] at h9
      unfold uxI at hv
      rw [aX] at hv
      obtain ⟨a,ha,rfl⟩:=hv
      have h8:=h9 a.1 (List.of_mem_zip ha).1
      exact Classical.byContradiction fun h=>h8 ((HG.out a.1).2 h))
    go_wp2
    go_roundw
    case rel=>exact ⟨j2+1,hlt3,by go_num,dv.out,HW.out,B1.out,B2.out,BK.out⟩
    case measure=>simp [intOf];omega
   have az:Hid (¬ ∀ u ∈ uxB (x,c),iA f u):=h! (fun h=>by
    have h9:=HQ.out.symm
    rw [eQ] at h9
    obtain ⟨v,hv,hs⟩:=h9
    obtain ⟨i,hi⟩:=bL.1 hv
    have es:=(aF.1 hi).1
    have hu:(⟨v,(shp0 y.op).args.getD i 0,c,j2,0⟩ : UseD) ∈ uxI c (y,j2):=by
     unfold uxI
     rw [aX]
     refine ⟨(v,(shp0 y.op).args.getD i 0), ?_,rfl⟩
     have df:(y.args.zip (shp0 y.op).args)[i]? = some (v,(shp0 y.op).args.getD i 0):=cO.2 ⟨hi,fK _ i (by rw [<-fq.out];exact es)⟩
     exact aG df
    exact (HG.out v).1 hs ((dy.out _ hu).1 (h _ (ej.out _ hu))))
   go_wp2
   go_ret
   exact ⟨false,rfl,⟨(fun h=>by cases h),(fun h=>absurd h az.out)⟩,HW.out⟩
  have gm:j2=cl:=by omega
  have dp:Hid (∀ u ∈ x.code.zipIdx.flatMap (uxI c),iA f u):=h! (by
   have h9:=bx.out
   rw [aH (by rw [eD];have:=cs.out;omega)] at h9
   exact h9)
  have fd:Hid (iT f.blocks.length x.term=true):=h! (by
   have h9:=(fC ax.out).1
   unfold gW at h9
   simp only [aL,bB] at h9
   have h8:=h9.2 (x,c) (by rw [bI];exact HX.out)
   unfold gI at h8
   simp only [aL] at h8
   exact h8.2)
  have cB:Hid ((∀ u ∈ uxT c x,iA f u) -> ∀ u ∈ uxB (x,c),iA f u):=h! (fun h u hu=>by
   unfold uxB at hu
   rcases aM.1 hu with hu | hu
   ·rcases aM.1 hu with hu | hu
    ·exact ei.out u hu
    exact dp.out u hu
   exact h u hu)
  have ga:Hid (∀ u ∈ uxT c x,u ∈ uxB (x,c)):=h! (fun u hu=>by unfold uxB;exact aM.2 (.inr hu))
  clear gm bx
  go_upto_region 19 with (fail)
  have dm:w5.heap.size ≠ w.heap.size:=fun e=>by have:=ae;omega
  have nB1BT:w.heap.size ≠ w5.heap.size:=fun e=>dm e.symm
  have db:w5.heap.size ≠ w.heap.size+1:=fun e=>by have:=ag;omega
  have nB2BT:w.heap.size+1 ≠ w5.heap.size:=fun e=>db e.symm
  have dl:w5.heap.size ≠ ao:=fun e=>by have:=ah;omega
  have nBKBT:ao ≠ w5.heap.size:=fun e=>dl e.symm
  clear ae aj am ag ak ai ah an aq
  have ad:=(Below.refl w5.heap.size w5).alloc (aB _) (.cells #[.int .i64 x.term.op,.int .i64 x.term.val,.slice ba x.term.to.length bc,.int .i64 x.term.n] 61)
  replace B1:=h! (B1.out.later ad)
  replace B2:=h! (B2.out.later ad)
  replace BK:=h! (BK.out.later ad)
  replace HW:=h! (HW.out.trans (ad.mono HW.out.size))
  clear ad
  have BT:=h! (Box.new w5 #[.int .i64 x.term.op,.int .i64 x.term.val,.slice ba x.term.to.length bc,.int .i64 x.term.n] 61)
  generalize w5.alloc (.cells #[.int .i64 x.term.op,.int .i64 x.term.val,.slice ba x.term.to.length bc,.int .i64 x.term.n] 61)=w6 at *
  obtain ⟨ae,aj,am⟩:=B1.out
  obtain ⟨ag,ak,ai⟩:=B2.out
  obtain ⟨ah,an,aq⟩:=BK.out
  obtain ⟨fs,fL,ft⟩:=BT.out
  by_cases h23:x.term.op=2 \/ x.term.op=3
  ·have hu:∃ t,(⟨x.term.val,t,c,x.code.length,0⟩ : UseD) ∈ uxT c x /\ ∀ u ∈ uxT c x,u=⟨x.term.val,t,c,x.code.length,0⟩:=by
    unfold uxT
    rcases h23 with h | h
    ·rw [if_pos h];exact ⟨2,by simp,by simp⟩
    ·rw [if_neg (by omega),if_pos h];exact ⟨0,by simp,by simp⟩
   obtain ⟨t,ey,gg⟩:=hu
   obtain ⟨d,k,aw,co,cm⟩:=nA ax.out (pA HX.out (ga.out _ ey))
   have hv0:¬ x.term.val < 0:=by
    have h9:=aFW ax.out (eL aw)
    simp only at h9
    omega
   have ho4:(x.term.op == 4)=false:=by simp;omega
   have ho1:(x.term.op == 1)=false:=by simp;omega
   have cn:=HS.out.later HW.out
   rw [ck.out] at cn
   have HA:=h! (ahead cn HO.out HD.out ax.out (at_:=(x.code.length:Int)) aw ⟨co,cm⟩ (b:=(c:Int)) ⟨by omega,by rw [<-ck.out];omega⟩)
   rw [<-cs.out] at HA
   have dy:Hid (iA f ⟨x.term.val,t,c,x.code.length,0⟩ ↔ kT f d k c x.code.length):=h! (by
    rw [uK aw]
    have hn:¬ ((x.code.length:Nat):Int) < 0:=by omega
    exact ⟨fun h=>h.elim (fun h=>absurd h.1 hn) (fun h=>h.2),fun h=>.inr ⟨hn,h⟩⟩)
   have hG:=h! ey
   have hL:=h! gg
   clear h23 ey gg aw co cm cn
   go_wp2_with fail
   refine HA.out.mono ?_
   rintro e w7 ⟨r,rfl,hr,hb⟩
   rw [cs.out] at hr
   have HR:=h! hr
   clear hr HA
   clear ae aj am ag ak ai ah an aq fs fL ft
   replace B1:=h! (B1.out.later hb)
   replace B2:=h! (B2.out.later hb)
   replace BK:=h! (BK.out.later hb)
   replace BT:=h! (BT.out.later hb)
   replace HW:=h! (HW.out.trans (hb.mono HW.out.size))
   clear hb
   obtain ⟨ae,aj,am⟩:=B1.out
   obtain ⟨ag,ak,ai⟩:=B2.out
   obtain ⟨ah,an,aq⟩:=BK.out
   obtain ⟨fs,fL,ft⟩:=BT.out
   cases r
   ·have az:Hid (¬ ∀ u ∈ uxB (x,c),iA f u):=h! (fun h=>by have:=HR.out.2 (dy.out.1 (h _ (ga.out _ hG.out)));simp at this)
    go_wp2
    go_ret
    exact ⟨false,rfl,⟨(fun h=>by cases h),(fun h=>absurd h az.out)⟩,HW.out⟩
   ·have cg:Hid (∀ u ∈ uxB (x,c),iA f u):=h! (cB.out (fun u hu=>by rw [hL.out u hu];exact dy.out.2 (HR.out.1 (by trivial))))
    go_wp2
    go_ret
    exact ⟨true,rfl,⟨(fun _=>cg.out),(fun _=>by trivial)⟩,HW.out⟩
  have er:x.term.val = -1:=by
   have h9:=fd.out
   unfold iT at h9
   simp at h9
   omega
  have hneg:x.term.val < 0:=by omega
  have cg:Hid (∀ u ∈ uxB (x,c),iA f u):=h! (cB.out (fun u hu=>by
   unfold uxT at hu
   rw [if_neg (fun h=>h23 (.inl h)),if_neg (fun h=>h23 (.inr h))] at hu
   cases hu))
  clear h23 er
  go_wp2
  go_ret
  exact ⟨true,rfl,⟨(fun _=>cg.out),(fun _=>by trivial)⟩,HW.out⟩
end Go.Proofs.YtagabiidbbhhmaaGreat
