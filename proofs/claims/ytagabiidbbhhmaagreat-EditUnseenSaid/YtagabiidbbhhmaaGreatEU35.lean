/- Part 35. -/
import Derived.Test.YtagabiidbbhhmaaGreatEU31
import Derived.Test.YtagabiidbbhhmaaGreatEU33
namespace Go.Proofs.YtagabiidbbhhmaaGreat
set_option linter.all false
section
open Go.RowKit
theorem uC:Enters Tryz.prog 144:=enters_of Tryz.func144 (by kernel_rfl) rfl
def aBN (f:FuncD) (d k b at_:Int) (w:World) (e:Ending) (w' : World):Prop := ∃ r:Bool,e = .returned (.bool r)/\(r=true ↔ ¬ kI f d k b at_)/\Below w.heap.size w w'
set_option maxHeartbeats 3200000 in
theorem aGN {f:FuncD} {w:World} {bs bt bg lg lcap bm:Nat} {g:Array Value} {pv ov lv A2:Value} {O:List Nat} {I:Nat -> Option Nat} (hS:StrM f w bs bt bg lg lcap bm g pv ov lv A2 O I) (hO:fT f O) (hD:DomI f O I) (hc:eV f=0)
  {id d k b at_:Int} {b1 b2 b3:Nat} (he:((entF f).find? fun e=>e.1 == id)=some (id,d,k)) (hd:0 <= d/\d < (f.blocks.length:Int)) (hb:0 <= b/\b < (f.blocks.length:Int))
  (h1:Box w b1 #[.pointer (some ⟨bs,0,none⟩)]) (h2:Box w b2 #[.int .i64 b]) (h3:Box w b3 #[.int .i64 at_]) :
  Calls Tryz.prog 144 #[.int .i64 id,.pointer (some ⟨b1,0,none⟩),.pointer (some ⟨b2,0,none⟩),.pointer (some ⟨b3,0,none⟩)] w (aBN f d k b at_ w):=by
 have HA:=h! (ahead hS hO hD hc (at_:=at_) he hd hb)
 obtain ⟨l1,c1,f1⟩:=h1
 obtain ⟨l2,c2,f2⟩:=h2
 obtain ⟨l3,c3,f3⟩:=h3
 clear hS hO hD hc he hd hb
 go_enter Tryz.func144,Tryz.ntmps144
 go_wp2_with fail
 refine HA.out.mono ?_
 rintro e w2 ⟨r,rfl,hr,hb⟩
 have HR:=h! hr
 have HB:=h! hb
 clear hr hb
 cases r
 ·go_wp2
  go_ret
  exact ⟨true,rfl,⟨(fun _ h=>by have:=HR.out.2 h;simp at this),(fun _=>rfl)⟩,HB.out⟩
 ·go_wp2
  go_ret
  exact ⟨false,rfl,⟨(fun h=>by cases h),(fun h=>absurd (HR.out.1 (by trivial)) h)⟩,HB.out⟩
end
section
open Go.RowKit
theorem sT {f:FuncD} {u:UseD} {d k:Int} (h:((entF f).find? fun e=>e.1 == u.id)=some (u.id,d,k)):gV f u ↔ ((u.pos < 0/\kB f d.toNat u.src.toNat) \/ (¬ u.pos < 0/\kI f d k u.blk u.pos)) :=
 ⟨fun ⟨d2,k2,h2,h3⟩=>by rw [h] at h2;cases h2;exact h3,fun h3=>⟨d,k,h,h3⟩⟩
theorem uD (a b:Value) (w:World):(Instr.field 171 (.agg #[a,b]) 0).run Tryz.prog w = .ok a w:=by kernel_rfl
theorem aE8 {f:FuncD} (hc:eV f=0) {e:Int × Int × Int} (he:e ∈ entF f):0 <= e.1:=by
 have h1:e.1 ∈ (fC f).map (·.1):=by rw [<-qM hc];exact bB.2 ⟨e,he,rfl⟩
 unfold fC at h1
 rw [bD,aL,nA] at h1
 rcases h1 with h1 | h1
 ·obtain ⟨i,_,h2⟩:=bB.1 h1
  omega
 obtain ⟨p,hp,h2⟩:=bB.1 h1
 have h3:=(eY hc).2
 unfold idsF idsB at h3
 rw [aK,aZ] at h3
 have h4:=h3.2 p hp
 simp at h4
 omega
def vJ (f:FuncD) (c:Nat) (x:BlockD) (w:World) (e:Ending) (w' : World):Prop := ∃ r:Bool,e = .returned (.bool r)/\(r=true ↔ ∀ u ∈ uxB (x,c),gV f u)/\Below w.heap.size w w'
theorem oE {f:FuncD} {c:Nat} {x:BlockD} (h:f.blocks[c]? = some x) {u:UseD} (hu:u ∈ uxB (x,c)):u ∈ uxF f:=by
 unfold uxF
 rw [cU]
 exact ⟨(x,c),by rw [bT];exact h,hu⟩
set_option maxHeartbeats 25600000 in
set_option maxRecDepth 100000 in
theorem aGB {f:FuncD} {w:World} {bs bt bg lg lcap bm:Nat} {ap ab:Option Addr} {np cp cb:Nat} {ar ce:Int} {pv ov lv A2:Value} {O:List Nat} {I:Nat -> Option Nat}
  (hS:StrM f w bs bt bg lg lcap bm #[.slice ap np cp,.int .i64 ar,.int .i64 ce,.slice ab f.blocks.length cb] pv ov lv A2 O I) (hB:eU gI 6 w (.slice ab f.blocks.length cb) f.blocks) (hO:fT f O) (hD:DomI f O I) (hc:eV f=0)
  {c:Nat} {x:BlockD} (hx:f.blocks[c]? = some x) :
  Calls Tryz.prog 89 #[.pointer (some ⟨bs,0,none⟩),.int .i64 c] w (vJ f c x w):=by
 have ax:=h! hc
 have HS:=h! hS
 have HO:=h! hO
 have HD:=h! hD
 have HX:=h! hx
 have ds:=(gG (eY hc).1).2
 have gy:=(aD.1 hx).1
 obtain ⟨a2,c2,bb,bo,gr,hp,hbm,hl,fe,fs⟩:=eW hB
 cases gr
 obtain ⟨nb,ch⟩ : ∃ nb,nb=f.blocks.length:=⟨_,rfl⟩
 rw [<-ch] at hp fe hl ds gy HS
 obtain ⟨rfl,fm⟩:=fe (by omega)
 have cn:=h! ch
 obtain ⟨ck,bk,bc,bO,br,ba,hC⟩:=fs c x hx
 have HC:=h! hC
 have gq:Hid (∀ (W:World) (a b:Nat),Below w.heap.size w W -> a < nb -> b < nb -> Calls Tryz.prog 143 #[.pointer (some ⟨bt,0,none⟩),.int .i64 a,.int .i64 b] W fun e w' => ∃ r:Bool,e = .returned (.bool r)/\(r=true ↔ kB f a b)/\W=w'):=h! (fun W a b hW ha hb=>by
  refine uU (a:=a) (b:=b) (hS.t.later hW) hO hD (by rw [<-ch];exact ds) (by rw [<-ch];exact ha) (by rw [<-ch];exact hb))
 have gs:Hid (∀ u ∈ uxB (x,c), ∃ d k:Nat -> Int,True):=h! (fun u _=>⟨fun _=>0,fun _=>0,trivial⟩)
 have fo:=hC.phis
 have ft:=hC.code
 obtain ⟨pl,bi⟩ : ∃ pl,pl=x.phis.length:=⟨_,rfl⟩
 obtain ⟨cl,bn⟩ : ∃ cl,cl=x.code.length:=⟨_,rfl⟩
 obtain ⟨ac,capc,bcd,ocd,ct,gx,hcm,dp,ek,fx⟩:=fS ft
 obtain ⟨apx,capp,hE,gw,cq,ej,hppm,cM,bz,dl⟩:=fH fo
 rw [<-bi] at cq ej cM bz
 rw [<-bn] at ct gx dp ek
 cases cq
 cases ct
 have fi:=h! bi
 have dy:=h! bn
 have eo:=h! bz
 have es:=h! dl
 have fg:=h! ek
 have eh:=h! fx
 have gh:=h! hS.t.cells.1
 have fz:Hid (w.cell? ⟨bg,3,none⟩=some (.slice (some ⟨bb,bo,none⟩) nb cb)):=h! (by have h9:=hS.t.graph.at 3 rfl;rw [ch];exact h9)
 have fB:=h! hS.t.tree.lt
 have fw:=h! hS.t.graph.lt
 clear hS hB hO hD hc hx hC fo ft bi bn bz dl ek fx fe fs ch gs
 go_enter Tryz.func89,Tryz.ntmps89
 go_upto_region 1 with (fail)
 have ad:=(Below.refl w.heap.size w).alloc (aC _) (.cells #[.pointer (some ⟨bs,0,none⟩)] 88)
 have HW:=h! ad
 clear ad
 have B1:=h! (Box.new w #[.pointer (some ⟨bs,0,none⟩)] 88)
 have ay:(w.alloc (.cells #[.pointer (some ⟨bs,0,none⟩)] 88)).heap.size=w.heap.size+1:=World.size_alloc _ _
 generalize w.alloc (.cells #[.pointer (some ⟨bs,0,none⟩)] 88)=eb at *
 have ad:=(Below.refl eb.heap.size eb).alloc (aC _) (.cells #[.int .i64 c] 3)
 replace B1:=h! (B1.out.later ad)
 replace HW:=h! (HW.out.trans (ad.mono HW.out.size))
 clear ad
 have B2:=h! (Box.new eb #[.int .i64 c] 3)
 rw [ay] at B2
 clear ay
 generalize eb.alloc (.cells #[.int .i64 c] 3)=wv at *
 obtain ⟨ae,am,aj⟩:=B1.out
 obtain ⟨ag,ai,ak⟩:=B2.out
 refine wp_region_grow 15 (fun kz=>match kz with | 14=>.made wv.heap.size (fun b=>.pointer (some ⟨b,0,none⟩)) #[.slice none 0 0,.slice none 0 0,.int .i64 0,.int .i64 0,.slice none 0 0,.int .i64 0] | _=>.plain) (by kernel_rfl) (by kernel_rfl) ?_ (fun ν => ?_)
 ·(intro k;(try dsimp only);split <;> first | exact True.intro | (intro u w1 w2 hu hb;exact hu.below hb))
 simp only [aP,aU,aS,aX]
 iterate 14 (refine Grow.val (v := ?_) rfl rfl (fun wg hbg hdg => ?_) ?_;rotate_left;(focus ((obtain ⟨lg0,cg0,fg0⟩:=B1.out.later hbg);(obtain ⟨lg1,cg1,fg1⟩:=B2.out.later hbg);(obtain ⟨xl1,xc1,xf1⟩:=(HS.out.later (HW.out.trans (hbg.mono HW.out.size))).s;have xt:=((HW.out.trans (hbg.mono HW.out.size)).cell (p:=⟨bt,0,none⟩) fB.out).trans gh.out;have xg:=((HW.out.trans (hbg.mono HW.out.size)).cell (p:=⟨bg,3,none⟩) fw.out).trans fz.out;obtain ⟨k0,k1,k2,k3,k4,k5, -, -, -, -, -, -⟩:=HC.out.below (HW.out.trans (hbg.mono HW.out.size)) fm);clear hbg hdg;first | (go_simp;done) | (go_simp;with_reducible rfl)));simp only [Act.put,aA,aE,aF])
 refine Grow.made (T := ?_) rfl rfl (fun wg hbg hdg => ?_) ?_
 rotate_left
 focus ((obtain ⟨lg0,cg0,fg0⟩:=B1.out.later hbg);(obtain ⟨lg1,cg1,fg1⟩:=B2.out.later hbg);(obtain ⟨xl1,xc1,xf1⟩:=(HS.out.later (HW.out.trans (hbg.mono HW.out.size))).s;have xt:=((HW.out.trans (hbg.mono HW.out.size)).cell (p:=⟨bt,0,none⟩) fB.out).trans gh.out;have xg:=((HW.out.trans (hbg.mono HW.out.size)).cell (p:=⟨bg,3,none⟩) fw.out).trans fz.out;obtain ⟨k0,k1,k2,k3,k4,k5, -, -, -, -, -, -⟩:=HC.out.below (HW.out.trans (hbg.mono HW.out.size)) fm);clear hbg hdg;first | (go_simp;done) | (go_simp;with_reducible rfl))
 simp only [Act.put,Known.val,aA,aE,aF]
 intro wg hb hf ex
 obtain ⟨aq,cr,cB,dr⟩:=hf 14 (by omega)
 have di:aq ≠ w.heap.size:=fun e=>by have:=ae;omega
 have nB1BK:w.heap.size ≠ aq:=fun e=>di e.symm
 have dw:aq ≠ w.heap.size+1:=fun e=>by have:=ag;omega
 have nB2BK:w.heap.size+1 ≠ aq:=fun e=>dw e.symm
 simp only [cr]
 clear cr
 clear ex
 have gBK:=bA HW.out.size cB
 clear cB
 clear ae am aj ag ai ak
 replace B1:=h! (B1.out.later hb)
 replace B2:=h! (B2.out.later hb)
 replace HW:=h! (HW.out.trans (hb.mono HW.out.size))
 clear hb
 have BK:=h! dr
 clear dr
 obtain ⟨ae,am,aj⟩:=B1.out
 obtain ⟨ag,ai,ak⟩:=B2.out
 obtain ⟨ah,ao,an⟩:=BK.out
 clear hf
 go_upto_region 2 with (fail)
 clear ae am aj ag ai ak ah ao an
 have ee:=((((((Only.set wg (aq) 0 (.slice ck x.phis.length bO)).put 1 (.slice bk x.code.length br)).put 2 (.int .i64 x.term.op)).put 3 (.int .i64 x.term.val)).put 4 (.slice bc x.term.to.length ba)).put 5 (.int .i64 x.term.n))
 replace B1:=h! (B1.out.only ee (by first | assumption | (simp;done) | omega))
 replace B2:=h! (B2.out.only ee (by first | assumption | (simp;done) | omega))
 replace HW:=h! (ee.2.2 HW.out (by first | assumption | omega | (have:=HW.out.size;omega) | (simp;done) | (simp;omega)))
 replace BK:=h! (Box.to (A':=#[(.slice ck x.phis.length bO),(.slice bk x.code.length br),(.int .i64 x.term.op),(.int .i64 x.term.val),(.slice bc x.term.to.length ba),(.int .i64 x.term.n)]) ((((((BK.out.set 0 (.slice ck x.phis.length bO)).set 1 (.slice bk x.code.length br)).set 2 (.int .i64 x.term.op)).set 3 (.int .i64 x.term.val)).set 4 (.slice bc x.term.to.length ba)).set 5 (.int .i64 x.term.n)) (by first | rfl | simp))
 clear ee
 generalize ((((((wg.setCell ⟨aq,0,none⟩ (.slice ck x.phis.length bO)).setCell ⟨aq,1,none⟩ (.slice bk x.code.length br)).setCell ⟨aq,2,none⟩ (.int .i64 x.term.op)).setCell ⟨aq,3,none⟩ (.int .i64 x.term.val)).setCell ⟨aq,4,none⟩ (.slice bc x.term.to.length ba)).setCell ⟨aq,5,none⟩ (.int .i64 x.term.n))=w2 at *
 obtain ⟨ae,am,aj⟩:=B1.out
 obtain ⟨ag,ai,ak⟩:=B2.out
 obtain ⟨ah,ao,an⟩:=BK.out
 rw [<-fi.out, <-dy.out] at BK
 clear ae am aj ag ai ak ah ao an
 obtain ⟨ae,am,aj⟩:=B1.out
 obtain ⟨ag,ai,ak⟩:=B2.out
 obtain ⟨ah,ao,an⟩:=BK.out
 go_wp2_with fail
 go_loopw [30] (fun i wr => ∃ j:Nat,j <= pl/\i = .int .i64 j/\(∀ u ∈ (x.phis.take j).flatMap (uxP c),gV f u)/\Below w.heap.size w wr/\Box wr w.heap.size #[.pointer (some ⟨bs,0,none⟩)]/\Box wr (w.heap.size+1) #[.int .i64 c]/\Box wr aq #[.slice ck pl bO,.slice bk cl br,.int .i64 x.term.op,.int .i64 x.term.val,.slice bc x.term.to.length ba,.int .i64 x.term.n]) (fun i _=>pl - (intOf i).toNat)
 case atStart=>exact ⟨0,aH _,rfl,by simp,HW.out,B1.out,B2.out,BK.out⟩
 case round =>
  obtain ⟨j,hj,rfl,bh,hW,h1,h2,h3⟩:=hrel
  clear ae am aj ag ai ak ah ao an
  have cd:=h! bh
  replace HW:=h! hW
  replace B1:=h! h1
  replace B2:=h! h2
  replace BK:=h! h3
  clear bh hW h1 h2 h3
  generalize wr=w3 at *
  obtain ⟨ae,am,aj⟩:=B1.out
  obtain ⟨ag,ai,ak⟩:=B2.out
  obtain ⟨ah,ao,an⟩:=BK.out
  by_cases hlt:j < pl
  ·obtain ⟨rfl,en⟩:=eo.out (by omega)
   obtain ⟨p,dt⟩ : ∃ p,x.phis[j]? = some p:=⟨_,aB (by have:=fi.out;omega)⟩
   obtain ⟨af,av,cf,cv,hP⟩:=es.out j p dt
   obtain ⟨m0,m1,m2,m3,r1,r2,r3,r4⟩:=hP.below HW.out en
   have hF:=h! (aG dt)
   have fa:=h! (gM (uxP c) x.phis j p dt)
   obtain ⟨bd,cw⟩:=(jP (eY ax.out).1).phi x (aG HX.out) p (aG dt)
   obtain ⟨vl,co⟩ : ∃ vl,vl=p.vals.length:=⟨_,rfl⟩
   rw [bd, <-co] at m2
   rw [<-co] at m3 cw
   have df:=h! bd
   have eg:=h! co
   obtain ⟨av',cv',bv,ht,fy,ho,hvm,er,fj⟩:=hP.vals.parts
   rw [<-co] at fy ho er fj
   cases fy
   obtain ⟨af',cf',bf,ew,gd,gi,hfm,ey,ez⟩:=hP.src.parts
   rw [bd, <-co] at gd gi ey ez
   cases gd
   have gp:=h! er
   have hL:=h! fj
   have ev:=h! ey
   have gB:=h! ez
   clear r1 r2 r3 r4 hP dt bd co er fj ey ez
   go_upto_region 5 with (fail)
   have cG:w3.heap.size ≠ w.heap.size:=fun e=>by have:=ae;omega
   have nB1BP:w.heap.size ≠ w3.heap.size:=fun e=>cG e.symm
   have dq:w3.heap.size ≠ w.heap.size+1:=fun e=>by have:=ag;omega
   have nB2BP:w.heap.size+1 ≠ w3.heap.size:=fun e=>dq e.symm
   have db:w3.heap.size ≠ aq:=fun e=>by have:=ah;omega
   have nBKBP:aq ≠ w3.heap.size:=fun e=>db e.symm
   clear ae am aj ag ai ak ah ao an
   have ad:=(Below.refl w3.heap.size w3).alloc (aC _) (.cells #[.int .i64 p.id,.int .i64 p.typ,.slice af vl cf,.slice av vl cv] 78)
   replace B1:=h! (B1.out.later ad)
   replace B2:=h! (B2.out.later ad)
   replace BK:=h! (BK.out.later ad)
   replace HW:=h! (HW.out.trans (ad.mono HW.out.size))
   clear ad
   have BP:=h! (Box.new w3 #[.int .i64 p.id,.int .i64 p.typ,.slice af vl cf,.slice av vl cv] 78)
   generalize w3.alloc (.cells #[.int .i64 p.id,.int .i64 p.typ,.slice af vl cf,.slice av vl cv] 78)=w4 at *
   obtain ⟨ae,am,aj⟩:=B1.out
   obtain ⟨ag,ai,ak⟩:=B2.out
   obtain ⟨ah,ao,an⟩:=BK.out
   obtain ⟨ea,ec,ed⟩:=BP.out
   clear m0 m1 m2 m3
   go_wp2_with fail
   go_loopw [37] (fun i wr => ∃ q:Nat,q <= vl/\i = .int .i64 q/\(∀ u ∈ (uxP c p).take q,gV f u)/\Below w.heap.size w wr/\Box wr w.heap.size #[.pointer (some ⟨bs,0,none⟩)]/\Box wr (w.heap.size+1) #[.int .i64 c]/\Box wr aq #[.slice (some ⟨hE,gw,none⟩) pl bO,.slice bk cl br,.int .i64 x.term.op,.int .i64 x.term.val,.slice bc x.term.to.length ba,.int .i64 x.term.n]/\Box wr w3.heap.size #[.int .i64 p.id,.int .i64 p.typ,.slice af vl cf,.slice av vl cv]) (fun i _=>vl - (intOf i).toNat)
   case atStart=>exact ⟨0,aH _,rfl,by simp,HW.out,B1.out,B2.out,BK.out,BP.out⟩
   obtain ⟨q,hq,rfl,bh,hW,h1,h2,h3,h4⟩:=hrel
   clear ae am aj ag ai ak ah ao an ea ec ed
   have dc:=h! bh
   replace HW:=h! hW
   replace B1:=h! h1
   replace B2:=h! h2
   replace BK:=h! h3
   replace BP:=h! h4
   clear bh hW h1 h2 h3 h4
   generalize wr=w5 at *
   obtain ⟨ae,am,aj⟩:=B1.out
   obtain ⟨ag,ai,ak⟩:=B2.out
   obtain ⟨ah,ao,an⟩:=BK.out
   obtain ⟨ea,ec,ed⟩:=BP.out
   by_cases hltq:q < vl
   ·obtain ⟨rfl,hd⟩:=gp.out (by omega)
    obtain ⟨rfl,hI⟩:=ev.out (by omega)
    have ga:=(HW.out.cell (p:=⟨bv,ht+q,none⟩) hd).trans (hL.out q hltq)
    obtain ⟨y,hy⟩ : ∃ y,y=p.vals.getD q 0:=⟨_,rfl⟩
    obtain ⟨z,hz⟩ : ∃ z,z=p.src.getD q 0:=⟨_,rfl⟩
    rw [<-hy] at ga
    have CF:=h! ((HW.out.cell (p:=⟨bf,ew+q,none⟩) hI).trans (gB.out q hltq))
    rw [<-hz] at CF
    have fv:=World.block_lt_of_cell? w5 _ CF.out
    have hu:(uxP c p)[q]? = some ⟨y,p.typ,c, -1,z⟩:=by
     unfold uxP
     have dx:(p.vals.zip p.src)[q]? = some (p.vals.getD q 0,p.src.getD q 0):=cX.2 ⟨fI p.vals q (by rw [<-eg.out];exact hltq),fI p.src q (by rw [df.out, <-eg.out];exact hltq)⟩
     rw [aO,dx]
     rw [hy,hz];rfl
    have fc:=h! (eS _ _ _ hu)
    have ep:Hid ((⟨y,p.typ,c, -1,z⟩ : UseD) ∈ uxB (x,c)):=h! (by
     unfold uxB
     rw [bN,aL]
     left
     rw [cU]
     exact ⟨p,hF.out,aG hu⟩)
    obtain ⟨d,k,aw,cm,cj⟩:=mO ax.out (oE HX.out ep.out)
    obtain ⟨-, -,ef⟩:=rH (eY ax.out).1 (oE HX.out ep.out)
    obtain ⟨fl,fG⟩:=ef (by show (-1:Int) < 0;omega)
    obtain ⟨dn,rfl⟩ : ∃ dn:Nat,d=(dn:Int):=⟨d.toNat,by omega⟩
    obtain ⟨sn,gb⟩ : ∃ sn:Nat,z=(sn:Int):=⟨z.toNat,by simp only at fl;omega⟩
    have gl:dn < nb:=by have:=cn.out;omega
    have gk:sn < nb:=by have:=cn.out;simp only at fG;omega
    obtain ⟨r,hr⟩ : ∃ r:Bool,r=true ↔ kB f dn sn:=by
     rcases Classical.em (kB f dn sn) with h | h
     ·exact ⟨true,by simp [h]⟩
     exact ⟨false,by simp [h]⟩
    have HR:Hid (r=true ↔ gV f ⟨y,p.typ,c, -1,z⟩):=h! (by
     rw [sT aw,hr]
     have:(-1:Int) < 0:=by omega
     simp [gb,this])
    have gz:Hid (∀ wg,Below w5.heap.size w5 wg -> Calls Tryz.prog 143 #[.pointer (some ⟨bt,0,none⟩),.int .i64 dn,.int .i64 sn] wg fun e w'=>e = .returned (.bool r)/\Below wg.heap.size wg w'):=h! (fun wg hbg=>by
     refine (gq.out wg dn sn (HW.out.trans (hbg.mono HW.out.size)) gl gk).mono ?_
     rintro e w' ⟨r2,rfl,ef,rfl⟩
     obtain rfl:r2=r:=by rw [bU,ef,hr]
     exact ⟨rfl,Below.refl _ _⟩)
    have fL:Hid (∀ wg,Below w5.heap.size w5 wg -> (Instr.lookup 94 (.map (some bm)) (.int .i64 y) false).run Tryz.prog wg = .ok (.agg #[.int .i64 dn,.int .i64 k]) wg):=h! (fun wg hbg=>by
     rw [((HS.out.later (HW.out.trans (hbg.mono HW.out.size))).mp).lookup0 Tryz.underlying94 Tryz.underlying3 (tI _) y,aAK ax.out,aw];rfl)
    rw [gb] at CF
    clear hy hz hu aw cm cj ef fl fG hr
    go_upto_region 8 with (fail)
    clear ga
    refine wp_region_grow 18 (fun kz=>match kz with | 16=>.const (.bool r) | _=>.plain) (by kernel_rfl) (by kernel_rfl) ?_ (fun ν => ?_)
    ·(intro k;(try dsimp only);split <;> first | exact True.intro | (intro u w1 w2 hu hb;exact hu.below hb))
    simp only [aP,aU,aS,aX]
    iterate 16 (refine Grow.val (v := ?_) rfl rfl (fun wg hbg hdg => ?_) ?_;rotate_left;(focus ((obtain ⟨lg0,cg0,fg0⟩:=B1.out.later hbg);(obtain ⟨lg1,cg1,fg1⟩:=B2.out.later hbg);(obtain ⟨hN,hw,hA⟩:=BK.out.later hbg);(obtain ⟨hm,gn,hM⟩:=BP.out.later hbg);(obtain ⟨xl1,xc1,xf1⟩:=(HS.out.later (HW.out.trans (hbg.mono HW.out.size))).s;have hK:=fL.out wg hbg;have hh:=uD (.int .i64 dn) (.int .i64 k) wg;have hk:=(hbg.cell (p:=⟨bf,ew+q,none⟩) fv).trans CF.out);clear hbg hdg;first | (go_simp;done) | (go_simp;with_reducible rfl)));simp only [Act.put,aA,aE,aF])
    refine Grow.call (f := ?_) (args := ?_) rfl (fun wg => ?_) (fun wg hbg hdg => ?_) ?_
    rotate_left 2
    focus (first | (go_simp;done) | (go_simp;refine And.intro ?_ ?_ <;> with_reducible rfl) | (go_simp;with_reducible rfl))
    focus exact Calls.mono (gz.out wg hbg) (fun e w2 ⟨he,hb2⟩=>⟨_,he,rfl,hb2⟩)
    simp only [Act.put,Known.val,aA,aE,aF]
    refine Grow.val (v := ?_) rfl rfl (fun wg hbg hdg => ?_) ?_
    rotate_left
    focus ((obtain ⟨lg0,cg0,fg0⟩:=B1.out.later hbg);(obtain ⟨lg1,cg1,fg1⟩:=B2.out.later hbg);(obtain ⟨hN,hw,hA⟩:=BK.out.later hbg);(obtain ⟨hm,gn,hM⟩:=BP.out.later hbg);(obtain ⟨xl1,xc1,xf1⟩:=(HS.out.later (HW.out.trans (hbg.mono HW.out.size))).s;have hK:=fL.out wg hbg;have hh:=uD (.int .i64 dn) (.int .i64 k) wg;have hk:=(hbg.cell (p:=⟨bf,ew+q,none⟩) fv).trans CF.out);clear hbg hdg;first | (go_simp;done) | (go_simp;with_reducible rfl))
    simp only [Act.put,aA,aE,aF]
    intro wg hb hf ex
    clear ex
    clear ae am aj ag ai ak ah ao an ea ec ed
    replace B1:=h! (B1.out.later hb)
    replace B2:=h! (B2.out.later hb)
    replace BK:=h! (BK.out.later hb)
    replace BP:=h! (BP.out.later hb)
    replace HW:=h! (HW.out.trans (hb.mono HW.out.size))
    clear hb
    obtain ⟨ae,am,aj⟩:=B1.out
    obtain ⟨ag,ai,ak⟩:=B2.out
    obtain ⟨ah,ao,an⟩:=BK.out
    obtain ⟨ea,ec,ed⟩:=BP.out
    clear hf
    cases r
    ·have az:Hid (¬ ∀ u ∈ uxB (x,c),gV f u):=h! (fun h=>by have:=HR.out.2 (h _ ep.out);simp at this)
     go_wp2
     go_ret
     exact ⟨false,rfl,⟨(fun h=>by cases h),(fun h=>absurd h az.out)⟩,HW.out⟩
    have dd:Hid (∀ u ∈ (uxP c p).take (q+1),gV f u):=h! (by
     rw [fc.out]
     intro v hv
     rcases aL.1 hv with hv | hv
     ·exact dc.out v hv
     rw [cN] at hv;rw [hv];exact HR.out.1 (by trivial))
    go_wp2
    go_roundw
    case rel=>exact ⟨q+1,hltq,by go_num,dd.out,HW.out,B1.out,B2.out,BK.out,BP.out⟩
    simp [intOf];omega
   have dd:Hid (∀ u ∈ (x.phis.take (j+1)).flatMap (uxP c),gV f u):=h! (by
    rw [fa.out]
    intro v hv
    rcases aL.1 hv with hv | hv
    ·exact cd.out v hv
    refine dc.out v ?_
    rw [aJ (by unfold uxP;rw [bI,eB,df.out, <-eg.out];omega)]
    exact hv)
   go_wp2
   go_roundw
   case rel=>exact ⟨j+1,hlt,by go_num,dd.out,HW.out,B1.out,B2.out,BK.out⟩
   simp [intOf];omega
  have fb:Hid (∀ u ∈ x.phis.flatMap (uxP c),gV f u):=h! (by have h9:=cd.out;rw [aJ (by have:=fi.out;omega)] at h9;exact h9)
  clear cd
  go_wp2_with fail
  go_loopw [65] (fun i wr => ∃ j2:Nat,j2 <= cl/\i = .int .i64 j2/\(∀ u ∈ (x.code.zipIdx.take j2).flatMap (uxI c),gV f u)/\Below w.heap.size w wr/\Box wr w.heap.size #[.pointer (some ⟨bs,0,none⟩)]/\Box wr (w.heap.size+1) #[.int .i64 c]/\Box wr aq #[.slice ck pl bO,.slice bk cl br,.int .i64 x.term.op,.int .i64 x.term.val,.slice bc x.term.to.length ba,.int .i64 x.term.n]) (fun i _=>cl - (intOf i).toNat)
  case atStart=>exact ⟨0,aH _,rfl,by simp,HW.out,B1.out,B2.out,BK.out⟩
  obtain ⟨j2,hj2,rfl,bh,hW,h1,h2,h3⟩:=hrel
  clear ae am aj ag ai ak ah ao an
  have cd:=h! bh
  replace HW:=h! hW
  replace B1:=h! h1
  replace B2:=h! h2
  replace BK:=h! h3
  clear bh hW h1 h2 h3
  generalize wr=w5 at *
  obtain ⟨ae,am,aj⟩:=B1.out
  obtain ⟨ag,ai,ak⟩:=B2.out
  obtain ⟨ah,ao,an⟩:=BK.out
  by_cases hlt3:j2 < cl
  ·obtain ⟨rfl,en⟩:=fg.out (by omega)
   obtain ⟨y,dz⟩ : ∃ y,x.code[j2]? = some y:=⟨_,aB (by have:=dy.out;omega)⟩
   obtain ⟨aa,ca,hP⟩:=eh.out j2 y dz
   obtain ⟨m0,m1,m2,m3,r1,r2,r3,r4⟩:=hP.below HW.out en
   have hz:x.code.zipIdx[j2]? = some (y,j2):=by rw [cQ,dz];simp
   have fa:=h! (gM (uxI c) x.code.zipIdx j2 (y,j2) hz)
   have hs:=h! (aG hz)
   have fF:=h! ((jP (eY ax.out).1).args x (aG HX.out) y (aG dz))
   have cy:=h! hP.args
   obtain ⟨al,gf⟩ : ∃ al,al=y.args.length:=⟨_,rfl⟩
   rw [<-gf] at cy m2
   clear r1 r2 r3 r4 hP dz hz gf
   have et:Hid (∀ u ∈ uxI c (y,j2),u ∈ uxB (x,c)):=h! (fun u hu=>by
    unfold uxB
    rw [bN,aL]
    right
    rw [aL]
    left
    rw [cU]
    exact ⟨(y,j2),hs.out,hu⟩)
   obtain ⟨AV,fk⟩ : ∃ AV:Int -> Prop,AV=fun v => ∃ d k,((entF f).find? fun e=>e.1 == v)=some (v,d,k)/\kI f d k c j2:=⟨_,rfl⟩
   have hG:=h! fk
   have cz:Hid (∀ u ∈ uxI c (y,j2),gV f u ↔ AV u.id):=h! (fun u hu=>by
    obtain ⟨d,k,aw, -, -⟩:=mO ax.out (oE HX.out (et.out u hu))
    rw [sT aw,fk]
    unfold uxI at hu
    rw [bB] at hu
    obtain ⟨a,ha,rfl⟩:=hu
    have hn:¬ ((j2:Nat):Int) < 0:=by omega
    constructor
    ·rintro (h | h)
     ·exact absurd h.1 hn
     exact ⟨d,k,aw,h.2⟩
    rintro ⟨d2,k2,h2,h3⟩
    rw [aw] at h2
    cases h2
    exact .inr ⟨hn,h3⟩)
   obtain ⟨g,hg⟩ : ∃ g:Int -> Bool, ∀ v,g v=true ↔ ¬ AV v:=⟨fun v=>@decide (¬ AV v) (Classical.propDecidable _),fun v=>@decide_eq_true_iff _ (Classical.propDecidable _)⟩
   have HG:=h! hg
   have gj:Hid (∀ (W:World) (v:Int),v ∈ y.args -> Below w.heap.size w W -> ∀ b3,Box W w.heap.size #[.pointer (some ⟨bs,0,none⟩)] -> Box W (w.heap.size+1) #[.int .i64 c] -> Box W b3 #[.int .i64 j2] ->
     Calls Tryz.prog 144 #[.int .i64 v,.pointer (some ⟨w.heap.size,0,none⟩),.pointer (some ⟨w.heap.size+1,0,none⟩),.pointer (some ⟨b3,0,none⟩)] W fun e W'=>e = .returned (.bool (g v))/\Below W.heap.size W W'):=h! (fun W v hv hW b3 h1 h2 h3=>by
    obtain ⟨i,hi⟩:=bJ.1 hv
    have fh:=(aD.1 hi).1
    have hu:(⟨v,(shp0 y.op).args.getD i 0,c,j2,0⟩ : UseD) ∈ uxI c (y,j2):=by
     unfold uxI
     rw [bB]
     refine ⟨(v,(shp0 y.op).args.getD i 0), ?_,rfl⟩
     have dx:(y.args.zip (shp0 y.op).args)[i]? = some (v,(shp0 y.op).args.getD i 0):=cX.2 ⟨hi,fI _ i (by rw [<-fF.out];exact fh)⟩
     exact aG dx
    obtain ⟨d,k,aw,cm,cj⟩:=mO ax.out (oE HX.out (et.out _ hu))
    have ci:=HS.out.later hW
    rw [cn.out] at ci
    refine (aGN ci HO.out HD.out ax.out (at_:=(j2:Int)) aw ⟨cm,cj⟩ ⟨by omega,by rw [<-cn.out];omega⟩ h1 h2 h3).mono ?_
    rintro e W' ⟨r,rfl,hr,hb⟩
    have:g v=r:=by
     rw [bU,hr,HG.out v,hG.out]
     constructor
     ·intro h h2;exact h ⟨d,k,aw,h2⟩
     rintro h ⟨d2,k2,h2,h3⟩
     rw [aw] at h2
     cases h2
     exact h h3
    rw [this]
    exact ⟨rfl,hb⟩)
   clear fk hg
   go_upto_region 15 with (fail)
   have bx:w5.heap.size ≠ w.heap.size:=fun e=>by have:=ae;omega
   have nB1B10:w.heap.size ≠ w5.heap.size:=fun e=>bx e.symm
   have cc:w5.heap.size ≠ w.heap.size+1:=fun e=>by have:=ag;omega
   have nB2B10:w.heap.size+1 ≠ w5.heap.size:=fun e=>cc e.symm
   have bj:w5.heap.size ≠ aq:=fun e=>by have:=ah;omega
   have nBKB10:aq ≠ w5.heap.size:=fun e=>bj e.symm
   have bw:w5.heap.size+1 ≠ w.heap.size:=fun e=>by have:=ae;omega
   have nB1B11:w.heap.size ≠ w5.heap.size+1:=fun e=>bw e.symm
   have bq:w5.heap.size+1 ≠ w.heap.size+1:=fun e=>by have:=ag;omega
   have nB2B11:w.heap.size+1 ≠ w5.heap.size+1:=fun e=>bq e.symm
   have bl:w5.heap.size+1 ≠ aq:=fun e=>by have:=ah;omega
   have nBKB11:aq ≠ w5.heap.size+1:=fun e=>bl e.symm
   have nB11B10:w5.heap.size+1 ≠ w5.heap.size:=by omega
   have nB10B11:w5.heap.size ≠ w5.heap.size+1:=by omega
   clear ae am aj ag ai ak ah ao an
   have ad:=(Below.refl w5.heap.size w5).alloc (aC _) (.cells #[.int .i64 j2] 3)
   replace B1:=h! (B1.out.later ad)
   replace B2:=h! (B2.out.later ad)
   replace BK:=h! (BK.out.later ad)
   replace HW:=h! (HW.out.trans (ad.mono HW.out.size))
   clear ad
   have cg:=h! (Box.new w5 #[.int .i64 j2] 3)
   have ay:(w5.alloc (.cells #[.int .i64 j2] 3)).heap.size=w5.heap.size+1:=World.size_alloc _ _
   generalize w5.alloc (.cells #[.int .i64 j2] 3)=be at *
   have ad:=(Below.refl be.heap.size be).alloc (aC _) (.cells #[.int .i64 y.op,.int .i64 y.id,.slice aa al ca,.int .i64 y.n] 82)
   replace B1:=h! (B1.out.later ad)
   replace B2:=h! (B2.out.later ad)
   replace BK:=h! (BK.out.later ad)
   replace cg:=h! (cg.out.later ad)
   replace HW:=h! (HW.out.trans (ad.mono HW.out.size))
   clear ad
   have dh:=h! (Box.new be #[.int .i64 y.op,.int .i64 y.id,.slice aa al ca,.int .i64 y.n] 82)
   rw [ay] at dh
   clear ay
   generalize be.alloc (.cells #[.int .i64 y.op,.int .i64 y.id,.slice aa al ca,.int .i64 y.n] 82)=w6 at *
   obtain ⟨ae,am,aj⟩:=B1.out
   obtain ⟨ag,ai,ak⟩:=B2.out
   obtain ⟨ah,ao,an⟩:=BK.out
   obtain ⟨de,dv,dg⟩:=cg.out
   obtain ⟨dm,da,dj⟩:=dh.out
   clear m0 m1 m2 m3
   go_wp2_with fail
   refine (aCE uC g (cy.out.below HW.out) (fun W v hv hW=>gj.out W v hv (HW.out.trans (hW.mono HW.out.size)) _ (B1.out.later hW) (B2.out.later hW) (cg.out.later hW))).mono ?_
   rintro e w7 ⟨he,hb⟩
   obtain ⟨q,hq⟩ : ∃ q,q=y.args.any g:=⟨_,rfl⟩
   rw [<-hq] at he
   subst he
   have HQ:=h! hq
   clear hq
   clear ae am aj ag ai ak ah ao an de dv dg dm da dj
   replace B1:=h! (B1.out.later hb)
   replace B2:=h! (B2.out.later hb)
   replace BK:=h! (BK.out.later hb)
   replace cg:=h! (cg.out.later hb)
   replace dh:=h! (dh.out.later hb)
   replace HW:=h! (HW.out.trans (hb.mono HW.out.size))
   clear hb
   obtain ⟨ae,am,aj⟩:=B1.out
   obtain ⟨ag,ai,ak⟩:=B2.out
   obtain ⟨ah,ao,an⟩:=BK.out
   obtain ⟨de,dv,dg⟩:=cg.out
   obtain ⟨dm,da,dj⟩:=dh.out
   cases q
   ·have dd:Hid (∀ u ∈ (x.code.zipIdx.take (j2+1)).flatMap (uxI c),gV f u):=h! (by
     rw [fa.out]
     intro v hv
     rcases aL.1 hv with hv | hv
     ·exact cd.out v hv
     ·rw [cz.out v hv]
      have h9:=HQ.out.symm
      rw [List.any_eq_false] at h9
      unfold uxI at hv
      rw [bB] at hv
      obtain ⟨a,ha,rfl⟩:=hv
      have h8:=h9 a.1 (List.of_mem_zip ha).1
      exact Classical.byContradiction fun h=>h8 ((HG.out a.1).2 h))
    go_wp2
    go_roundw
    case rel=>exact ⟨j2+1,hlt3,by go_num,dd.out,HW.out,B1.out,B2.out,BK.out⟩
    case measure=>simp [intOf];omega
   have az:Hid (¬ ∀ u ∈ uxB (x,c),gV f u):=h! (fun h=>by
    have h9:=HQ.out.symm
    rw [eM] at h9
    obtain ⟨v,hv,hQ⟩:=h9
    obtain ⟨i,hi⟩:=bJ.1 hv
    have fh:=(aD.1 hi).1
    have hu:(⟨v,(shp0 y.op).args.getD i 0,c,j2,0⟩ : UseD) ∈ uxI c (y,j2):=by
     unfold uxI
     rw [bB]
     refine ⟨(v,(shp0 y.op).args.getD i 0), ?_,rfl⟩
     have dx:(y.args.zip (shp0 y.op).args)[i]? = some (v,(shp0 y.op).args.getD i 0):=cX.2 ⟨hi,fI _ i (by rw [<-fF.out];exact fh)⟩
     exact aG dx
    exact (HG.out v).1 hQ ((cz.out _ hu).1 (h _ (et.out _ hu))))
   go_wp2
   go_ret
   exact ⟨false,rfl,⟨(fun h=>by cases h),(fun h=>absurd h az.out)⟩,HW.out⟩
  have gv:j2=cl:=by omega
  have cF:Hid (∀ u ∈ x.code.zipIdx.flatMap (uxI c),gV f u):=h! (by
   have h9:=cd.out
   rw [aJ (by rw [dY];have:=dy.out;omega)] at h9
   exact h9)
  have fd:Hid (iR f.blocks.length x.term=true):=h! (by
   have h9:=(eY ax.out).1
   unfold gW at h9
   simp only [aK,aZ] at h9
   have h8:=h9.2 (x,c) (by rw [bT];exact HX.out)
   unfold gA at h8
   simp only [aK] at h8
   exact h8.2)
  have cL:Hid ((∀ u ∈ uxT c x,gV f u) -> ∀ u ∈ uxB (x,c),gV f u):=h! (fun h u hu=>by
   unfold uxB at hu
   rcases aL.1 hu with hu | hu
   ·rcases aL.1 hu with hu | hu
    ·exact fb.out u hu
    exact cF.out u hu
   exact h u hu)
  have gc:Hid (∀ u ∈ uxT c x,u ∈ uxB (x,c)):=h! (fun u hu=>by unfold uxB;exact aL.2 (.inr hu))
  clear gv cd
  go_upto_region 19 with (fail)
  have dk:w5.heap.size ≠ w.heap.size:=fun e=>by have:=ae;omega
  have nB1BT:w.heap.size ≠ w5.heap.size:=fun e=>dk e.symm
  have cx:w5.heap.size ≠ w.heap.size+1:=fun e=>by have:=ag;omega
  have nB2BT:w.heap.size+1 ≠ w5.heap.size:=fun e=>cx e.symm
  have cs:w5.heap.size ≠ aq:=fun e=>by have:=ah;omega
  have nBKBT:aq ≠ w5.heap.size:=fun e=>cs e.symm
  clear ae am aj ag ai ak ah ao an
  have ad:=(Below.refl w5.heap.size w5).alloc (aC _) (.cells #[.int .i64 x.term.op,.int .i64 x.term.val,.slice bc x.term.to.length ba,.int .i64 x.term.n] 61)
  replace B1:=h! (B1.out.later ad)
  replace B2:=h! (B2.out.later ad)
  replace BK:=h! (BK.out.later ad)
  replace HW:=h! (HW.out.trans (ad.mono HW.out.size))
  clear ad
  have BT:=h! (Box.new w5 #[.int .i64 x.term.op,.int .i64 x.term.val,.slice bc x.term.to.length ba,.int .i64 x.term.n] 61)
  generalize w5.alloc (.cells #[.int .i64 x.term.op,.int .i64 x.term.val,.slice bc x.term.to.length ba,.int .i64 x.term.n] 61)=w6 at *
  obtain ⟨ae,am,aj⟩:=B1.out
  obtain ⟨ag,ai,ak⟩:=B2.out
  obtain ⟨ah,ao,an⟩:=BK.out
  obtain ⟨gg,fM,fp⟩:=BT.out
  by_cases h23:x.term.op=2 \/ x.term.op=3
  ·have hu:∃ t,(⟨x.term.val,t,c,x.code.length,0⟩ : UseD) ∈ uxT c x /\ ∀ u ∈ uxT c x,u=⟨x.term.val,t,c,x.code.length,0⟩:=by
    unfold uxT
    rcases h23 with h | h
    ·rw [if_pos h];exact ⟨2,by simp,by simp⟩
    ·rw [if_neg (by omega),if_pos h];exact ⟨0,by simp,by simp⟩
   obtain ⟨t,ff,fq⟩:=hu
   obtain ⟨d,k,aw,cm,cj⟩:=mO ax.out (oE HX.out (gc.out _ ff))
   have hv0:¬ x.term.val < 0:=by
    have h9:=aE8 ax.out (eH aw)
    simp only at h9
    omega
   have ho4:(x.term.op == 4)=false:=by simp;omega
   have ho1:(x.term.op == 1)=false:=by simp;omega
   have ci:=HS.out.later HW.out
   rw [cn.out] at ci
   have HA:=h! (ahead ci HO.out HD.out ax.out (at_:=(x.code.length:Int)) aw ⟨cm,cj⟩ (b:=(c:Int)) ⟨by omega,by rw [<-cn.out];omega⟩)
   rw [<-dy.out] at HA
   have cz:Hid (gV f ⟨x.term.val,t,c,x.code.length,0⟩ ↔ kI f d k c x.code.length):=h! (by
    rw [sT aw]
    have hn:¬ ((x.code.length:Nat):Int) < 0:=by omega
    exact ⟨fun h=>h.elim (fun h=>absurd h.1 hn) (fun h=>h.2),fun h=>.inr ⟨hn,h⟩⟩)
   have gm:=h! ff
   have hH:=h! fq
   clear h23 ff fq aw cm cj ci
   go_wp2_with fail
   refine HA.out.mono ?_
   rintro e w7 ⟨r,rfl,hr,hb⟩
   rw [dy.out] at hr
   have HR:=h! hr
   clear hr HA
   clear ae am aj ag ai ak ah ao an gg fM fp
   replace B1:=h! (B1.out.later hb)
   replace B2:=h! (B2.out.later hb)
   replace BK:=h! (BK.out.later hb)
   replace BT:=h! (BT.out.later hb)
   replace HW:=h! (HW.out.trans (hb.mono HW.out.size))
   clear hb
   obtain ⟨ae,am,aj⟩:=B1.out
   obtain ⟨ag,ai,ak⟩:=B2.out
   obtain ⟨ah,ao,an⟩:=BK.out
   obtain ⟨gg,fM,fp⟩:=BT.out
   cases r
   ·have az:Hid (¬ ∀ u ∈ uxB (x,c),gV f u):=h! (fun h=>by have:=HR.out.2 (cz.out.1 (h _ (gc.out _ gm.out)));simp at this)
    go_wp2
    go_ret
    exact ⟨false,rfl,⟨(fun h=>by cases h),(fun h=>absurd h az.out)⟩,HW.out⟩
   ·have bp:Hid (∀ u ∈ uxB (x,c),gV f u):=h! (cL.out (fun u hu=>by rw [hH.out u hu];exact cz.out.2 (HR.out.1 (by trivial))))
    go_wp2
    go_ret
    exact ⟨true,rfl,⟨(fun _=>bp.out),(fun _=>by trivial)⟩,HW.out⟩
  have ei:x.term.val = -1:=by
   have h9:=fd.out
   unfold iR at h9
   simp at h9
   omega
  have hneg:x.term.val < 0:=by omega
  have bp:Hid (∀ u ∈ uxB (x,c),gV f u):=h! (cL.out (fun u hu=>by
   unfold uxT at hu
   rw [if_neg (fun h=>h23 (.inl h)),if_neg (fun h=>h23 (.inr h))] at hu
   cases hu))
  clear h23 ei
  go_wp2
  go_ret
  exact ⟨true,rfl,⟨(fun _=>bp.out),(fun _=>by trivial)⟩,HW.out⟩
end
end Go.Proofs.YtagabiidbbhhmaaGreat
