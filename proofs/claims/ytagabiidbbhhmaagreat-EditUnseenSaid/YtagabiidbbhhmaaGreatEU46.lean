/- Part 46. -/
import Derived.WalkSmall
import Derived.Test.YtagabiidbbhhmaaGreatEU45
namespace Go.Proofs.YtagabiidbbhhmaaGreat
set_option maxHeartbeats 25600000
set_option linter.all false
open Go.RowKit
private theorem fN.alloc {w0 W:World} (h:fN w0 W) (o:Obj):fN w0 (W.alloc o):=h.later ((Below.refl _ _).alloc (aC _) o)
def pP (k:FuncId) (cap:Array Value) (to:Int -> Int) (D:Foot) (w:World):Prop := ∀ (W:World) (v:Int),In64 v -> Off D w W -> Calls Tryz.prog k (#[.int .i64 v] ++ cap) W fun e W'=>e = .returned (.int .i64 (to v))/\Below W.heap.size W W'
theorem pP.off {k:FuncId} {cap:Array Value} {to:Int -> Int} {D:Foot} {w W:World} (h:pP k cap to D w) (ho:Off D w W):pP k cap to D W:=fun W' v hv h2=>h W' v hv (ho.trans h2)
def zR (w:World) (g o:Nat) (x:BlockD) (ap ai:Option Addr) (cp ci:Nat) (S1 S2:Foot) (to:Int -> Int) (e:Ending) (w' : World):Prop :=
 ∃ W1,e = .returned (.tuple #[])/\Off (S1.or S2) w W1/\fV W1 S1 (.slice ap x.phis.length cp) (x.phis.map (mapP to))/\gX W1 S2 (.slice ai x.code.length ci) (x.code.map (mapX to)) /\
  (((x.term.op=2 \/ x.term.op=3)/\w' = W1.setCell ⟨g,o+3,none⟩ (.int .i64 (to x.term.val))) \/ (¬ (x.term.op=2 \/ x.term.op=3)/\w' = W1))
set_option maxRecDepth 100000 in
theorem rK {w:World} {g o:Nat} {x:BlockD} {ap ai at_:Option Addr} {cp ci ct:Nat} {S1 S2 D:Foot} {k:FuncId} {cap:Array Value} {to:Int -> Int} (hC:BlockC w g o x ap ai at_ cp ci ct) (hgl:g < w.heap.size) (hfr:∀ o,w.frozen? ⟨g,o,none⟩=false)
  (h1:fV w S1 (.slice ap x.phis.length cp) x.phis) (h2:gX w S2 (.slice ai x.code.length ci) x.code) (n1:¬ S1 g) (n2:¬ S2 g) (h12:S1.off S2) (d1:∀ q,S1 q -> D q) (d2:∀ q,S2 q -> D q)
  (eg:Enters Tryz.prog k) (hto:∀ v,In64 v -> In64 (to v)) (hstep:pP k cap to D w) :
  Calls Tryz.prog 92 #[.pointer (some ⟨g,o,none⟩),.func (.func k) #[] cap] w (zR w g o x ap ai cp ci S1 S2 to):=by
 have eg1:∀ (args:Array Value) (w:World),(callFunc k args).run Tryz.prog w = .ok (.enter k args) w:=eg
 have c0:=hC.c0
 have c1:=hC.c1
 have c2:=hC.c2
 have c3:=hC.c3
 have dj:=h! c1
 have dv:=h! c2
 have dw:=h! c3
 have cb:=h! hC.val64
 have ds:=h! hfr
 have H1:=h! h1
 have H2:=h! h2
 have dm:=h! h12
 have bw:=h! d1
 have co:=h! d2
 have di:=h! hto
 have cn:=h! hstep
 have dl:=h! n1
 have dr:=h! n2
 have dn:x.phis.length <= 17592186044416:=by obtain ⟨cs,G,F,hp⟩:=h1;exact hp.row.big
 have cm:x.code.length <= 17592186044416:=by obtain ⟨cs,G,F,hp⟩:=h2;exact hp.row.big
 obtain ⟨np,cF⟩ : ∃ np,np=x.phis.length:=⟨_,rfl⟩
 obtain ⟨nc,cL⟩ : ∃ nc,nc=x.code.length:=⟨_,rfl⟩
 rw [<-cF] at c0 H1 dn
 rw [<-cL] at dj H2 cm
 have br:=h! cF
 have bj:=h! cL
 clear c1 c2 c3 hC hfr h1 h2 h12 d1 d2 hto hstep n1 n2 cF cL
 go_enter Tryz.func92,Tryz.ntmps92
 go_wp2_with fail
 clear c0
 go_loopw [17] (fun iv wr => ∃ i:Nat,i <= np/\iv = .int .i64 i/\fV wr S1 (.slice ap np cp) (gP (mapP to) x.phis i)/\Off S1 w wr) (fun iv _=>np - (intOf iv).toNat)
 case atStart=>exact ⟨0,aH _,rfl,by rw [gS];exact H1.out,Off.refl _ _⟩
 case round =>
  obtain ⟨i,hi,rfl,cl,ho⟩:=hrel
  have am:=h! ho
  have az:=h! cl
  clear cl ho
  by_cases hlt:i < np
  ·obtain ⟨p,hp⟩ : ∃ p,x.phis[i]? = some p:=⟨_,aB (by rw [<-br.out];exact hlt)⟩
   obtain ⟨g1,cy,af,av,cf,cv,Sv,hv,cB,dd,ay,bi,bh,bz,dg,ac⟩:=fV.vals az.out (j:=i) (p:=p) (by rw [iB];exact hp)
   rw [fD, <-br.out] at hv
   injection hv with e1 e2 e3
   subst e1
   subst e3
   have HP:=h! hp
   have bc:=h! bh
   have cd:=h! bz
   have bs:=h! ac
   have m0:=ay.c0
   have m1:=ay.c1
   have m2:=ay.c2
   have m3:=ay.c3
   have de:p.vals.length <= 17592186044416:=bh.1.big
   obtain ⟨nv,ah⟩ : ∃ nv,nv=p.vals.length:=⟨_,rfl⟩
   obtain ⟨nf,dk⟩ : ∃ nf,nf=p.src.length:=⟨_,rfl⟩
   rw [<-ah] at m3 bc bs de
   rw [<-dk] at m2
   have al:=h! ah
   clear hp bh bz ac ay dd bi dg ah dk e2
   go_upto_region 3 with (fail)
   clear m0 m1 m2 m3
   have ba:Hid (Below wr.heap.size wr (wr.alloc (.cells #[.int .i64 p.id,.int .i64 p.typ,.slice af nf cf,.slice av nv cv] 78))):=h! ((Below.refl _ _).alloc (aC _) _)
   have B5:=h! (Box.new wr #[.int .i64 p.id,.int .i64 p.typ,.slice af nf cf,.slice av nv cv] 78)
   obtain ⟨b5,bp⟩ : ∃ b5,b5=wr.heap.size:=⟨_,rfl⟩
   have df:Hid (∀ q,Sv q -> q < b5):=h! (fun q hq=>by rw [bp];exact bc.out.lt q hq)
   rw [<-bp] at B5 ⊢
   generalize wr.alloc (.cells #[.int .i64 p.id,.int .i64 p.typ,.slice af nf cf,.slice av nv cv] 78)=w5 at *
   have ce:Hid (Off S1 w w5):=h! (am.out.trans (Off.of_below ba.out _))
   have ch:Hid (eR w5 Sv (.slice av nv cv) p.vals):=h! (bc.out.off (Off.of_below ba.out Foot.none) (fun _ _ h=>h))
   have be:Hid (∀ (W' : World) (vals:List Int),Off Sv w5 W' -> eR W' Sv (.slice av nv cv) vals -> fV W' S1 (.slice (some ⟨g1,0,none⟩) np cp) ((gP (mapP to) x.phis i).set i { p with vals:=vals })):=h! (fun W' vals h3 h4=>bs.out W' vals ((Off.of_below ba.out _).trans h3) h4)
   clear bp ba bc bs az am
   obtain ⟨l5,k5,f5⟩:=B5.out
   go_wp2_with fail
   clear l5 k5 f5
   go_loopw [24] (fun iv wr => ∃ q:Nat,q <= nv/\iv = .int .i64 q/\eR wr Sv (.slice av nv cv) (gP to p.vals q)/\Off Sv w5 wr) (fun iv _=>nv - (intOf iv).toNat)
   case atStart=>exact ⟨0,aH _,rfl,by rw [gS];exact ch.out,Off.refl _ _⟩
   obtain ⟨q,hq,rfl,cg,ho⟩:=hrel
   have bt:=h! cg
   have ab:=h! ho
   clear cg ho
   by_cases hqt:q < nv
   ·obtain ⟨v,hv⟩ : ∃ v,p.vals[q]? = some v:=⟨_,aB (by rw [<-al.out];exact hqt)⟩
    obtain ⟨gv,cw,cc,aq,ar,ad,ao, -⟩:=bt.out.addr (i:=q) (x:=v) (by rw [iB];exact hv)
    rw [fD, <-al.out] at cc
    injection cc with e1 e2 e3
    subst e1
    subst e3
    have ax:=ch.out.2 v (aG hv)
    have cM:=h! hv
    have bO:=h! ax
    have cz:=h! aq
    have bl:=h! ao
    have bm:=h! ad
    have an:Hid (fN wr wr):=h! (Below.refl _ _)
    have ak:Hid (Box wr b5 #[.int .i64 p.id,.int .i64 p.typ,.slice af nf cf,.slice (some ⟨gv,0,none⟩) nv cv]):=h! (B5.out.off ab.out (fun h=>by have:=df.out _ h;omega))
    clear hv aq ao e2 ax
    obtain ⟨ag,aj,ae⟩:=ak.out
    go_upto_region 6 with (fail)
    clear ad
    refine wp_region_grow 7 (fun kz=>match kz with | 5=>.const (.int .i64 (to v)) | _=>.plain) (by kernel_rfl) (by kernel_rfl) ?_ (fun ν => ?_)
    ·(intro k;(try dsimp only);split <;> first | exact True.intro | (intro u w1 w2 hu hb;exact hu.below hb))
    simp only [aP,aU,aS,aX]
    iterate 5 (refine Grow.val (v := ?_) rfl rfl (fun wg hbg hdg => ?_) ?_;rotate_left;(focus ((obtain ⟨lg0,cg0,fg0⟩:=ak.out.later hbg);clear hbg hdg;first | (go_simp;done) | (go_simp;with_reducible rfl)));simp only [Act.put,aA,aE,aF])
    refine Grow.call (f := ?_) (args := ?_) rfl (fun wg => ?_) (fun wg hbg hdg => ?_) ?_
    rotate_left 2
    focus (first | (go_simp;done) | (go_simp;refine And.intro ?_ ?_ <;> with_reducible rfl) | (go_simp;with_reducible rfl))
    focus exact Calls.mono (cn.out wg v bO.out (((ce.out.mono fun q _ h=>bw.out q h).trans (ab.out.mono fun q _ h=>bw.out q (cd.out q h))).trans (Off.of_below hbg D))) (fun e w2 ⟨he,cm⟩=>⟨_,he,rfl,cm⟩)
    simp only [Act.put,Known.val,aA,aE,aF]
    refine Grow.val (v := ?_) rfl rfl (fun wg hbg hdg => ?_) ?_
    rotate_left
    focus ((obtain ⟨lg0,cg0,fg0⟩:=ak.out.later hbg);clear hbg hdg;first | (go_simp;done) | (go_simp;with_reducible rfl))
    simp only [Act.put,aA,aE,aF]
    intro wg hb hf cr
    clear cr
    clear ag aj ae
    replace ak:=h! (ak.out.later hb)
    replace an:=h! (an.out.later hb)
    obtain ⟨ag,aj,ae⟩:=ak.out
    clear hf
    have bk:=(an.out.cell (p:=⟨gv,q,none⟩) ar).trans bm.out
    have bo:∀ o,wg.frozen? ⟨gv,o,none⟩=false:=fun o=>(an.out.frozen (p:=⟨gv,o,none⟩) ar).trans (bl.out o)
    have bf:Hid (eR (wg.setCell ⟨gv,q,none⟩ (.int .i64 (to v))) Sv (.slice (some ⟨gv,0,none⟩) nv cv) (gP to p.vals (q+1))):=h! (by
     have h9:=eR.set (bt.out.off (Off.of_below an.out Foot.none) (fun _ _ h=>h)) (g:=gv) (cap:=cv) (by rw [fD, <-al.out]) (i:=q) (by rw [fD, <-al.out];exact hqt) (di.out v bO.out)
     rw [hJ cM.out] at h9
     exact h9)
    have bd:Hid (Off Sv w5 (wg.setCell ⟨gv,q,none⟩ (.int .i64 (to v)))):=h! ((ab.out.trans (Off.of_below an.out _)).trans ((Off.set wg ⟨gv,q,none⟩ _).mono fun z _ hz=>by have h9:z=gv:=hz;rw [h9];exact cz.out))
    clear ag aj ae
    go_wp2
    clear bk bo
    go_roundw
    case rel=>exact ⟨q+1,hqt,by go_num,bf.out,bd.out⟩
    simp [intOf];omega
   obtain rfl:nv=q:=by omega
   have bf:Hid (fV wr S1 (.slice (some ⟨g1,0,none⟩) np cp) (gP (mapP to) x.phis (i+1))):=h! (by
    have h9:=bt.out
    rw [al.out,iE, <-al.out] at h9
    have h8:=be.out wr _ ab.out h9
    have h7:=hJ (g:=mapP to) HP.out
    rw [<-h7]
    exact h8)
   have bd:Hid (Off S1 w wr):=h! (ce.out.trans (ab.out.mono fun z _ hz=>cd.out z hz))
   go_wp2
   go_roundw
   case rel=>exact ⟨i+1,hlt,by go_num,bf.out,bd.out⟩
   simp [intOf];omega
  obtain rfl:np=i:=by omega
  have db:Hid (fV wr S1 (.slice ap np cp) (x.phis.map (mapP to))):=h! (by have h9:=az.out;rw [br.out,iE, <-br.out] at h9;exact h9)
  obtain ⟨W2,dh⟩ : ∃ W2,W2=wr:=⟨_,rfl⟩
  rw [<-dh] at db am ⊢
  clear dh
  have c1:=(am.out.cell (b:=g) (o:=o+1) hgl dl.out).trans dj.out
  have da:Hid (gX W2 S2 (.slice ai nc ci) x.code):=h! (H2.out.off OInstr.nice am.out (fun z a b=>dm.out z b a))
  have cx:=am
  clear az hlt hi am
  go_wp2_with fail
  clear c1
  go_loopw [43] (fun iv wr => ∃ i:Nat,i <= nc/\iv = .int .i64 i/\gX wr S2 (.slice ai nc ci) (gP (mapX to) x.code i)/\Off S2 W2 wr) (fun iv _=>nc - (intOf iv).toNat)
  case atStart=>exact ⟨0,aH _,rfl,by rw [gS];exact da.out,Off.refl _ _⟩
  obtain ⟨i,hi,rfl,cl,ho⟩:=hrel
  have am:=h! ho
  have az:=h! cl
  clear cl ho
  by_cases hlt:i < nc
  ·obtain ⟨y,hy⟩ : ∃ y,x.code[i]? = some y:=⟨_,aB (by rw [<-bj.out];exact hlt)⟩
   obtain ⟨g1,cy,aa,ca,Sv,hv,cB,dd,ay,bi,bh,bz,dg,ac⟩:=gX.open az.out (j:=i) (y:=y) (by rw [iB];exact hy)
   rw [fD, <-bj.out] at hv
   injection hv with e1 e2 e3
   subst e1
   subst e3
   have HP:=h! hy
   have bc:=h! bh
   have cd:=h! bz
   have bs:=h! ac
   have m0:=ay.c0
   have m1:=ay.c1
   have m2:=ay.c2
   have m3:=ay.c3
   have de:y.args.length <= 17592186044416:=bh.1.big
   obtain ⟨nv,ah⟩ : ∃ nv,nv=y.args.length:=⟨_,rfl⟩
   rw [<-ah] at m2 bc bs de
   have al:=h! ah
   clear hy bh bz ac ay dd bi dg ah e2
   go_upto_region 12 with (fail)
   clear m0 m1 m2 m3
   have ba:Hid (Below wr.heap.size wr (wr.alloc (.cells #[.int .i64 y.op,.int .i64 y.id,.slice aa nv ca,.int .i64 y.n] 82))):=h! ((Below.refl _ _).alloc (aC _) _)
   have B5:=h! (Box.new wr #[.int .i64 y.op,.int .i64 y.id,.slice aa nv ca,.int .i64 y.n] 82)
   obtain ⟨b5,bp⟩ : ∃ b5,b5=wr.heap.size:=⟨_,rfl⟩
   have df:Hid (∀ q,Sv q -> q < b5):=h! (fun q hq=>by rw [bp];exact bc.out.lt q hq)
   rw [<-bp] at B5 ⊢
   generalize wr.alloc (.cells #[.int .i64 y.op,.int .i64 y.id,.slice aa nv ca,.int .i64 y.n] 82)=w5 at *
   have ce:Hid (Off S2 W2 w5):=h! (am.out.trans (Off.of_below ba.out _))
   have ch:Hid (eR w5 Sv (.slice aa nv ca) y.args):=h! (bc.out.off (Off.of_below ba.out Foot.none) (fun _ _ h=>h))
   have be:Hid (∀ (W' : World) (args:List Int),Off Sv w5 W' -> eR W' Sv (.slice aa nv ca) args -> gX W' S2 (.slice (some ⟨g1,0,none⟩) nc ci) ((gP (mapX to) x.code i).set i { y with args:=args })):=h! (fun W' args h3 h4=>bs.out W' args ((Off.of_below ba.out _).trans h3) h4)
   clear bp ba bc bs az am
   obtain ⟨l5,k5,f5⟩:=B5.out
   go_wp2_with fail
   clear l5 k5 f5
   go_loopw [50] (fun iv wr => ∃ q:Nat,q <= nv/\iv = .int .i64 q/\eR wr Sv (.slice aa nv ca) (gP to y.args q)/\Off Sv w5 wr) (fun iv _=>nv - (intOf iv).toNat)
   case atStart=>exact ⟨0,aH _,rfl,by rw [gS];exact ch.out,Off.refl _ _⟩
   obtain ⟨q,hq,rfl,cg,ho⟩:=hrel
   have bt:=h! cg
   have ab:=h! ho
   clear cg ho
   by_cases hqt:q < nv
   ·obtain ⟨v,hv⟩ : ∃ v,y.args[q]? = some v:=⟨_,aB (by rw [<-al.out];exact hqt)⟩
    obtain ⟨gv,cw,cc,aq,ar,ad,ao, -⟩:=bt.out.addr (i:=q) (x:=v) (by rw [iB];exact hv)
    rw [fD, <-al.out] at cc
    injection cc with e1 e2 e3
    subst e1
    subst e3
    have ax:=ch.out.2 v (aG hv)
    have cM:=h! hv
    have bO:=h! ax
    have cz:=h! aq
    have bl:=h! ao
    have bm:=h! ad
    have an:Hid (fN wr wr):=h! (Below.refl _ _)
    have ak:Hid (Box wr b5 #[.int .i64 y.op,.int .i64 y.id,.slice (some ⟨gv,0,none⟩) nv ca,.int .i64 y.n]):=h! (B5.out.off ab.out (fun h=>by have:=df.out _ h;omega))
    clear hv aq ao e2 ax
    obtain ⟨ag,aj,ae⟩:=ak.out
    go_upto_region 15 with (fail)
    clear ad
    refine wp_region_grow 7 (fun kz=>match kz with | 5=>.const (.int .i64 (to v)) | _=>.plain) (by kernel_rfl) (by kernel_rfl) ?_ (fun ν => ?_)
    ·(intro k;(try dsimp only);split <;> first | exact True.intro | (intro u w1 w2 hu hb;exact hu.below hb))
    simp only [aP,aU,aS,aX]
    iterate 5 (refine Grow.val (v := ?_) rfl rfl (fun wg hbg hdg => ?_) ?_;rotate_left;(focus ((obtain ⟨lg0,cg0,fg0⟩:=ak.out.later hbg);clear hbg hdg;first | (go_simp;done) | (go_simp;with_reducible rfl)));simp only [Act.put,aA,aE,aF])
    refine Grow.call (f := ?_) (args := ?_) rfl (fun wg => ?_) (fun wg hbg hdg => ?_) ?_
    rotate_left 2
    focus (first | (go_simp;done) | (go_simp;refine And.intro ?_ ?_ <;> with_reducible rfl) | (go_simp;with_reducible rfl))
    focus exact Calls.mono (cn.out wg v bO.out ((((cx.out.mono fun q _ h=>bw.out q h).trans (ce.out.mono fun q _ h=>co.out q h)).trans (ab.out.mono fun q _ h=>co.out q (cd.out q h))).trans (Off.of_below hbg D))) (fun e w2 ⟨he,cm⟩=>⟨_,he,rfl,cm⟩)
    simp only [Act.put,Known.val,aA,aE,aF]
    refine Grow.val (v := ?_) rfl rfl (fun wg hbg hdg => ?_) ?_
    rotate_left
    focus ((obtain ⟨lg0,cg0,fg0⟩:=ak.out.later hbg);clear hbg hdg;first | (go_simp;done) | (go_simp;with_reducible rfl))
    simp only [Act.put,aA,aE,aF]
    intro wg hb hf cr
    clear cr
    clear ag aj ae
    replace ak:=h! (ak.out.later hb)
    replace an:=h! (an.out.later hb)
    obtain ⟨ag,aj,ae⟩:=ak.out
    clear hf
    have bk:=(an.out.cell (p:=⟨gv,q,none⟩) ar).trans bm.out
    have bo:∀ o,wg.frozen? ⟨gv,o,none⟩=false:=fun o=>(an.out.frozen (p:=⟨gv,o,none⟩) ar).trans (bl.out o)
    have bf:Hid (eR (wg.setCell ⟨gv,q,none⟩ (.int .i64 (to v))) Sv (.slice (some ⟨gv,0,none⟩) nv ca) (gP to y.args (q+1))):=h! (by
     have h9:=eR.set (bt.out.off (Off.of_below an.out Foot.none) (fun _ _ h=>h)) (g:=gv) (cap:=ca) (by rw [fD, <-al.out]) (i:=q) (by rw [fD, <-al.out];exact hqt) (di.out v bO.out)
     rw [hJ cM.out] at h9
     exact h9)
    have bd:Hid (Off Sv w5 (wg.setCell ⟨gv,q,none⟩ (.int .i64 (to v)))):=h! ((ab.out.trans (Off.of_below an.out _)).trans ((Off.set wg ⟨gv,q,none⟩ _).mono fun z _ hz=>by have h9:z=gv:=hz;rw [h9];exact cz.out))
    clear ag aj ae
    go_wp2
    clear bk bo
    go_roundw
    case rel=>exact ⟨q+1,hqt,by go_num,bf.out,bd.out⟩
    simp [intOf];omega
   obtain rfl:nv=q:=by omega
   have bf:Hid (gX wr S2 (.slice (some ⟨g1,0,none⟩) nc ci) (gP (mapX to) x.code (i+1))):=h! (by
    have h9:=bt.out
    rw [al.out,iE, <-al.out] at h9
    have h8:=be.out wr _ ab.out h9
    have h7:=hJ (g:=mapX to) HP.out
    rw [<-h7]
    exact h8)
   have bd:Hid (Off S2 W2 wr):=h! (ce.out.trans (ab.out.mono fun z _ hz=>cd.out z hz))
   go_wp2
   go_roundw
   case rel=>exact ⟨i+1,hlt,by go_num,bf.out,bd.out⟩
   simp [intOf];omega
  obtain rfl:nc=i:=by omega
  have cG:Hid (gX wr S2 (.slice ai nc ci) (x.code.map (mapX to))):=h! (by have h9:=az.out;rw [bj.out,iE, <-bj.out] at h9;exact h9)
  have bv:Hid (fV wr S1 (.slice ap np cp) (x.phis.map (mapP to))):=h! (db.out.off OPhi.nice am.out dm.out)
  have bb:Hid (Off (S1.or S2) w wr):=h! ((cx.out.mono fun q _ h=>.inl h).trans (am.out.mono fun q _ h=>.inr h))
  have dc:¬ (S1.or S2) g:=fun h=>h.elim dl.out dr.out
  have c2:=(bb.out.cell (b:=g) (o:=o+2) hgl dc).trans dv.out
  have c3:=(bb.out.cell (b:=g) (o:=o+3) hgl dc).trans dw.out
  have cq:g < wr.heap.size:=aR hgl bb.out.size
  have ck:Hid (∀ o,wr.frozen? ⟨g,o,none⟩=false):=h! (fun o=>(bb.out.frozen (b:=g) (o:=o) hgl dc).trans (ds.out o))
  have bx:=h! c3
  clear az hlt hi am db cx
  obtain ⟨top,bq⟩ : ∃ top,top=x.term.op:=⟨_,rfl⟩
  rw [<-bq] at c2
  have bg:=h! bq
  clear bq
  by_cases ho2:top=2
  ·have hq:(top == 2)=true:=by simpa using ho2
   have cj:Hid (x.term.op=2 \/ x.term.op=3):=h! (.inl (by rw [<-bg.out];exact ho2))
   clear ho2
   have aw:=h! (cn.out wr x.term.val cb.out (bb.out.mono fun q _ h=>h.elim (bw.out q) (co.out q)))
   go_wp2_with (go_at_fn k;refine aw.out.mono ?_;rintro e w9 ⟨rfl,hb⟩;have bn:=h! hb;have dt:=(hb.cell (p:=⟨g,o+3,none⟩) cq).trans bx.out;have dq:∀ o,w9.frozen? ⟨g,o,none⟩=false:=(fun o=>(hb.frozen (p:=⟨g,o,none⟩) cq).trans (ck.out o));clear hb)
   refine bodyPost_end (v:=.tuple #[]) (by simp [results,Tryz.results92,go_sem, *]) rfl ⟨w9,rfl,bb.out.trans (Off.of_below bn.out _),by rw [<-br.out];exact bv.out.off OPhi.nice (Off.of_below bn.out Foot.none) (fun _ _ h=>h),by rw [<-bj.out];exact cG.out.off OInstr.nice (Off.of_below bn.out Foot.none) (fun _ _ h=>h),.inl ⟨cj.out,rfl⟩⟩
  have hq:(top == 2)=false:=by simpa using ho2
  by_cases ho3:top=3
  ·have dp:(top == 3)=true:=by simpa using ho3
   have cj:Hid (x.term.op=2 \/ x.term.op=3):=h! (.inr (by rw [<-bg.out];exact ho3))
   clear ho2 ho3
   have aw:=h! (cn.out wr x.term.val cb.out (bb.out.mono fun q _ h=>h.elim (bw.out q) (co.out q)))
   go_wp2_with (go_at_fn k;refine aw.out.mono ?_;rintro e w9 ⟨rfl,hb⟩;have bn:=h! hb;have dt:=(hb.cell (p:=⟨g,o+3,none⟩) cq).trans bx.out;have dq:∀ o,w9.frozen? ⟨g,o,none⟩=false:=(fun o=>(hb.frozen (p:=⟨g,o,none⟩) cq).trans (ck.out o));clear hb)
   refine bodyPost_end (v:=.tuple #[]) (by simp [results,Tryz.results92,go_sem, *]) rfl ⟨w9,rfl,bb.out.trans (Off.of_below bn.out _),by rw [<-br.out];exact bv.out.off OPhi.nice (Off.of_below bn.out Foot.none) (fun _ _ h=>h),by rw [<-bj.out];exact cG.out.off OInstr.nice (Off.of_below bn.out Foot.none) (fun _ _ h=>h),.inl ⟨cj.out,rfl⟩⟩
  have dp:(top == 3)=false:=by simpa using ho3
  have cj:Hid (¬ (x.term.op=2 \/ x.term.op=3)):=h! (by rw [<-bg.out];exact fun h=>h.elim ho2 ho3)
  clear ho2 ho3
  go_wp2
  refine bodyPost_end (v:=.tuple #[]) (by simp [results,Tryz.results92,go_sem, *]) rfl ⟨wr,rfl,bb.out,by rw [<-br.out];exact bv.out,by rw [<-bj.out];exact cG.out,.inr ⟨cj.out,rfl⟩⟩
def MapR (w:World) (S:Foot) (bv:Value) (xs:List BlockD) (to:Int -> Int) (e:Ending) (w' : World):Prop:=e = .returned (.tuple #[])/\Off S w w' /\ eX w' S bv (xs.map (mapB to))
theorem aB7 {W W1 w9:World} {S S1 S2:Foot} {xs:List BlockD} {ab:Option Addr} {cb g i:Nat} {x:BlockD} {to:Int -> Int} (hx:xs[i]? = some x) (hto:In64 (to x.term.val)) (hg:ab=some ⟨g,0,none⟩)
  (h1:eX W1 S (.slice ab xs.length cb) ((gP (mapB to) xs i).set i { x with phis:=x.phis.map (mapP to),code:=x.code.map (mapX to) }))
  (hc:((x.term.op=2 \/ x.term.op=3)/\w9=W1.setCell ⟨g,i * 6+3,none⟩ (.int .i64 (to x.term.val))) \/ (¬ (x.term.op=2 \/ x.term.op=3)/\w9=W1)) :
  eX w9 S (.slice ab xs.length cb) (gP (mapB to) xs (i+1)):=by
 have aa:i < xs.length:=(aD.1 hx).1
 rw [<-hJ (g:=mapB to) hx]
 rcases hc with ⟨ho,rfl⟩ | ⟨ho,rfl⟩
 ·have h2:=eX.val h1 (j:=i) (x := { x with phis:=x.phis.map (mapP to),code:=x.code.map (mapX to) }) (by rw [dX (by rw [fD];exact aa)]) (g:=g) (cap:=cb) (by rw [bQ,fD,hg]) hto
  rw [List.set_set] at h2
  have e:mapB to x = { x with phis:=x.phis.map (mapP to),code:=x.code.map (mapX to),term := { x.term with val:=to x.term.val } }:=by
   rw [zG];unfold mapT;rw [if_pos ho]
  rw [e];exact h2
 ·have e:mapB to x = { x with phis:=x.phis.map (mapP to),code:=x.code.map (mapX to) }:=by
   rw [zG];unfold mapT;rw [if_neg ho]
  rw [e];exact h1
set_option maxRecDepth 100000 in
theorem mapC {w:World} {b cb:Nat} {ab:Option Addr} {xs:List BlockD} {S:Foot} {k:FuncId} {cap:Array Value} {to:Int -> Int} (hc:w.cell? ⟨b,3,none⟩=some (.slice ab xs.length cb)) (hbl:b < w.heap.size) (hbS:¬ S b)
  (hO:eX w S (.slice ab xs.length cb) xs) (eg:Enters Tryz.prog k) (hto:∀ v,In64 v -> In64 (to v)) (hstep:pP k cap to S w) :
  Calls Tryz.prog 49 #[.pointer (some ⟨b,0,none⟩),.func (.func k) #[] cap] w (MapR w S (.slice ab xs.length cb) xs to):=by
 have HC:=h! hc
 have HO:=h! hO
 have aq:=h! hto
 have ba:=h! hstep
 have ay:=h! eg
 have bf:xs.length <= 17592186044416:=by obtain ⟨cs,G,F,hp⟩:=hO;exact hp.row.big
 obtain ⟨nb,ac⟩ : ∃ nb,nb=xs.length:=⟨_,rfl⟩
 rw [<-ac] at hc bf HC HO ⊢
 have ad:=h! ac
 have bb:=h! hbS
 clear hO hto hstep eg ac hbS
 go_enter Tryz.func49,Tryz.ntmps49
 go_wp2_with fail
 clear hc
 go_loopw [10] (fun iv wr => ∃ i:Nat,i <= nb/\iv = .int .i64 i/\eX wr S (.slice ab nb cb) (gP (mapB to) xs i)/\Off S w wr) (fun iv _=>nb - (intOf iv).toNat)
 case atStart=>exact ⟨0,aH _,rfl,by rw [gS];exact HO.out,Off.refl _ _⟩
 case round =>
  obtain ⟨i,hi,rfl,aw,ho⟩:=hrel
  have af:=h! ho
  have ah:=h! aw
  clear aw ho
  by_cases hlt:i < nb
  ·obtain ⟨x,hx⟩ : ∃ x,xs[i]? = some x:=⟨_,aB (by rw [<-ad.out];exact hlt)⟩
   obtain ⟨g,cap',ap,ai,at_,cp,ci,ct,S1,S2,hv,ao,ak,ag,ar,al,an,d1,d2,am,n1,n2,aa⟩:=eX.opened ah.out (j:=i) (x:=x) (by rw [iB];exact hx)
   rw [fD, <-ad.out] at hv
   injection hv with e1 e2 e3
   subst e1
   subst e3
   have HX:=h! hx
   have be:=h! aa
   have bc:=h! ak
   have ax:=h! d1
   have az:=h! d2
   have ae:=ag.val64
   have aj:=h! ae
   have HCALL:=h! (rK ag ao ar al an n1 n2 am d1 d2 ay.out aq.out (ba.out.off af.out))
   have c3:=(af.out.cell (b:=b) (o:=3) hbl bb.out).trans HC.out
   clear hx aa ak d1 d2 ag ar al an am n1 n2 e2 ao ae
   go_wp2_with (refine HCALL.out.mono ?_;rintro e w9 ⟨W1,rfl,hoff,hps,hcs,hcase⟩;have HNX:Hid (eX w9 S (.slice (some ⟨g,0,none⟩) nb cb) (gP (mapB to) xs (i+1))):=h! (by rw [ad.out];exact aB7 (W:=wr) (S1:=S1) (S2:=S2) HX.out (aq.out _ aj.out) rfl (by rw [<-ad.out];exact be.out W1 _ _ hoff hps hcs) hcase);have bd:Hid (Off S w w9):=h! (af.out.trans ((hoff.mono fun q _ h=>h.elim (ax.out q) (az.out q)).trans (by rcases hcase with ⟨_,rfl⟩ | ⟨_,rfl⟩;exact (Off.set W1 ⟨g,i * 6+3,none⟩ _).mono fun z _ hz=>(by have h9:z=g:=hz;rw [h9];exact bc.out);exact Off.refl _ _)));clear hoff hps hcs hcase c3)
   go_roundw
   case rel=>exact ⟨i+1,hlt,by go_num,HNX.out,bd.out⟩
   simp [intOf];omega
  obtain rfl:nb=i:=by omega
  have HE:Hid (eX wr S (.slice ab nb cb) (xs.map (mapB to))):=h! (by have h9:=ah.out;rw [ad.out,iE, <-ad.out] at h9;exact h9)
  clear ah
  go_wp2
  exact bodyPost_end (v:=.tuple #[]) (by simp [results,Tryz.results49,go_sem, *]) rfl ⟨rfl,af.out,HE.out⟩
open Go.RowKit Go.Shelf
def toP (ps:List (Int × Int)) (v:Int):Int:=(tyOf ps v).getD v
end Go.Proofs.YtagabiidbbhhmaaGreat
