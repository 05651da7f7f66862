/- Part 48. -/
import Derived.Test.YtagabiidbbhhmaaGreatER47
namespace Go.Proofs.YtagabiidbbhhmaaGreat
set_option maxHeartbeats 25600000
set_option linter.all false
open Go.RowKit
private theorem gA.alloc {w0 W:World} (h:gA w0 W) (o:Obj):gA w0 (W.alloc o):=h.later ((Below.refl _ _).alloc (aB _) o)
def sR (k:FuncId) (cap:Array Value) (to:Int -> Int) (D:Foot) (w:World):Prop := ∀ (W:World) (v:Int),In64 v -> Off D w W -> Calls Tryz.prog k (#[.int .i64 v] ++ cap) W fun e W'=>e = .returned (.int .i64 (to v))/\Below W.heap.size W W'
theorem sR.off {k:FuncId} {cap:Array Value} {to:Int -> Int} {D:Foot} {w W:World} (h:sR k cap to D w) (ho:Off D w W):sR k cap to D W:=fun W' v hv h2=>h W' v hv (ho.trans h2)
def aEB (w:World) (g o:Nat) (x:BlockD) (ap ai:Option Addr) (cp ci:Nat) (S1 S2:Foot) (to:Int -> Int) (e:Ending) (w' : World):Prop :=
 ∃ W1,e = .returned (.tuple #[])/\Off (S1.or S2) w W1/\fS W1 S1 (.slice ap x.phis.length cp) (x.phis.map (mapP to))/\gL W1 S2 (.slice ai x.code.length ci) (x.code.map (mapX to)) /\
  (((x.term.op=2 \/ x.term.op=3)/\w' = W1.setCell ⟨g,o+3,none⟩ (.int .i64 (to x.term.val))) \/ (¬ (x.term.op=2 \/ x.term.op=3)/\w' = W1))
set_option maxRecDepth 100000 in
theorem aAN {w:World} {g o:Nat} {x:BlockD} {ap ai at_:Option Addr} {cp ci ct:Nat} {S1 S2 D:Foot} {k:FuncId} {cap:Array Value} {to:Int -> Int} (hC:BlockC w g o x ap ai at_ cp ci ct) (hgl:g < w.heap.size) (hfr:∀ o,w.frozen? ⟨g,o,none⟩=false)
  (h1:fS w S1 (.slice ap x.phis.length cp) x.phis) (h2:gL w S2 (.slice ai x.code.length ci) x.code) (n1:¬ S1 g) (n2:¬ S2 g) (h12:S1.off S2) (d1:∀ q,S1 q -> D q) (d2:∀ q,S2 q -> D q)
  (eg:Enters Tryz.prog k) (hto:∀ v,In64 v -> In64 (to v)) (hstep:sR k cap to D w) :
  Calls Tryz.prog 92 #[.pointer (some ⟨g,o,none⟩),.func (.func k) #[] cap] w (aEB w g o x ap ai cp ci S1 S2 to):=by
 have eg1:∀ (args:Array Value) (w:World),(callFunc k args).run Tryz.prog w = .ok (.enter k args) w:=eg
 have c0:=hC.c0
 have c1:=hC.c1
 have c2:=hC.c2
 have c3:=hC.c3
 have di:=h! c1
 have dn:=h! c2
 have ds:=h! c3
 have ce:=h! hC.val64
 have dw:=h! hfr
 have H1:=h! h1
 have H2:=h! h2
 have dl:=h! h12
 have cj:=h! d1
 have co:=h! d2
 have dm:=h! hto
 have cn:=h! hstep
 have dh:=h! n1
 have dq:=h! n2
 have dv:x.phis.length <= 17592186044416:=by obtain ⟨cs,G,F,hp⟩:=h1;exact hp.row.big
 have cc:x.code.length <= 17592186044416:=by obtain ⟨cs,G,F,hp⟩:=h2;exact hp.row.big
 obtain ⟨np,dc⟩ : ∃ np,np=x.phis.length:=⟨_,rfl⟩
 obtain ⟨nc,da⟩ : ∃ nc,nc=x.code.length:=⟨_,rfl⟩
 rw [<-dc] at c0 H1 dv
 rw [<-da] at di H2 cc
 have bj:=h! dc
 have br:=h! da
 clear c1 c2 c3 hC hfr h1 h2 h12 d1 d2 hto hstep n1 n2 dc da
 go_enter Tryz.func92,Tryz.ntmps92
 go_wp2_with fail
 clear c0
 go_loopw [17] (fun iv wr => ∃ i:Nat,i <= np/\iv = .int .i64 i/\fS wr S1 (.slice ap np cp) (gC (mapP to) x.phis i)/\Off S1 w wr) (fun iv _=>np - (intOf iv).toNat)
 case atStart=>exact ⟨0,aJ _,rfl,by rw [fR];exact H1.out,Off.refl _ _⟩
 case round =>
  obtain ⟨i,hi,rfl,bx,ho⟩:=hrel
  have al:=h! ho
  have bb:=h! bx
  clear bx ho
  by_cases hlt:i < np
  ·obtain ⟨p,hp⟩ : ∃ p,x.phis[i]? = some p:=⟨_,aC (by rw [<-bj.out];exact hlt)⟩
   obtain ⟨g1,dd,af,av,cf,cv,Sv,hv,de,cL,ax,bm,bp,cd,df,ac⟩:=fS.vals bb.out (j:=i) (p:=p) (by rw [fW];exact hp)
   rw [eV, <-bj.out] at hv
   injection hv with e1 e2 e3
   subst e1
   subst e3
   have HP:=h! hp
   have bc:=h! bp
   have bz:=h! cd
   have bs:=h! ac
   have m0:=ax.c0
   have m1:=ax.c1
   have m2:=ax.c2
   have m3:=ax.c3
   have cB:p.vals.length <= 17592186044416:=bp.1.big
   obtain ⟨nv,ag⟩ : ∃ nv,nv=p.vals.length:=⟨_,rfl⟩
   obtain ⟨nf,dk⟩ : ∃ nf,nf=p.src.length:=⟨_,rfl⟩
   rw [<-ag] at m3 bc bs cB
   rw [<-dk] at m2
   have ak:=h! ag
   clear hp bp cd ac ax cL bm df ag dk e2
   go_upto_region 3 with (fail)
   clear m0 m1 m2 m3
   have az:Hid (Below wr.heap.size wr (wr.alloc (.cells #[.int .i64 p.id,.int .i64 p.typ,.slice af nf cf,.slice av nv cv] 78))):=h! ((Below.refl _ _).alloc (aB _) _)
   have B5:=h! (Box.new wr #[.int .i64 p.id,.int .i64 p.typ,.slice af nf cf,.slice av nv cv] 78)
   obtain ⟨b5,bv⟩ : ∃ b5,b5=wr.heap.size:=⟨_,rfl⟩
   have dg:Hid (∀ q,Sv q -> q < b5):=h! (fun q hq=>by rw [bv];exact bc.out.lt q hq)
   rw [<-bv] at B5 ⊢
   generalize wr.alloc (.cells #[.int .i64 p.id,.int .i64 p.typ,.slice af nf cf,.slice av nv cv] 78)=w5 at *
   have bw:Hid (Off S1 w w5):=h! (al.out.trans (Off.of_below az.out _))
   have ck:Hid (eU w5 Sv (.slice av nv cv) p.vals):=h! (bc.out.off (Off.of_below az.out Foot.none) (fun _ _ h=>h))
   have bd:Hid (∀ (W' : World) (vals:List Int),Off Sv w5 W' -> eU W' Sv (.slice av nv cv) vals -> fS W' S1 (.slice (some ⟨g1,0,none⟩) np cp) ((gC (mapP to) x.phis i).set i { p with vals:=vals })):=h! (fun W' vals h3 h4=>bs.out W' vals ((Off.of_below az.out _).trans h3) h4)
   clear bv az bc bs bb al
   obtain ⟨l5,k5,f5⟩:=B5.out
   go_wp2_with fail
   clear l5 k5 f5
   go_loopw [24] (fun iv wr => ∃ q:Nat,q <= nv/\iv = .int .i64 q/\eU wr Sv (.slice av nv cv) (gC to p.vals q)/\Off Sv w5 wr) (fun iv _=>nv - (intOf iv).toNat)
   case atStart=>exact ⟨0,aJ _,rfl,by rw [fR];exact ck.out,Off.refl _ _⟩
   obtain ⟨q,hq,rfl,bO,ho⟩:=hrel
   have bq:=h! bO
   have ab:=h! ho
   clear bO ho
   by_cases hqt:q < nv
   ·obtain ⟨v,hv⟩ : ∃ v,p.vals[q]? = some v:=⟨_,aC (by rw [<-ak.out];exact hqt)⟩
    obtain ⟨gv,cM,ch,ar,aq,ad,aw, -⟩:=bq.out.addr (i:=q) (x:=v) (by rw [fW];exact hv)
    rw [eV, <-ak.out] at ch
    injection ch with e1 e2 e3
    subst e1
    subst e3
    have ay:=ck.out.2 v (aG hv)
    have cr:=h! hv
    have cb:=h! ay
    have cw:=h! ar
    have be:=h! aw
    have bo:=h! ad
    have an:Hid (gA wr wr):=h! (Below.refl _ _)
    have am:Hid (Box wr b5 #[.int .i64 p.id,.int .i64 p.typ,.slice af nf cf,.slice (some ⟨gv,0,none⟩) nv cv]):=h! (B5.out.off ab.out (fun h=>by have:=dg.out _ h;omega))
    clear hv ar aw e2 ay
    obtain ⟨aj,ah,ae⟩:=am.out
    go_upto_region 6 with (fail)
    clear ad
    refine wp_region_grow 7 (fun kz=>match kz with | 5=>.const (.int .i64 (to v)) | _=>.plain) (by kernel_rfl) (by kernel_rfl) ?_ (fun ν => ?_)
    ·(intro k;(try dsimp only);split <;> first | exact True.intro | (intro u w1 w2 hu hb;exact hu.below hb))
    simp only [aO,aS,aP,aU]
    iterate 5 (refine Grow.val (v := ?_) rfl rfl (fun wg hbg hdg => ?_) ?_;rotate_left;(focus ((obtain ⟨lg0,cg0,fg0⟩:=am.out.later hbg);clear hbg hdg;first | (go_simp;done) | (go_simp;with_reducible rfl)));simp only [Act.put,aA,aD,aE])
    refine Grow.call (f := ?_) (args := ?_) rfl (fun wg => ?_) (fun wg hbg hdg => ?_) ?_
    rotate_left 2
    focus (first | (go_simp;done) | (go_simp;refine And.intro ?_ ?_ <;> with_reducible rfl) | (go_simp;with_reducible rfl))
    focus exact Calls.mono (cn.out wg v cb.out (((bw.out.mono fun q _ h=>cj.out q h).trans (ab.out.mono fun q _ h=>cj.out q (bz.out q h))).trans (Off.of_below hbg D))) (fun e w2 ⟨he,cc⟩=>⟨_,he,rfl,cc⟩)
    simp only [Act.put,Known.val,aA,aD,aE]
    refine Grow.val (v := ?_) rfl rfl (fun wg hbg hdg => ?_) ?_
    rotate_left
    focus ((obtain ⟨lg0,cg0,fg0⟩:=am.out.later hbg);clear hbg hdg;first | (go_simp;done) | (go_simp;with_reducible rfl))
    simp only [Act.put,aA,aD,aE]
    intro wg hb hf cG
    clear cG
    clear aj ah ae
    replace am:=h! (am.out.later hb)
    replace an:=h! (an.out.later hb)
    obtain ⟨aj,ah,ae⟩:=am.out
    clear hf
    have bh:=(an.out.cell (p:=⟨gv,q,none⟩) aq).trans bo.out
    have bl:∀ o,wg.frozen? ⟨gv,o,none⟩=false:=fun o=>(an.out.frozen (p:=⟨gv,o,none⟩) aq).trans (be.out o)
    have bn:Hid (eU (wg.setCell ⟨gv,q,none⟩ (.int .i64 (to v))) Sv (.slice (some ⟨gv,0,none⟩) nv cv) (gC to p.vals (q+1))):=h! (by
     have h9:=eU.set (bq.out.off (Off.of_below an.out Foot.none) (fun _ _ h=>h)) (g:=gv) (cap:=cv) (by rw [eV, <-ak.out]) (i:=q) (by rw [eV, <-ak.out];exact hqt) (dm.out v cb.out)
     rw [fX cr.out] at h9
     exact h9)
    have bf:Hid (Off Sv w5 (wg.setCell ⟨gv,q,none⟩ (.int .i64 (to v)))):=h! ((ab.out.trans (Off.of_below an.out _)).trans ((Off.set wg ⟨gv,q,none⟩ _).mono fun z _ hz=>by have h9:z=gv:=hz;rw [h9];exact cw.out))
    clear aj ah ae
    go_wp2
    clear bh bl
    go_roundw
    case rel=>exact ⟨q+1,hqt,by go_num,bn.out,bf.out⟩
    simp [intOf];omega
   obtain rfl:nv=q:=by omega
   have bn:Hid (fS wr S1 (.slice (some ⟨g1,0,none⟩) np cp) (gC (mapP to) x.phis (i+1))):=h! (by
    have h9:=bq.out
    rw [ak.out,gD, <-ak.out] at h9
    have h8:=bd.out wr _ ab.out h9
    have h7:=fX (g:=mapP to) HP.out
    rw [<-h7]
    exact h8)
   have bf:Hid (Off S1 w wr):=h! (bw.out.trans (ab.out.mono fun z _ hz=>bz.out z hz))
   go_wp2
   go_roundw
   case rel=>exact ⟨i+1,hlt,by go_num,bn.out,bf.out⟩
   simp [intOf];omega
  obtain rfl:np=i:=by omega
  have cy:Hid (fS wr S1 (.slice ap np cp) (x.phis.map (mapP to))):=h! (by have h9:=bb.out;rw [bj.out,gD, <-bj.out] at h9;exact h9)
  obtain ⟨W2,dj⟩ : ∃ W2,W2=wr:=⟨_,rfl⟩
  rw [<-dj] at cy al ⊢
  clear dj
  have c1:=(al.out.cell (b:=g) (o:=o+1) hgl dh.out).trans di.out
  have cz:Hid (gL W2 S2 (.slice ai nc ci) x.code):=h! (H2.out.off OInstr.nice al.out (fun z a b=>dl.out z b a))
  have db:=al
  clear bb hlt hi al
  go_wp2_with fail
  clear c1
  go_loopw [43] (fun iv wr => ∃ i:Nat,i <= nc/\iv = .int .i64 i/\gL wr S2 (.slice ai nc ci) (gC (mapX to) x.code i)/\Off S2 W2 wr) (fun iv _=>nc - (intOf iv).toNat)
  case atStart=>exact ⟨0,aJ _,rfl,by rw [fR];exact cz.out,Off.refl _ _⟩
  obtain ⟨i,hi,rfl,bx,ho⟩:=hrel
  have al:=h! ho
  have bb:=h! bx
  clear bx ho
  by_cases hlt:i < nc
  ·obtain ⟨y,hy⟩ : ∃ y,x.code[i]? = some y:=⟨_,aC (by rw [<-br.out];exact hlt)⟩
   obtain ⟨g1,dd,aa,ca,Sv,hv,de,cL,ax,bm,bp,cd,df,ac⟩:=gL.open bb.out (j:=i) (y:=y) (by rw [fW];exact hy)
   rw [eV, <-br.out] at hv
   injection hv with e1 e2 e3
   subst e1
   subst e3
   have HP:=h! hy
   have bc:=h! bp
   have bz:=h! cd
   have bs:=h! ac
   have m0:=ax.c0
   have m1:=ax.c1
   have m2:=ax.c2
   have m3:=ax.c3
   have cB:y.args.length <= 17592186044416:=bp.1.big
   obtain ⟨nv,ag⟩ : ∃ nv,nv=y.args.length:=⟨_,rfl⟩
   rw [<-ag] at m2 bc bs cB
   have ak:=h! ag
   clear hy bp cd ac ax cL bm df ag e2
   go_upto_region 12 with (fail)
   clear m0 m1 m2 m3
   have az:Hid (Below wr.heap.size wr (wr.alloc (.cells #[.int .i64 y.op,.int .i64 y.id,.slice aa nv ca,.int .i64 y.n] 82))):=h! ((Below.refl _ _).alloc (aB _) _)
   have B5:=h! (Box.new wr #[.int .i64 y.op,.int .i64 y.id,.slice aa nv ca,.int .i64 y.n] 82)
   obtain ⟨b5,bv⟩ : ∃ b5,b5=wr.heap.size:=⟨_,rfl⟩
   have dg:Hid (∀ q,Sv q -> q < b5):=h! (fun q hq=>by rw [bv];exact bc.out.lt q hq)
   rw [<-bv] at B5 ⊢
   generalize wr.alloc (.cells #[.int .i64 y.op,.int .i64 y.id,.slice aa nv ca,.int .i64 y.n] 82)=w5 at *
   have bw:Hid (Off S2 W2 w5):=h! (al.out.trans (Off.of_below az.out _))
   have ck:Hid (eU w5 Sv (.slice aa nv ca) y.args):=h! (bc.out.off (Off.of_below az.out Foot.none) (fun _ _ h=>h))
   have bd:Hid (∀ (W' : World) (args:List Int),Off Sv w5 W' -> eU W' Sv (.slice aa nv ca) args -> gL W' S2 (.slice (some ⟨g1,0,none⟩) nc ci) ((gC (mapX to) x.code i).set i { y with args:=args })):=h! (fun W' args h3 h4=>bs.out W' args ((Off.of_below az.out _).trans h3) h4)
   clear bv az bc bs bb al
   obtain ⟨l5,k5,f5⟩:=B5.out
   go_wp2_with fail
   clear l5 k5 f5
   go_loopw [50] (fun iv wr => ∃ q:Nat,q <= nv/\iv = .int .i64 q/\eU wr Sv (.slice aa nv ca) (gC to y.args q)/\Off Sv w5 wr) (fun iv _=>nv - (intOf iv).toNat)
   case atStart=>exact ⟨0,aJ _,rfl,by rw [fR];exact ck.out,Off.refl _ _⟩
   obtain ⟨q,hq,rfl,bO,ho⟩:=hrel
   have bq:=h! bO
   have ab:=h! ho
   clear bO ho
   by_cases hqt:q < nv
   ·obtain ⟨v,hv⟩ : ∃ v,y.args[q]? = some v:=⟨_,aC (by rw [<-ak.out];exact hqt)⟩
    obtain ⟨gv,cM,ch,ar,aq,ad,aw, -⟩:=bq.out.addr (i:=q) (x:=v) (by rw [fW];exact hv)
    rw [eV, <-ak.out] at ch
    injection ch with e1 e2 e3
    subst e1
    subst e3
    have ay:=ck.out.2 v (aG hv)
    have cr:=h! hv
    have cb:=h! ay
    have cw:=h! ar
    have be:=h! aw
    have bo:=h! ad
    have an:Hid (gA wr wr):=h! (Below.refl _ _)
    have am:Hid (Box wr b5 #[.int .i64 y.op,.int .i64 y.id,.slice (some ⟨gv,0,none⟩) nv ca,.int .i64 y.n]):=h! (B5.out.off ab.out (fun h=>by have:=dg.out _ h;omega))
    clear hv ar aw e2 ay
    obtain ⟨aj,ah,ae⟩:=am.out
    go_upto_region 15 with (fail)
    clear ad
    refine wp_region_grow 7 (fun kz=>match kz with | 5=>.const (.int .i64 (to v)) | _=>.plain) (by kernel_rfl) (by kernel_rfl) ?_ (fun ν => ?_)
    ·(intro k;(try dsimp only);split <;> first | exact True.intro | (intro u w1 w2 hu hb;exact hu.below hb))
    simp only [aO,aS,aP,aU]
    iterate 5 (refine Grow.val (v := ?_) rfl rfl (fun wg hbg hdg => ?_) ?_;rotate_left;(focus ((obtain ⟨lg0,cg0,fg0⟩:=am.out.later hbg);clear hbg hdg;first | (go_simp;done) | (go_simp;with_reducible rfl)));simp only [Act.put,aA,aD,aE])
    refine Grow.call (f := ?_) (args := ?_) rfl (fun wg => ?_) (fun wg hbg hdg => ?_) ?_
    rotate_left 2
    focus (first | (go_simp;done) | (go_simp;refine And.intro ?_ ?_ <;> with_reducible rfl) | (go_simp;with_reducible rfl))
    focus exact Calls.mono (cn.out wg v cb.out ((((db.out.mono fun q _ h=>cj.out q h).trans (bw.out.mono fun q _ h=>co.out q h)).trans (ab.out.mono fun q _ h=>co.out q (bz.out q h))).trans (Off.of_below hbg D))) (fun e w2 ⟨he,cc⟩=>⟨_,he,rfl,cc⟩)
    simp only [Act.put,Known.val,aA,aD,aE]
    refine Grow.val (v := ?_) rfl rfl (fun wg hbg hdg => ?_) ?_
    rotate_left
    focus ((obtain ⟨lg0,cg0,fg0⟩:=am.out.later hbg);clear hbg hdg;first | (go_simp;done) | (go_simp;with_reducible rfl))
    simp only [Act.put,aA,aD,aE]
    intro wg hb hf cG
    clear cG
    clear aj ah ae
    replace am:=h! (am.out.later hb)
    replace an:=h! (an.out.later hb)
    obtain ⟨aj,ah,ae⟩:=am.out
    clear hf
    have bh:=(an.out.cell (p:=⟨gv,q,none⟩) aq).trans bo.out
    have bl:∀ o,wg.frozen? ⟨gv,o,none⟩=false:=fun o=>(an.out.frozen (p:=⟨gv,o,none⟩) aq).trans (be.out o)
    have bn:Hid (eU (wg.setCell ⟨gv,q,none⟩ (.int .i64 (to v))) Sv (.slice (some ⟨gv,0,none⟩) nv ca) (gC to y.args (q+1))):=h! (by
     have h9:=eU.set (bq.out.off (Off.of_below an.out Foot.none) (fun _ _ h=>h)) (g:=gv) (cap:=ca) (by rw [eV, <-ak.out]) (i:=q) (by rw [eV, <-ak.out];exact hqt) (dm.out v cb.out)
     rw [fX cr.out] at h9
     exact h9)
    have bf:Hid (Off Sv w5 (wg.setCell ⟨gv,q,none⟩ (.int .i64 (to v)))):=h! ((ab.out.trans (Off.of_below an.out _)).trans ((Off.set wg ⟨gv,q,none⟩ _).mono fun z _ hz=>by have h9:z=gv:=hz;rw [h9];exact cw.out))
    clear aj ah ae
    go_wp2
    clear bh bl
    go_roundw
    case rel=>exact ⟨q+1,hqt,by go_num,bn.out,bf.out⟩
    simp [intOf];omega
   obtain rfl:nv=q:=by omega
   have bn:Hid (gL wr S2 (.slice (some ⟨g1,0,none⟩) nc ci) (gC (mapX to) x.code (i+1))):=h! (by
    have h9:=bq.out
    rw [ak.out,gD, <-ak.out] at h9
    have h8:=bd.out wr _ ab.out h9
    have h7:=fX (g:=mapX to) HP.out
    rw [<-h7]
    exact h8)
   have bf:Hid (Off S2 W2 wr):=h! (bw.out.trans (ab.out.mono fun z _ hz=>bz.out z hz))
   go_wp2
   go_roundw
   case rel=>exact ⟨i+1,hlt,by go_num,bn.out,bf.out⟩
   simp [intOf];omega
  obtain rfl:nc=i:=by omega
  have cF:Hid (gL wr S2 (.slice ai nc ci) (x.code.map (mapX to))):=h! (by have h9:=bb.out;rw [br.out,gD, <-br.out] at h9;exact h9)
  have bg:Hid (fS wr S1 (.slice ap np cp) (x.phis.map (mapP to))):=h! (cy.out.off OPhi.nice al.out dl.out)
  have ba:Hid (Off (S1.or S2) w wr):=h! ((db.out.mono fun q _ h=>.inl h).trans (al.out.mono fun q _ h=>.inr h))
  have cx:¬ (S1.or S2) g:=fun h=>h.elim dh.out dq.out
  have c2:=(ba.out.cell (b:=g) (o:=o+2) hgl cx).trans dn.out
  have c3:=(ba.out.cell (b:=g) (o:=o+3) hgl cx).trans ds.out
  have cq:g < wr.heap.size:=aY hgl ba.out.size
  have cg:Hid (∀ o,wr.frozen? ⟨g,o,none⟩=false):=h! (fun o=>(ba.out.frozen (b:=g) (o:=o) hgl cx).trans (dw.out o))
  have cm:=h! c3
  clear bb hlt hi al cy db
  obtain ⟨top,bi⟩ : ∃ top,top=x.term.op:=⟨_,rfl⟩
  rw [<-bi] at c2
  have bt:=h! bi
  clear bi
  by_cases ho2:top=2
  ·have hq:(top == 2)=true:=by simpa using ho2
   have cl:Hid (x.term.op=2 \/ x.term.op=3):=h! (.inl (by rw [<-bt.out];exact ho2))
   clear ho2
   have ao:=h! (cn.out wr x.term.val ce.out (ba.out.mono fun q _ h=>h.elim (cj.out q) (co.out q)))
   go_wp2_with (go_at_fn k;refine ao.out.mono ?_;rintro e w9 ⟨rfl,hb⟩;have bk:=h! hb;have dr:=(hb.cell (p:=⟨g,o+3,none⟩) cq).trans cm.out;have dt:∀ o,w9.frozen? ⟨g,o,none⟩=false:=(fun o=>(hb.frozen (p:=⟨g,o,none⟩) cq).trans (cg.out o));clear hb)
   refine bodyPost_end (v:=.tuple #[]) (by simp [results,Tryz.results92,go_sem, *]) rfl ⟨w9,rfl,ba.out.trans (Off.of_below bk.out _),by rw [<-bj.out];exact bg.out.off OPhi.nice (Off.of_below bk.out Foot.none) (fun _ _ h=>h),by rw [<-br.out];exact cF.out.off OInstr.nice (Off.of_below bk.out Foot.none) (fun _ _ h=>h),.inl ⟨cl.out,rfl⟩⟩
  have hq:(top == 2)=false:=by simpa using ho2
  by_cases ho3:top=3
  ·have dp:(top == 3)=true:=by simpa using ho3
   have cl:Hid (x.term.op=2 \/ x.term.op=3):=h! (.inr (by rw [<-bt.out];exact ho3))
   clear ho2 ho3
   have ao:=h! (cn.out wr x.term.val ce.out (ba.out.mono fun q _ h=>h.elim (cj.out q) (co.out q)))
   go_wp2_with (go_at_fn k;refine ao.out.mono ?_;rintro e w9 ⟨rfl,hb⟩;have bk:=h! hb;have dr:=(hb.cell (p:=⟨g,o+3,none⟩) cq).trans cm.out;have dt:∀ o,w9.frozen? ⟨g,o,none⟩=false:=(fun o=>(hb.frozen (p:=⟨g,o,none⟩) cq).trans (cg.out o));clear hb)
   refine bodyPost_end (v:=.tuple #[]) (by simp [results,Tryz.results92,go_sem, *]) rfl ⟨w9,rfl,ba.out.trans (Off.of_below bk.out _),by rw [<-bj.out];exact bg.out.off OPhi.nice (Off.of_below bk.out Foot.none) (fun _ _ h=>h),by rw [<-br.out];exact cF.out.off OInstr.nice (Off.of_below bk.out Foot.none) (fun _ _ h=>h),.inl ⟨cl.out,rfl⟩⟩
  have dp:(top == 3)=false:=by simpa using ho3
  have cl:Hid (¬ (x.term.op=2 \/ x.term.op=3)):=h! (by rw [<-bt.out];exact fun h=>h.elim ho2 ho3)
  clear ho2 ho3
  go_wp2
  refine bodyPost_end (v:=.tuple #[]) (by simp [results,Tryz.results92,go_sem, *]) rfl ⟨wr,rfl,ba.out,by rw [<-bj.out];exact bg.out,by rw [<-br.out];exact cF.out,.inr ⟨cl.out,rfl⟩⟩
def MapR (w:World) (S:Foot) (bv:Value) (xs:List BlockD) (to:Int -> Int) (e:Ending) (w' : World):Prop:=e = .returned (.tuple #[])/\Off S w w' /\ fA w' S bv (xs.map (mapB to))
theorem aCS {W W1 w9:World} {S S1 S2:Foot} {xs:List BlockD} {ab:Option Addr} {cb g i:Nat} {x:BlockD} {to:Int -> Int} (hx:xs[i]? = some x) (hto:In64 (to x.term.val)) (hg:ab=some ⟨g,0,none⟩)
  (h1:fA W1 S (.slice ab xs.length cb) ((gC (mapB to) xs i).set i { x with phis:=x.phis.map (mapP to),code:=x.code.map (mapX to) }))
  (hc:((x.term.op=2 \/ x.term.op=3)/\w9=W1.setCell ⟨g,i * 6+3,none⟩ (.int .i64 (to x.term.val))) \/ (¬ (x.term.op=2 \/ x.term.op=3)/\w9=W1)) :
  fA w9 S (.slice ab xs.length cb) (gC (mapB to) xs (i+1)):=by
 have aa:i < xs.length:=(aF.1 hx).1
 rw [<-fX (g:=mapB to) hx]
 rcases hc with ⟨ho,rfl⟩ | ⟨ho,rfl⟩
 ·have h2:=fA.val h1 (j:=i) (x := { x with phis:=x.phis.map (mapP to),code:=x.code.map (mapX to) }) (by rw [eC (by rw [eV];exact aa)]) (g:=g) (cap:=cb) (by rw [bX,eV,hg]) hto
  rw [List.set_set] at h2
  have e:mapB to x = { x with phis:=x.phis.map (mapP to),code:=x.code.map (mapX to),term := { x.term with val:=to x.term.val } }:=by
   rw [aBJ];unfold mapT;rw [if_pos ho]
  rw [e];exact h2
 ·have e:mapB to x = { x with phis:=x.phis.map (mapP to),code:=x.code.map (mapX to) }:=by
   rw [aBJ];unfold mapT;rw [if_neg ho]
  rw [e];exact h1
set_option maxRecDepth 100000 in
theorem mapC {w:World} {b cb:Nat} {ab:Option Addr} {xs:List BlockD} {S:Foot} {k:FuncId} {cap:Array Value} {to:Int -> Int} (hc:w.cell? ⟨b,3,none⟩=some (.slice ab xs.length cb)) (hbl:b < w.heap.size) (hbS:¬ S b)
  (hO:fA w S (.slice ab xs.length cb) xs) (eg:Enters Tryz.prog k) (hto:∀ v,In64 v -> In64 (to v)) (hstep:sR k cap to S w) :
  Calls Tryz.prog 49 #[.pointer (some ⟨b,0,none⟩),.func (.func k) #[] cap] w (MapR w S (.slice ab xs.length cb) xs to):=by
 have HC:=h! hc
 have HO:=h! hO
 have ao:=h! hto
 have bd:=h! hstep
 have az:=h! eg
 have be:xs.length <= 17592186044416:=by obtain ⟨cs,G,F,hp⟩:=hO;exact hp.row.big
 obtain ⟨nb,ac⟩ : ∃ nb,nb=xs.length:=⟨_,rfl⟩
 rw [<-ac] at hc be HC HO ⊢
 have ad:=h! ac
 have ax:=h! hbS
 clear hO hto hstep eg ac hbS
 go_enter Tryz.func49,Tryz.ntmps49
 go_wp2_with fail
 clear hc
 go_loopw [10] (fun iv wr => ∃ i:Nat,i <= nb/\iv = .int .i64 i/\fA wr S (.slice ab nb cb) (gC (mapB to) xs i)/\Off S w wr) (fun iv _=>nb - (intOf iv).toNat)
 case atStart=>exact ⟨0,aJ _,rfl,by rw [fR];exact HO.out,Off.refl _ _⟩
 case round =>
  obtain ⟨i,hi,rfl,an,ho⟩:=hrel
  have af:=h! ho
  have ag:=h! an
  clear an ho
  by_cases hlt:i < nb
  ·obtain ⟨x,hx⟩ : ∃ x,xs[i]? = some x:=⟨_,aC (by rw [<-ad.out];exact hlt)⟩
   obtain ⟨g,cap',ap,ai,at_,cp,ci,ct,S1,S2,hv,aw,aq,ah,al,am,ar,d1,d2,ak,n1,n2,aa⟩:=fA.opened ag.out (j:=i) (x:=x) (by rw [fW];exact hx)
   rw [eV, <-ad.out] at hv
   injection hv with e1 e2 e3
   subst e1
   subst e3
   have HX:=h! hx
   have bb:=h! aa
   have ba:=h! aq
   have bf:=h! d1
   have bc:=h! d2
   have ae:=ah.val64
   have aj:=h! ae
   have HCALL:=h! (aAN ah aw al am ar n1 n2 ak d1 d2 az.out ao.out (bd.out.off af.out))
   have c3:=(af.out.cell (b:=b) (o:=3) hbl ax.out).trans HC.out
   clear hx aa aq d1 d2 ah al am ar ak n1 n2 e2 aw ae
   go_wp2_with (refine HCALL.out.mono ?_;rintro e w9 ⟨W1,rfl,hoff,hps,hcs,hcase⟩;have HNX:Hid (fA w9 S (.slice (some ⟨g,0,none⟩) nb cb) (gC (mapB to) xs (i+1))):=h! (by rw [ad.out];exact aCS (W:=wr) (S1:=S1) (S2:=S2) HX.out (ao.out _ aj.out) rfl (by rw [<-ad.out];exact bb.out W1 _ _ hoff hps hcs) hcase);have ay:Hid (Off S w w9):=h! (af.out.trans ((hoff.mono fun q _ h=>h.elim (bf.out q) (bc.out q)).trans (by rcases hcase with ⟨_,rfl⟩ | ⟨_,rfl⟩;exact (Off.set W1 ⟨g,i * 6+3,none⟩ _).mono fun z _ hz=>(by have h9:z=g:=hz;rw [h9];exact ba.out);exact Off.refl _ _)));clear hoff hps hcs hcase c3)
   go_roundw
   case rel=>exact ⟨i+1,hlt,by go_num,HNX.out,ay.out⟩
   simp [intOf];omega
  obtain rfl:nb=i:=by omega
  have HE:Hid (fA wr S (.slice ab nb cb) (xs.map (mapB to))):=h! (by have h9:=ag.out;rw [ad.out,gD, <-ad.out] at h9;exact h9)
  clear ag
  go_wp2
  exact bodyPost_end (v:=.tuple #[]) (by simp [results,Tryz.results49,go_sem, *]) rfl ⟨rfl,af.out,HE.out⟩
end Go.Proofs.YtagabiidbbhhmaaGreat
