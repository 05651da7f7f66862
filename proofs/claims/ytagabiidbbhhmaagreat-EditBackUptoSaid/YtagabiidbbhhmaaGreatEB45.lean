/- Part 45. -/
import Derived.Test.YtagabiidbbhhmaaGreatEB44
namespace Go.Proofs.YtagabiidbbhhmaaGreat
set_option maxHeartbeats 25600000
set_option linter.all false
open Go.RowKit
private theorem fQ.alloc {w0 W:World} (h:fQ w0 W) (o:Obj):fQ w0 (W.alloc o):=h.later ((Below.refl _ _).alloc (aA _) o)
def qY (k:FuncId) (cap:Array Value) (to:Int -> Int) (D:Foot) (w:World):Prop := ∀ (W:World) (v:Int),In64 v -> Off D w W -> Calls Tryz.prog k (#[.int .i64 v] ++ cap) W fun e W'=>e = .returned (.int .i64 (to v))/\Below W.heap.size W W'
theorem qY.off {k:FuncId} {cap:Array Value} {to:Int -> Int} {D:Foot} {w W:World} (h:qY k cap to D w) (ho:Off D w W):qY k cap to D W:=fun W' v hv h2=>h W' v hv (ho.trans h2)
def aDL (w:World) (g o:Nat) (x:BlockD) (ap ai:Option Addr) (cp ci:Nat) (S1 S2:Foot) (to:Int -> Int) (e:Ending) (w' : World):Prop :=
 ∃ W1,e = .returned (.tuple #[])/\Off (S1.or S2) w W1/\gI W1 S1 (.slice ap x.phis.length cp) (x.phis.map (mapP to))/\iN W1 S2 (.slice ai x.code.length ci) (x.code.map (mapX to)) /\
  (((x.term.op=2 \/ x.term.op=3)/\w' = W1.setCell ⟨g,o+3,none⟩ (.int .i64 (to x.term.val))) \/ (¬ (x.term.op=2 \/ x.term.op=3)/\w' = W1))
set_option maxRecDepth 100000 in
theorem yZ {w:World} {g o:Nat} {x:BlockD} {ap ai at_:Option Addr} {cp ci ct:Nat} {S1 S2 D:Foot} {k:FuncId} {cap:Array Value} {to:Int -> Int} (hC:BlockC w g o x ap ai at_ cp ci ct) (hgl:g < w.heap.size) (hfr:∀ o,w.frozen? ⟨g,o,none⟩=false)
  (h1:gI w S1 (.slice ap x.phis.length cp) x.phis) (h2:iN w S2 (.slice ai x.code.length ci) x.code) (n1:¬ S1 g) (n2:¬ S2 g) (h12:S1.off S2) (d1:∀ q,S1 q -> D q) (d2:∀ q,S2 q -> D q)
  (eg:Enters Tryz.prog k) (hto:∀ v,In64 v -> In64 (to v)) (hstep:qY k cap to D w) :
  Calls Tryz.prog 92 #[.pointer (some ⟨g,o,none⟩),.func (.func k) #[] cap] w (aDL w g o x ap ai cp ci S1 S2 to):=by
 have eg1:∀ (args:Array Value) (w:World),(callFunc k args).run Tryz.prog w = .ok (.enter k args) w:=eg
 have c0:=hC.c0
 have c1:=hC.c1
 have c2:=hC.c2
 have c3:=hC.c3
 have HC1:=h! c1
 have HC2:=h! c2
 have HC3:=h! c3
 have HV64:=h! hC.val64
 have HFR:=h! hfr
 have H1:=h! h1
 have H2:=h! h2
 have H12:=h! h12
 have HD1:=h! d1
 have HD2:=h! d2
 have HTO:=h! hto
 have HST:=h! hstep
 have HN1:=h! n1
 have HN2:=h! n2
 have hb1:x.phis.length <= 17592186044416:=by obtain ⟨cs,G,F,hp⟩:=h1;exact hp.row.big
 have hb2:x.code.length <= 17592186044416:=by obtain ⟨cs,G,F,hp⟩:=h2;exact hp.row.big
 obtain ⟨np,hnp⟩ : ∃ np,np=x.phis.length:=⟨_,rfl⟩
 obtain ⟨nc,hnc⟩ : ∃ nc,nc=x.code.length:=⟨_,rfl⟩
 rw [<-hnp] at c0 H1 hb1
 rw [<-hnc] at HC1 H2 hb2
 have HNP:=h! hnp
 have HNC:=h! hnc
 clear c1 c2 c3 hC hfr h1 h2 h12 d1 d2 hto hstep n1 n2 hnp hnc
 go_enter Tryz.func92,Tryz.ntmps92
 go_wp2_with fail
 clear c0
 go_loopw [17] (fun iv wr => ∃ i:Nat,i <= np/\iv = .int .i64 i/\gI wr S1 (.slice ap np cp) (gJ (mapP to) x.phis i)/\Off S1 w wr) (fun iv _=>np - (intOf iv).toNat)
 case atStart=>exact ⟨0,aJ _,rfl,by rw [gN];exact H1.out,Off.refl _ _⟩
 case round =>
  obtain ⟨i,hi,rfl,hol,ho⟩:=hrel
  have HOF:=h! ho
  have HOL:=h! hol
  clear hol ho
  by_cases hlt:i < np
  ·obtain ⟨p,hp⟩ : ∃ p,x.phis[i]? = some p:=⟨_,aC (by rw [<-HNP.out];exact hlt)⟩
   obtain ⟨g1,cap1,af,av,cf,cv,Sv,hv,hgl1,hSg,hPC,hfr1,hOv,hSv,hnv,hclose⟩:=gI.vals HOL.out (j:=i) (p:=p) (by rw [gZ];exact hp)
   rw [eY, <-HNP.out] at hv
   injection hv with e1 e2 e3
   subst e1
   subst e3
   have HP:=h! hp
   have HOV:=h! hOv
   have HSV:=h! hSv
   have HCL:=h! hclose
   have m0:=hPC.c0
   have m1:=hPC.c1
   have m2:=hPC.c2
   have m3:=hPC.c3
   have hvb:p.vals.length <= 17592186044416:=hOv.1.big
   obtain ⟨nv,hnv'⟩ : ∃ nv,nv=p.vals.length:=⟨_,rfl⟩
   obtain ⟨nf,hnf⟩ : ∃ nf,nf=p.src.length:=⟨_,rfl⟩
   rw [<-hnv'] at m3 HOV HCL hvb
   rw [<-hnf] at m2
   have HNV:=h! hnv'
   clear hp hOv hSv hclose hPC hSg hfr1 hnv hnv' hnf e2
   go_upto_region 3 with (fail)
   clear m0 m1 m2 m3
   have HB5:Hid (Below wr.heap.size wr (wr.alloc (.cells #[.int .i64 p.id,.int .i64 p.typ,.slice af nf cf,.slice av nv cv] 78))):=h! ((Below.refl _ _).alloc (aA _) _)
   have B5:=h! (Box.new wr #[.int .i64 p.id,.int .i64 p.typ,.slice af nf cf,.slice av nv cv] 78)
   obtain ⟨b5,hb5⟩ : ∃ b5,b5=wr.heap.size:=⟨_,rfl⟩
   have HSL:Hid (∀ q,Sv q -> q < b5):=h! (fun q hq=>by rw [hb5];exact HOV.out.lt q hq)
   rw [<-hb5] at B5 ⊢
   generalize wr.alloc (.cells #[.int .i64 p.id,.int .i64 p.typ,.slice af nf cf,.slice av nv cv] 78)=w5 at *
   have HO5:Hid (Off S1 w w5):=h! (HOF.out.trans (Off.of_below HB5.out _))
   have HV5:Hid (eV w5 Sv (.slice av nv cv) p.vals):=h! (HOV.out.off (Off.of_below HB5.out Foot.none) (fun _ _ h=>h))
   have HCL5:Hid (∀ (W' : World) (vals:List Int),Off Sv w5 W' -> eV W' Sv (.slice av nv cv) vals -> gI W' S1 (.slice (some ⟨g1,0,none⟩) np cp) ((gJ (mapP to) x.phis i).set i { p with vals:=vals })):=h! (fun W' vals h3 h4=>HCL.out W' vals ((Off.of_below HB5.out _).trans h3) h4)
   clear hb5 HB5 HOV HCL HOL HOF
   obtain ⟨l5,k5,f5⟩:=B5.out
   go_wp2_with fail
   clear l5 k5 f5
   go_loopw [24] (fun iv wr => ∃ q:Nat,q <= nv/\iv = .int .i64 q/\eV wr Sv (.slice av nv cv) (gJ to p.vals q)/\Off Sv w5 wr) (fun iv _=>nv - (intOf iv).toNat)
   case atStart=>exact ⟨0,aJ _,rfl,by rw [gN];exact HV5.out,Off.refl _ _⟩
   obtain ⟨q,hq,rfl,hoi,ho⟩:=hrel
   have HOI:=h! hoi
   have HOI2:=h! ho
   clear hoi ho
   by_cases hqt:q < nv
   ·obtain ⟨v,hv⟩ : ∃ v,p.vals[q]? = some v:=⟨_,aC (by rw [<-HNV.out];exact hqt)⟩
    obtain ⟨gv,capv,hve,hSgv,hglv,hcell,hfrv, -⟩:=HOI.out.addr (i:=q) (x:=v) (by rw [gZ];exact hv)
    rw [eY, <-HNV.out] at hve
    injection hve with e1 e2 e3
    subst e1
    subst e3
    have hv64:=HV5.out.2 v (aG hv)
    have HVQ:=h! hv
    have HV6:=h! hv64
    have HSG:=h! hSgv
    have HFRV:=h! hfrv
    have HCEL:=h! hcell
    have HRR:Hid (fQ wr wr):=h! (Below.refl _ _)
    have B5R:Hid (Box wr b5 #[.int .i64 p.id,.int .i64 p.typ,.slice af nf cf,.slice (some ⟨gv,0,none⟩) nv cv]):=h! (B5.out.off HOI2.out (fun h=>by have:=HSL.out _ h;omega))
    clear hv hSgv hfrv e2 hv64
    obtain ⟨lB5R,cB5R,fB5R⟩:=B5R.out
    go_upto_region 6 with (fail)
    clear hcell
    refine wp_region_grow 7 (fun kz=>match kz with | 5=>.const (.int .i64 (to v)) | _=>.plain) (by kernel_rfl) (by kernel_rfl) ?_ (fun ν => ?_)
    ·(intro k;(try dsimp only);split <;> first | exact True.intro | (intro u w1 w2 hu hb;exact hu.below hb))
    simp only [aQ,aU,aT,aY]
    iterate 5 (refine Grow.val (v := ?_) rfl rfl (fun wg hbg hdg => ?_) ?_;rotate_left;(focus ((obtain ⟨lg0,cg0,fg0⟩:=B5R.out.later hbg);clear hbg hdg;first | (go_simp;done) | (go_simp;with_reducible rfl)));simp only [Act.put,aB,aE,aF])
    refine Grow.call (f := ?_) (args := ?_) rfl (fun wg => ?_) (fun wg hbg hdg => ?_) ?_
    rotate_left 2
    focus (first | (go_simp;done) | (go_simp;refine And.intro ?_ ?_ <;> with_reducible rfl) | (go_simp;with_reducible rfl))
    focus exact Calls.mono (HST.out wg v HV6.out (((HO5.out.mono fun q _ h=>HD1.out q h).trans (HOI2.out.mono fun q _ h=>HD1.out q (HSV.out q h))).trans (Off.of_below hbg D))) (fun e w2 ⟨he,hb2⟩=>⟨_,he,rfl,hb2⟩)
    simp only [Act.put,Known.val,aB,aE,aF]
    refine Grow.val (v := ?_) rfl rfl (fun wg hbg hdg => ?_) ?_
    rotate_left
    focus ((obtain ⟨lg0,cg0,fg0⟩:=B5R.out.later hbg);clear hbg hdg;first | (go_simp;done) | (go_simp;with_reducible rfl))
    simp only [Act.put,aB,aE,aF]
    intro wg hb hf hap
    clear hap
    clear lB5R cB5R fB5R
    replace B5R:=h! (B5R.out.later hb)
    replace HRR:=h! (HRR.out.later hb)
    obtain ⟨lB5R,cB5R,fB5R⟩:=B5R.out
    clear hf
    have hcl2:=(HRR.out.cell (p:=⟨gv,q,none⟩) hglv).trans HCEL.out
    have hfz2:∀ o,wg.frozen? ⟨gv,o,none⟩=false:=fun o=>(HRR.out.frozen (p:=⟨gv,o,none⟩) hglv).trans (HFRV.out o)
    have HNX:Hid (eV (wg.setCell ⟨gv,q,none⟩ (.int .i64 (to v))) Sv (.slice (some ⟨gv,0,none⟩) nv cv) (gJ to p.vals (q+1))):=h! (by
     have h9:=eV.set (HOI.out.off (Off.of_below HRR.out Foot.none) (fun _ _ h=>h)) (g:=gv) (cap:=cv) (by rw [eY, <-HNV.out]) (i:=q) (by rw [eY, <-HNV.out];exact hqt) (HTO.out v HV6.out)
     rw [gU HVQ.out] at h9
     exact h9)
    have HNO:Hid (Off Sv w5 (wg.setCell ⟨gv,q,none⟩ (.int .i64 (to v)))):=h! ((HOI2.out.trans (Off.of_below HRR.out _)).trans ((Off.set wg ⟨gv,q,none⟩ _).mono fun z _ hz=>by have h9:z=gv:=hz;rw [h9];exact HSG.out))
    clear lB5R cB5R fB5R
    go_wp2
    clear hcl2 hfz2
    go_roundw
    case rel=>exact ⟨q+1,hqt,by go_num,HNX.out,HNO.out⟩
    simp [intOf];omega
   obtain rfl:nv=q:=by omega
   have HNX:Hid (gI wr S1 (.slice (some ⟨g1,0,none⟩) np cp) (gJ (mapP to) x.phis (i+1))):=h! (by
    have h9:=HOI.out
    rw [HNV.out,iA, <-HNV.out] at h9
    have h8:=HCL5.out wr _ HOI2.out h9
    have h7:=gU (g:=mapP to) HP.out
    rw [<-h7]
    exact h8)
   have HNO:Hid (Off S1 w wr):=h! (HO5.out.trans (HOI2.out.mono fun z _ hz=>HSV.out z hz))
   go_wp2
   go_roundw
   case rel=>exact ⟨i+1,hlt,by go_num,HNX.out,HNO.out⟩
   simp [intOf];omega
  obtain rfl:np=i:=by omega
  have HPW:Hid (gI wr S1 (.slice ap np cp) (x.phis.map (mapP to))):=h! (by have h9:=HOL.out;rw [HNP.out,iA, <-HNP.out] at h9;exact h9)
  obtain ⟨W2,hW2⟩ : ∃ W2,W2=wr:=⟨_,rfl⟩
  rw [<-hW2] at HPW HOF ⊢
  clear hW2
  have c1:=(HOF.out.cell (b:=g) (o:=o+1) hgl HN1.out).trans HC1.out
  have HC2W:Hid (iN W2 S2 (.slice ai nc ci) x.code):=h! (H2.out.off OInstr.nice HOF.out (fun z a b=>H12.out z b a))
  have HO2:=HOF
  clear HOL hlt hi HOF
  go_wp2_with fail
  clear c1
  go_loopw [43] (fun iv wr => ∃ i:Nat,i <= nc/\iv = .int .i64 i/\iN wr S2 (.slice ai nc ci) (gJ (mapX to) x.code i)/\Off S2 W2 wr) (fun iv _=>nc - (intOf iv).toNat)
  case atStart=>exact ⟨0,aJ _,rfl,by rw [gN];exact HC2W.out,Off.refl _ _⟩
  obtain ⟨i,hi,rfl,hol,ho⟩:=hrel
  have HOF:=h! ho
  have HOL:=h! hol
  clear hol ho
  by_cases hlt:i < nc
  ·obtain ⟨y,hy⟩ : ∃ y,x.code[i]? = some y:=⟨_,aC (by rw [<-HNC.out];exact hlt)⟩
   obtain ⟨g1,cap1,aa,ca,Sv,hv,hgl1,hSg,hPC,hfr1,hOv,hSv,hnv,hclose⟩:=iN.open HOL.out (j:=i) (y:=y) (by rw [gZ];exact hy)
   rw [eY, <-HNC.out] at hv
   injection hv with e1 e2 e3
   subst e1
   subst e3
   have HP:=h! hy
   have HOV:=h! hOv
   have HSV:=h! hSv
   have HCL:=h! hclose
   have m0:=hPC.c0
   have m1:=hPC.c1
   have m2:=hPC.c2
   have m3:=hPC.c3
   have hvb:y.args.length <= 17592186044416:=hOv.1.big
   obtain ⟨nv,hnv'⟩ : ∃ nv,nv=y.args.length:=⟨_,rfl⟩
   rw [<-hnv'] at m2 HOV HCL hvb
   have HNV:=h! hnv'
   clear hy hOv hSv hclose hPC hSg hfr1 hnv hnv' e2
   go_upto_region 12 with (fail)
   clear m0 m1 m2 m3
   have HB5:Hid (Below wr.heap.size wr (wr.alloc (.cells #[.int .i64 y.op,.int .i64 y.id,.slice aa nv ca,.int .i64 y.n] 82))):=h! ((Below.refl _ _).alloc (aA _) _)
   have B5:=h! (Box.new wr #[.int .i64 y.op,.int .i64 y.id,.slice aa nv ca,.int .i64 y.n] 82)
   obtain ⟨b5,hb5⟩ : ∃ b5,b5=wr.heap.size:=⟨_,rfl⟩
   have HSL:Hid (∀ q,Sv q -> q < b5):=h! (fun q hq=>by rw [hb5];exact HOV.out.lt q hq)
   rw [<-hb5] at B5 ⊢
   generalize wr.alloc (.cells #[.int .i64 y.op,.int .i64 y.id,.slice aa nv ca,.int .i64 y.n] 82)=w5 at *
   have HO5:Hid (Off S2 W2 w5):=h! (HOF.out.trans (Off.of_below HB5.out _))
   have HV5:Hid (eV w5 Sv (.slice aa nv ca) y.args):=h! (HOV.out.off (Off.of_below HB5.out Foot.none) (fun _ _ h=>h))
   have HCL5:Hid (∀ (W' : World) (args:List Int),Off Sv w5 W' -> eV W' Sv (.slice aa nv ca) args -> iN W' S2 (.slice (some ⟨g1,0,none⟩) nc ci) ((gJ (mapX to) x.code i).set i { y with args:=args })):=h! (fun W' args h3 h4=>HCL.out W' args ((Off.of_below HB5.out _).trans h3) h4)
   clear hb5 HB5 HOV HCL HOL HOF
   obtain ⟨l5,k5,f5⟩:=B5.out
   go_wp2_with fail
   clear l5 k5 f5
   go_loopw [50] (fun iv wr => ∃ q:Nat,q <= nv/\iv = .int .i64 q/\eV wr Sv (.slice aa nv ca) (gJ to y.args q)/\Off Sv w5 wr) (fun iv _=>nv - (intOf iv).toNat)
   case atStart=>exact ⟨0,aJ _,rfl,by rw [gN];exact HV5.out,Off.refl _ _⟩
   obtain ⟨q,hq,rfl,hoi,ho⟩:=hrel
   have HOI:=h! hoi
   have HOI2:=h! ho
   clear hoi ho
   by_cases hqt:q < nv
   ·obtain ⟨v,hv⟩ : ∃ v,y.args[q]? = some v:=⟨_,aC (by rw [<-HNV.out];exact hqt)⟩
    obtain ⟨gv,capv,hve,hSgv,hglv,hcell,hfrv, -⟩:=HOI.out.addr (i:=q) (x:=v) (by rw [gZ];exact hv)
    rw [eY, <-HNV.out] at hve
    injection hve with e1 e2 e3
    subst e1
    subst e3
    have hv64:=HV5.out.2 v (aG hv)
    have HVQ:=h! hv
    have HV6:=h! hv64
    have HSG:=h! hSgv
    have HFRV:=h! hfrv
    have HCEL:=h! hcell
    have HRR:Hid (fQ wr wr):=h! (Below.refl _ _)
    have B5R:Hid (Box wr b5 #[.int .i64 y.op,.int .i64 y.id,.slice (some ⟨gv,0,none⟩) nv ca,.int .i64 y.n]):=h! (B5.out.off HOI2.out (fun h=>by have:=HSL.out _ h;omega))
    clear hv hSgv hfrv e2 hv64
    obtain ⟨lB5R,cB5R,fB5R⟩:=B5R.out
    go_upto_region 15 with (fail)
    clear hcell
    refine wp_region_grow 7 (fun kz=>match kz with | 5=>.const (.int .i64 (to v)) | _=>.plain) (by kernel_rfl) (by kernel_rfl) ?_ (fun ν => ?_)
    ·(intro k;(try dsimp only);split <;> first | exact True.intro | (intro u w1 w2 hu hb;exact hu.below hb))
    simp only [aQ,aU,aT,aY]
    iterate 5 (refine Grow.val (v := ?_) rfl rfl (fun wg hbg hdg => ?_) ?_;rotate_left;(focus ((obtain ⟨lg0,cg0,fg0⟩:=B5R.out.later hbg);clear hbg hdg;first | (go_simp;done) | (go_simp;with_reducible rfl)));simp only [Act.put,aB,aE,aF])
    refine Grow.call (f := ?_) (args := ?_) rfl (fun wg => ?_) (fun wg hbg hdg => ?_) ?_
    rotate_left 2
    focus (first | (go_simp;done) | (go_simp;refine And.intro ?_ ?_ <;> with_reducible rfl) | (go_simp;with_reducible rfl))
    focus exact Calls.mono (HST.out wg v HV6.out ((((HO2.out.mono fun q _ h=>HD1.out q h).trans (HO5.out.mono fun q _ h=>HD2.out q h)).trans (HOI2.out.mono fun q _ h=>HD2.out q (HSV.out q h))).trans (Off.of_below hbg D))) (fun e w2 ⟨he,hb2⟩=>⟨_,he,rfl,hb2⟩)
    simp only [Act.put,Known.val,aB,aE,aF]
    refine Grow.val (v := ?_) rfl rfl (fun wg hbg hdg => ?_) ?_
    rotate_left
    focus ((obtain ⟨lg0,cg0,fg0⟩:=B5R.out.later hbg);clear hbg hdg;first | (go_simp;done) | (go_simp;with_reducible rfl))
    simp only [Act.put,aB,aE,aF]
    intro wg hb hf hap
    clear hap
    clear lB5R cB5R fB5R
    replace B5R:=h! (B5R.out.later hb)
    replace HRR:=h! (HRR.out.later hb)
    obtain ⟨lB5R,cB5R,fB5R⟩:=B5R.out
    clear hf
    have hcl2:=(HRR.out.cell (p:=⟨gv,q,none⟩) hglv).trans HCEL.out
    have hfz2:∀ o,wg.frozen? ⟨gv,o,none⟩=false:=fun o=>(HRR.out.frozen (p:=⟨gv,o,none⟩) hglv).trans (HFRV.out o)
    have HNX:Hid (eV (wg.setCell ⟨gv,q,none⟩ (.int .i64 (to v))) Sv (.slice (some ⟨gv,0,none⟩) nv ca) (gJ to y.args (q+1))):=h! (by
     have h9:=eV.set (HOI.out.off (Off.of_below HRR.out Foot.none) (fun _ _ h=>h)) (g:=gv) (cap:=ca) (by rw [eY, <-HNV.out]) (i:=q) (by rw [eY, <-HNV.out];exact hqt) (HTO.out v HV6.out)
     rw [gU HVQ.out] at h9
     exact h9)
    have HNO:Hid (Off Sv w5 (wg.setCell ⟨gv,q,none⟩ (.int .i64 (to v)))):=h! ((HOI2.out.trans (Off.of_below HRR.out _)).trans ((Off.set wg ⟨gv,q,none⟩ _).mono fun z _ hz=>by have h9:z=gv:=hz;rw [h9];exact HSG.out))
    clear lB5R cB5R fB5R
    go_wp2
    clear hcl2 hfz2
    go_roundw
    case rel=>exact ⟨q+1,hqt,by go_num,HNX.out,HNO.out⟩
    simp [intOf];omega
   obtain rfl:nv=q:=by omega
   have HNX:Hid (iN wr S2 (.slice (some ⟨g1,0,none⟩) nc ci) (gJ (mapX to) x.code (i+1))):=h! (by
    have h9:=HOI.out
    rw [HNV.out,iA, <-HNV.out] at h9
    have h8:=HCL5.out wr _ HOI2.out h9
    have h7:=gU (g:=mapX to) HP.out
    rw [<-h7]
    exact h8)
   have HNO:Hid (Off S2 W2 wr):=h! (HO5.out.trans (HOI2.out.mono fun z _ hz=>HSV.out z hz))
   go_wp2
   go_roundw
   case rel=>exact ⟨i+1,hlt,by go_num,HNX.out,HNO.out⟩
   simp [intOf];omega
  obtain rfl:nc=i:=by omega
  have HCW:Hid (iN wr S2 (.slice ai nc ci) (x.code.map (mapX to))):=h! (by have h9:=HOL.out;rw [HNC.out,iA, <-HNC.out] at h9;exact h9)
  have HPW3:Hid (gI wr S1 (.slice ap np cp) (x.phis.map (mapP to))):=h! (HPW.out.off OPhi.nice HOF.out H12.out)
  have HO3:Hid (Off (S1.or S2) w wr):=h! ((HO2.out.mono fun q _ h=>.inl h).trans (HOF.out.mono fun q _ h=>.inr h))
  have hng:¬ (S1.or S2) g:=fun h=>h.elim HN1.out HN2.out
  have c2:=(HO3.out.cell (b:=g) (o:=o+2) hgl hng).trans HC2.out
  have c3:=(HO3.out.cell (b:=g) (o:=o+3) hgl hng).trans HC3.out
  have hgr:g < wr.heap.size:=bA hgl HO3.out.size
  have HFR3:Hid (∀ o,wr.frozen? ⟨g,o,none⟩=false):=h! (fun o=>(HO3.out.frozen (b:=g) (o:=o) hgl hng).trans (HFR.out o))
  have HC33:=h! c3
  clear HOL hlt hi HOF HPW HO2
  obtain ⟨top,htop⟩ : ∃ top,top=x.term.op:=⟨_,rfl⟩
  rw [<-htop] at c2
  have HTOP:=h! htop
  clear htop
  by_cases ho2:top=2
  ·have hq:(top == 2)=true:=by simpa using ho2
   have HOP:Hid (x.term.op=2 \/ x.term.op=3):=h! (.inl (by rw [<-HTOP.out];exact ho2))
   clear ho2
   have HCALL:=h! (HST.out wr x.term.val HV64.out (HO3.out.mono fun q _ h=>h.elim (HD1.out q) (HD2.out q)))
   go_wp2_with (go_at_fn k;refine HCALL.out.mono ?_;rintro e w9 ⟨rfl,hb⟩;have HB9:=h! hb;have c39:=(hb.cell (p:=⟨g,o+3,none⟩) hgr).trans HC33.out;have f39:∀ o,w9.frozen? ⟨g,o,none⟩=false:=(fun o=>(hb.frozen (p:=⟨g,o,none⟩) hgr).trans (HFR3.out o));clear hb)
   refine bodyPost_end (v:=.tuple #[]) (by simp [results,Tryz.results92,go_sem, *]) rfl ⟨w9,rfl,HO3.out.trans (Off.of_below HB9.out _),by rw [<-HNP.out];exact HPW3.out.off OPhi.nice (Off.of_below HB9.out Foot.none) (fun _ _ h=>h),by rw [<-HNC.out];exact HCW.out.off OInstr.nice (Off.of_below HB9.out Foot.none) (fun _ _ h=>h),.inl ⟨HOP.out,rfl⟩⟩
  have hq:(top == 2)=false:=by simpa using ho2
  by_cases ho3:top=3
  ·have hq3:(top == 3)=true:=by simpa using ho3
   have HOP:Hid (x.term.op=2 \/ x.term.op=3):=h! (.inr (by rw [<-HTOP.out];exact ho3))
   clear ho2 ho3
   have HCALL:=h! (HST.out wr x.term.val HV64.out (HO3.out.mono fun q _ h=>h.elim (HD1.out q) (HD2.out q)))
   go_wp2_with (go_at_fn k;refine HCALL.out.mono ?_;rintro e w9 ⟨rfl,hb⟩;have HB9:=h! hb;have c39:=(hb.cell (p:=⟨g,o+3,none⟩) hgr).trans HC33.out;have f39:∀ o,w9.frozen? ⟨g,o,none⟩=false:=(fun o=>(hb.frozen (p:=⟨g,o,none⟩) hgr).trans (HFR3.out o));clear hb)
   refine bodyPost_end (v:=.tuple #[]) (by simp [results,Tryz.results92,go_sem, *]) rfl ⟨w9,rfl,HO3.out.trans (Off.of_below HB9.out _),by rw [<-HNP.out];exact HPW3.out.off OPhi.nice (Off.of_below HB9.out Foot.none) (fun _ _ h=>h),by rw [<-HNC.out];exact HCW.out.off OInstr.nice (Off.of_below HB9.out Foot.none) (fun _ _ h=>h),.inl ⟨HOP.out,rfl⟩⟩
  have hq3:(top == 3)=false:=by simpa using ho3
  have HOP:Hid (¬ (x.term.op=2 \/ x.term.op=3)):=h! (by rw [<-HTOP.out];exact fun h=>h.elim ho2 ho3)
  clear ho2 ho3
  go_wp2
  refine bodyPost_end (v:=.tuple #[]) (by simp [results,Tryz.results92,go_sem, *]) rfl ⟨wr,rfl,HO3.out,by rw [<-HNP.out];exact HPW3.out,by rw [<-HNC.out];exact HCW.out,.inr ⟨HOP.out,rfl⟩⟩
def MapR (w:World) (S:Foot) (bv:Value) (xs:List BlockD) (to:Int -> Int) (e:Ending) (w' : World):Prop:=e = .returned (.tuple #[])/\Off S w w' /\ eX w' S bv (xs.map (mapB to))
theorem aBR {W W1 w9:World} {S S1 S2:Foot} {xs:List BlockD} {ab:Option Addr} {cb g i:Nat} {x:BlockD} {to:Int -> Int} (hx:xs[i]? = some x) (hto:In64 (to x.term.val)) (hg:ab=some ⟨g,0,none⟩)
  (h1:eX W1 S (.slice ab xs.length cb) ((gJ (mapB to) xs i).set i { x with phis:=x.phis.map (mapP to),code:=x.code.map (mapX to) }))
  (hc:((x.term.op=2 \/ x.term.op=3)/\w9=W1.setCell ⟨g,i * 6+3,none⟩ (.int .i64 (to x.term.val))) \/ (¬ (x.term.op=2 \/ x.term.op=3)/\w9=W1)) :
  eX w9 S (.slice ab xs.length cb) (gJ (mapB to) xs (i+1)):=by
 have hil:i < xs.length:=(aD.1 hx).1
 rw [<-gU (g:=mapB to) hx]
 rcases hc with ⟨ho,rfl⟩ | ⟨ho,rfl⟩
 ·have h2:=eX.val h1 (j:=i) (x := { x with phis:=x.phis.map (mapP to),code:=x.code.map (mapX to) }) (by rw [List.getElem?_set_self (by rw [eY];exact hil)]) (g:=g) (cap:=cb) (by rw [cE,eY,hg]) hto
  rw [List.set_set] at h2
  have e:mapB to x = { x with phis:=x.phis.map (mapP to),code:=x.code.map (mapX to),term := { x.term with val:=to x.term.val } }:=by
   rw [yN];unfold mapT;rw [if_pos ho]
  rw [e];exact h2
 ·have e:mapB to x = { x with phis:=x.phis.map (mapP to),code:=x.code.map (mapX to) }:=by
   rw [yN];unfold mapT;rw [if_neg ho]
  rw [e];exact h1
set_option maxRecDepth 100000 in
theorem mapC {w:World} {b cb:Nat} {ab:Option Addr} {xs:List BlockD} {S:Foot} {k:FuncId} {cap:Array Value} {to:Int -> Int} (hc:w.cell? ⟨b,3,none⟩=some (.slice ab xs.length cb)) (hbl:b < w.heap.size) (hbS:¬ S b)
  (hO:eX w S (.slice ab xs.length cb) xs) (eg:Enters Tryz.prog k) (hto:∀ v,In64 v -> In64 (to v)) (hstep:qY k cap to S w) :
  Calls Tryz.prog 49 #[.pointer (some ⟨b,0,none⟩),.func (.func k) #[] cap] w (MapR w S (.slice ab xs.length cb) xs to):=by
 have HC:=h! hc
 have HO:=h! hO
 have HTO:=h! hto
 have HST:=h! hstep
 have HEG:=h! eg
 have hnb:xs.length <= 17592186044416:=by obtain ⟨cs,G,F,hp⟩:=hO;exact hp.row.big
 obtain ⟨nb,hnb'⟩ : ∃ nb,nb=xs.length:=⟨_,rfl⟩
 rw [<-hnb'] at hc hnb HC HO ⊢
 have HNB:=h! hnb'
 have HBS:=h! hbS
 clear hO hto hstep eg hnb' hbS
 go_enter Tryz.func49,Tryz.ntmps49
 go_wp2_with fail
 clear hc
 go_loopw [10] (fun iv wr => ∃ i:Nat,i <= nb/\iv = .int .i64 i/\eX wr S (.slice ab nb cb) (gJ (mapB to) xs i)/\Off S w wr) (fun iv _=>nb - (intOf iv).toNat)
 case atStart=>exact ⟨0,aJ _,rfl,by rw [gN];exact HO.out,Off.refl _ _⟩
 case round =>
  obtain ⟨i,hi,rfl,hol,ho⟩:=hrel
  have HOF:=h! ho
  have HOL:=h! hol
  clear hol ho
  by_cases hlt:i < nb
  ·obtain ⟨x,hx⟩ : ∃ x,xs[i]? = some x:=⟨_,aC (by rw [<-HNB.out];exact hlt)⟩
   obtain ⟨g,cap',ap,ai,at_,cp,ci,ct,S1,S2,hv,hgl,hSg,hBC,hfr,hO1,hO2,d1,d2,h12,n1,n2,hclose⟩:=eX.opened HOL.out (j:=i) (x:=x) (by rw [gZ];exact hx)
   rw [eY, <-HNB.out] at hv
   injection hv with e1 e2 e3
   subst e1
   subst e3
   have HX:=h! hx
   have HCL:=h! hclose
   have HSG:=h! hSg
   have HD1:=h! d1
   have HD2:=h! d2
   have hv64:=hBC.val64
   have HV64:=h! hv64
   have HCALL:=h! (yZ hBC hgl hfr hO1 hO2 n1 n2 h12 d1 d2 HEG.out HTO.out (HST.out.off HOF.out))
   have c3:=(HOF.out.cell (b:=b) (o:=3) hbl HBS.out).trans HC.out
   clear hx hclose hSg d1 d2 hBC hfr hO1 hO2 h12 n1 n2 e2 hgl hv64
   go_wp2_with (refine HCALL.out.mono ?_;rintro e w9 ⟨W1,rfl,hoff,hps,hcs,hcase⟩;have HNX:Hid (eX w9 S (.slice (some ⟨g,0,none⟩) nb cb) (gJ (mapB to) xs (i+1))):=h! (by rw [HNB.out];exact aBR (W:=wr) (S1:=S1) (S2:=S2) HX.out (HTO.out _ HV64.out) rfl (by rw [<-HNB.out];exact HCL.out W1 _ _ hoff hps hcs) hcase);have HNO:Hid (Off S w w9):=h! (HOF.out.trans ((hoff.mono fun q _ h=>h.elim (HD1.out q) (HD2.out q)).trans (by rcases hcase with ⟨_,rfl⟩ | ⟨_,rfl⟩;exact (Off.set W1 ⟨g,i * 6+3,none⟩ _).mono fun z _ hz=>(by have h9:z=g:=hz;rw [h9];exact HSG.out);exact Off.refl _ _)));clear hoff hps hcs hcase c3)
   go_roundw
   case rel=>exact ⟨i+1,hlt,by go_num,HNX.out,HNO.out⟩
   simp [intOf];omega
  obtain rfl:nb=i:=by omega
  have HE:Hid (eX wr S (.slice ab nb cb) (xs.map (mapB to))):=h! (by have h9:=HOL.out;rw [HNB.out,iA, <-HNB.out] at h9;exact h9)
  clear HOL
  go_wp2
  exact bodyPost_end (v:=.tuple #[]) (by simp [results,Tryz.results49,go_sem, *]) rfl ⟨rfl,HOF.out,HE.out⟩
end Go.Proofs.YtagabiidbbhhmaaGreat
