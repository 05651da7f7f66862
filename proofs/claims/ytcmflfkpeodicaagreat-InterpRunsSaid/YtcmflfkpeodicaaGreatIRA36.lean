/- Part 36. -/
import Derived.Test.YtcmflfkpeodicaaGreatIRA33
import Derived.Test.YtcmflfkpeodicaaGreatIRA35
namespace Go.Proofs.YtcmflfkpeodicaaGreat
set_option linter.all false
open Go.RowKit
private theorem fG.alloc {w0 W:World} (h:fG w0 W) (o:Obj):fG w0 (W.alloc o):=h.later ((Below.refl _ _).alloc (aF _) o)
theorem RefP.alloc {c:RefC} {W:World} {b:Nat} {s:RunS} {o:OverD} {dead:Bool} {ov av vv xv cv:Value} {F:Nat -> Foot} (h:RefP c W b s o dead ov av vv xv cv F) (ob:Obj):RefP c (W.alloc ob) b s o dead ov av vv xv cv F:=h.later ((Below.refl _ _).alloc (aF _) ob)
theorem RefP.outs {c:RefC} {W W1:World} {b:Nat} {s:RunS} {ov av vv xv cv u:Value} {F:Nat -> Foot} {G:Foot} {xs:List Int} (h:RefP c W b s ⟨0,0,0⟩ false ov av vv xv cv F) (ho:Off (F 1) W W1) (hG:∀ k,G k -> F 1 k \/ W.heap.size <= k) (hB:c.base <= W.heap.size)
  (hu:eM W1 G u xs):RefP c (W1.setCell ⟨b,7,none⟩ u) b { s with out:=xs } ⟨0,0,0⟩ false u av vv xv cv (newF F 1 G):=by
 have hne:∀ j,j ≠ 1 -> (F j).off (F 1):=fun j hj=>h.apart j 1 hj
 have hap:=jO (i:=1) (G:=G) h.apart (fun _ _ hk=>h.lt hk) hG
 have hoff:=Off.set W1 ⟨b,7,none⟩ u
 have hb0:newF F 1 G 0 b:=by rw [eV F 1 G (by omega)];exact (h.b0 b).2 rfl
 have hq:∀ j,j ≠ 0 -> (newF F 1 G j).off (Foot.one b):=fun j hj k hk e=>hap j 0 hj k hk (by cases e;exact hb0)
 have hq' : ∀ j,j ≠ 0 -> j ≠ 1 -> (F j).off (Foot.one b):=fun j hj hj1=>by have h9:=hq j hj;rwa [eV F 1 G hj1] at h9
 have hbx:=(h.box.off ho (fun e=>h.apart 0 1 (by omega) _ ((h.b0 _).2 rfl) e)).set 7 u
 refine ⟨hbx,by rw [eV F 1 G (by omega)];exact h.b0, ?_, ?_, ?_, ?_, ?_,h.v64,hap, ?_, ?_⟩
 ·have h9:=hq 1 (by omega)
  rw [iQ] at h9 ⊢
  exact hu.off hoff h9
 ·rw [eV F 1 G (by omega)];exact (h.arr.off OLis.nice ho (hne 2 (by omega))).off OLis.nice hoff (hq' 2 (by omega) (by omega))
 ·rw [eV F 1 G (by omega)];exact (h.vis.off ho (hne 3 (by omega))).off hoff (hq' 3 (by omega) (by omega))
 ·rw [eV F 1 G (by omega)];exact (h.val.off ho (hne 4 (by omega))).off hoff (hq' 4 (by omega) (by omega))
 ·rw [eV F 1 G (by omega)];exact (h.cel.off ho (hne 5 (by omega))).off hoff (hq' 5 (by omega) (by omega))
 ·intro j k hk
  unfold newF at hk
  by_cases e:j=1
  ·omega
  rw [if_neg e] at hk;exact h.six j k hk
 ·intro j k hk
  unfold newF at hk
  by_cases e:j=1
  ·rw [if_pos e] at hk
   rcases hG k hk with h9 | h9
   ·exact h.base 1 k h9
   omega
  rw [if_neg e] at hk;exact h.base j k hk
theorem RefP.rok {c:RefC} {W W' : World} {b:Nat} {s:RunS} {o:OverD} {dead:Bool} {ov av vv xv cv:Value} {F:Nat -> Foot} {D:Foot} (hD:∀ k,D k ↔ ∃ i,F i k) (h:RefP c W b s o dead ov av vv xv cv F) (hb:Below W.heap.size W W'):ROk c W b D s o dead W' :=
 ROk.of hD (h.later hb) (Off.of_below hb _) fun _ _ hk=>.inl hk
set_option maxHeartbeats 25600000 in
set_option maxRecDepth 100000 in
theorem aF7 {c:RefC} {w:World} {b:Nat} {D:Foot} {s:RunS} {ar ce:Int} {v:Value} {x:InstrD} (hm:RefM c w b D s ⟨0,0,0⟩ false) (hR:RunOk ar ce s) (hx:InsOk ar ce x) (hv:mY w v x) (hi:Ints w c.iv c.ids) (hr:Rise c.ids) (hids:∀ y ∈ x.args,y ∈ c.ids) :
  Calls Tryz.prog 86 #[.pointer (some ⟨b,0,none⟩),v] w (ResQ c w b D (fA x s)):=by
 obtain ⟨u,rfl,ha⟩:=hv
 obtain ⟨aa,ca,rfl⟩:=ha.form
 have HB:=h! (hm.base b hm.b0)
 have hbl:=hm.lt b hm.b0
 obtain ⟨ov,av,vv,xv,cv,F,hP,hD⟩:=hm
 obtain ⟨op,id,args,n⟩:=x
 simp only at ha hids ⊢
 obtain ⟨al,hal⟩ : ∃ al,al=args.length:=⟨_,rfl⟩
 rw [<-hal]
 obtain ⟨a2,c2,ab,ao,hae, -, -,hab,hax⟩:=ha.parts
 rw [<-hal] at hae hab hax
 cases hae
 have HP:=h! hP
 have HD:=h! hD
 have HR:=h! hR
 have HX:=h! hx
 have HI0:=h! hi
 have HRI:=h! hr
 have HIDS:=h! hids
 have HAL:=h! hal
 have HAB:=h! hab
 have HAX:=h! hax
 have hal3:al <= 3:=by have h9:=hx.args;have:=aAK op;simp only at h9;omega
 have HVL:Hid ((args.map s.vals).length=al):=h! (by rw [bD,hal])
 have HVG:Hid (∀ i,In64 ((args.map s.vals).getD i 0)):=h! (fun i=>by
  rw [aH]
  cases h9:(args.map s.vals)[i]? with
  | none=>exact ⟨by decide,by decide⟩
  | some y =>
   have h10:=aG h9
   rw [aY] at h10
   obtain ⟨q,_,rfl⟩:=h10
   exact hP.v64 q)
 clear hP hD hR hx hal hab hax ha hi hr hids
 go_enter Tryz.func86,Tryz.ntmps86
 go_upto_region 1 with (fail)
 have hA_:=(Below.refl w.heap.size w).alloc (aF _) (.cells #[.int .i64 op,.int .i64 id,.slice aa al ca,.int .i64 n] 69)
 have HW:=h! hA_
 clear hA_
 have B3:=h! (Box.new w #[.int .i64 op,.int .i64 id,.slice aa al ca,.int .i64 n] 69)
 generalize w.alloc (.cells #[.int .i64 op,.int .i64 id,.slice aa al ca,.int .i64 n] 69)=wv at *
 obtain ⟨lB3,cB3,fB3⟩:=B3.out
 have HPV:=h! (HP.out.later HW.out)
 have HIV:=h! (HI0.out.below HW.out)
 have B3V:=B3
 have HWV:=HW
 obtain ⟨W3,hW3⟩ : ∃ W3,W3=wv:=⟨_,rfl⟩
 have HS:Hid (fG W3 wv):=h! (by rw [hW3];exact Below.refl _ _)
 rw [<-hW3] at HPV B3V HWV HIV
 have hW3w:w.heap.size < W3.heap.size:=by rw [hW3];omega
 clear hW3
 --@P
 have HS2:Hid (fG W3 (wv.alloc (.cells #[] 3))):=h! (HS.out.alloc _)
 go_wp2_with fail
 go_loopw [5,6] (fun t i wr => ∃ (q:Nat) (S:Foot) (a:Option Addr) (c5:Nat),q <= al/\i = .int .i64 q/\t = .slice a q c5/\eM wr S (.slice a q c5) ((args.map s.vals).take q)/\jY W3.heap.size S/\fG W3 wr) (fun _ i _=>al - (intOf i).toNat)
 case atStart=>exact ⟨0,Foot.none,_,0,aP _,rfl,rfl,eM.nil _,fun _ h=>h.elim,HS2.out⟩
 case round =>
  obtain ⟨q,S,a5,c5,hq,rfl,rfl,hO,hF,hs⟩:=hrel
  clear lB3 cB3 fB3
  clear HS HS2 B3 HW
  have HS:=h! hs
  have HO:=h! hO
  have HF:=h! hF
  have HW:Hid (Below w.heap.size w wr):=h! (HWV.out.trans (Below.mono hs HWV.out.size))
  have B3:=h! (B3V.out.later hs)
  have HPR:=h! (HPV.out.later hs)
  have HIR:=h! (HIV.out.below hs)
  have hsr:W3.heap.size <= wr.heap.size:=Below.size hs
  clear hs hO hF
  obtain ⟨lB3,cB3,fB3⟩:=B3.out
  by_cases hlt:q < al
  ·obtain ⟨rfl,habl⟩:=HAB.out (by omega)
   obtain ⟨y,hy⟩ : ∃ y,y=args.getD q 0:=⟨_,rfl⟩
   have hyc:=(HW.out.cell (p:=⟨ab,ao+q,none⟩) habl).trans (HAX.out q hlt)
   rw [<-hy] at hyc
   have hyi:args[q]? = some y:=by rw [hy];exact eX args q (by have:=HAL.out;omega)
   have HTK:Hid ((args.map s.vals).take (q+1)=(args.map s.vals).take q ++ [s.vals y]):=h! (by
    rw [bU,aU,hyi];rfl)
   have HYI:=h! (HIDS.out y (aG hyi))
   have HY64:=h! (HPR.out.v64 y)
   have HLN:Hid (((args.map s.vals).take q).length=q):=h! (by rw [aX,HVL.out];omega)
   have HOH:Hid (Holds [] W3.heap.size wr S (fun W=>eM W S (.slice a5 q c5) ((args.map s.vals).take q))):=h! (jF HO.out HF.out)
   have hablr:ab < wr.heap.size:=aL habl HW.out.size
   clear hy hyi HO
   go_upto_region 5 with (fail)
   have KY:=h! hyc
   clear hyc
   refine gK 9 (fun kz=>match kz with | 7=>.const (.int .i64 (s.vals y)) | 8=>.made wr.heap.size (fun b=>.slice (some ⟨b,0,none⟩) 1 1) #[.int .i64 (s.vals y)] | _=>.plain) (by kernel_rfl) (by simp) ?_ (fun ν => ?_)
   ·(intro k;(try dsimp only);split <;> first | exact True.intro | (intro u w1 w2 hu hb;exact hu.below hb))
   simp only [aK,aR,aM,aT]
   iterate 7 (refine Grow.val (v := ?_) rfl rfl (fun wg hbg hdg => ?_) ?_;rotate_left;(focus ((obtain ⟨lg0,cg0,fg0⟩:=B3.out.later hbg);(have hyw:=(hbg.cell (p:=⟨ab,ao+q,none⟩) hablr).trans KY.out);clear hbg hdg;first | (go_simp;done) | (go_simp;with_reducible rfl)));simp only [Act.put,aA,aC,aD])
   refine Grow.call (f := ?_) (args := ?_) rfl (fun wg => ?_) (fun wg hbg hdg => ?_) ?_
   rotate_left 2
   focus (first | (go_simp;done) | (go_simp;refine And.intro ?_ ?_ <;> with_reducible rfl) | (go_simp;with_reducible rfl))
   focus exact Calls.mono ((rGet (HPR.out.later hbg).mach (HIR.out.below hbg) HRI.out HYI.out)) (fun e w2 ⟨he,hb2⟩=>⟨_,he,rfl,hb2⟩)
   simp only [Act.put,Known.val,aA,aC,aD]
   refine Grow.made (T := ?_) rfl rfl (fun wg hbg hdg => ?_) ?_
   rotate_left
   focus ((obtain ⟨lg0,cg0,fg0⟩:=B3.out.later hbg);(have hyw:=(hbg.cell (p:=⟨ab,ao+q,none⟩) hablr).trans KY.out);clear hbg hdg;first | (go_simp;done) | (go_simp;with_reducible rfl))
   simp only [Act.put,Known.val,aA,aC,aD]
   intro wg hb hf hap
   obtain ⟨bBN,hνBN,hBBN,hXBN⟩:=hf 8 (by omega)
   have nBNB3:bBN ≠ w.heap.size:=fun e=>by have:=lB3;omega
   have nB3BN:w.heap.size ≠ bBN:=fun e=>nBNB3 e.symm
   simp only [hνBN]
   clear hνBN
   clear hap
   have gBN:=aJ HW.out.size hBBN
   clear hBBN
   clear lB3 cB3 fB3
   replace B3:=h! (B3.out.later hb)
   replace HOH:=h! (HOH.out.later hb)
   replace HS:=h! (HS.out.later hb)
   replace HW:=h! (HW.out.trans (hb.mono HW.out.size))
   clear hb
   have BN:=h! hXBN
   clear hXBN
   obtain ⟨lB3,cB3,fB3⟩:=B3.out
   obtain ⟨lBN,cBN,fBN⟩:=BN.out
   clear hf
   clear lB3 cB3 fB3 lBN cBN fBN
   refine jC rfl _ _ rfl rfl rfl HLN.out HOH.out.now BN.out HY64.out (by omega) ?_
   intro g1 c1 w10 q1 q2 q3
   have HS10:Hid (fG W3 w10):=h! (Below.trans HS.out (q3.below (Below.size HS.out) (fun k _ hk=>HF.out k hk)))
   have HO10:Hid (eM w10 (Foot.one g1) (.slice (some ⟨g1,0,none⟩) (q+1) c1) ((args.map s.vals).take (q+1))):=h! (by rw [HTK.out];exact q1)
   have HF10:Hid (jY W3.heap.size (Foot.one g1)):=h! (fun k hk=>by
    cases hk
    rcases q2 with h | h
    ·exact HF.out _ h
    exact aJ (Below.size HS.out) h)
   clear q1 q2 q3
   go_wp2
   go_roundw
   case rel=>exact ⟨q+1,_,_,_,hlt,by go_num,rfl,HO10.out,HF10.out,HS10.out⟩
   simp [intOf];omega
  obtain rfl:al=q:=by omega
  have HV:Hid (eM wr S (.slice a5 al c5) (args.map s.vals)):=h! (by
   have h9:=HO.out
   rw [aI (by rw [HVL.out];omega)] at h9
   exact h9)
  clear HO hlt hq
  have HWR:=HW
  have hSD:∀ k,S k -> ¬ D k:=fun k hk hd=>by
   obtain ⟨i,hi⟩:=(HD.out k).1 hd
   have:=HP.out.lt hi
   have:=HF.out k hk
   omega
  have HSD:=h! hSD
  clear hSD
  --@Q
  have hop:=qR HX.out.shp
  simp only at hop
  rcases hop with rfl | rfl | rfl | rfl | rfl | rfl | rfl | rfl | rfl | rfl | hop
  ·have HI:Hid (fA ⟨1,id,args,n⟩ s = .go n s):=h! (by unfold fA;simp)
   rw [HI.out]
   go_wp2
   go_ret
   exact ⟨rfl,HP.out.rok HD.out HWR.out⟩
  ·have HI:Hid (fA ⟨2,id,args,n⟩ s = .go n s):=h! (by unfold fA;simp)
   rw [HI.out]
   go_wp2
   go_ret
   exact ⟨rfl,HP.out.rok HD.out HWR.out⟩
  ·skip
   obtain ⟨hn0,hn1⟩:=mI (show nOk ar ce 3 n=true from HX.out.n)
   obtain ⟨nn,rfl⟩ : ∃ nn:Nat,n=nn:=⟨n.toNat,by omega⟩
   obtain ⟨a,han⟩ : ∃ a,s.arrays[nn]? = some a:=⟨_,aB (by have:=HR.out.al;omega)⟩
   have HAN:=h! han
   clear han hn0 hn1
   have HI:=h! (rZ (op:=18) (id:=id) (args:=args) (s:=s) rfl rfl HAN.out)
   obtain ⟨ga,cap,c8,ad,hav,hgal, -,hcell, -, -⟩:=HPR.out.arr.open HAN.out
   subst hav
   obtain ⟨lm,cm,fm⟩:=HPR.out.box
   have hnl:nn < s.arrays.length:=(aE.1 HAN.out).1
   go_upto_region 11 with (fail)
   go_quiet (fail)
   clear cm fm hcell
   go_wp2
   go_ret
   rw [HI.out]
   exact ⟨rfl,HP.out.rok HD.out (eK HWR.out nq)⟩
  ·skip
   go_wp2_with fail
   refine (uX (u:=.slice aa al ca) HPR.out.mach HR.out HX.out (by omega) HV.out (fun k hk hd=>HSD.out k hk ((HD.out k).2 hd))).mono ?_
   rintro e w2 hq
   cases hr:fA ⟨19,id,args,n⟩ s with
   | go v s1 =>
    rw [hr] at hq
    obtain ⟨rfl,hk⟩:=hq
    have HK:=h! hk
    have HE:=h! hr
    clear hk hr
    go_wp2
    go_ret
    rw [HE.out]
    exact ⟨rfl,ROk.trans (Off.of_below HWR.out D) (fun k hk=>.inl ((HD.out k).2 hk)) HK.out⟩
   | over o s1 =>
    rw [hr] at hq
    obtain ⟨⟨v,rfl⟩,hk⟩:=hq
    have HK:=h! hk
    have HE:=h! hr
    clear hk hr
    go_wp2
    go_ret
    rw [HE.out]
    exact ⟨⟨_,rfl⟩,ROk.trans (Off.of_below HWR.out D) (fun k hk=>.inl ((HD.out k).2 hk)) HK.out⟩
  ·skip
   go_wp2_with fail
   refine (uX (u:=.slice aa al ca) HPR.out.mach HR.out HX.out (by omega) HV.out (fun k hk hd=>HSD.out k hk ((HD.out k).2 hd))).mono ?_
   rintro e w2 hq
   cases hr:fA ⟨21,id,args,n⟩ s with
   | go v s1 =>
    rw [hr] at hq
    obtain ⟨rfl,hk⟩:=hq
    have HK:=h! hk
    have HE:=h! hr
    clear hk hr
    go_wp2
    go_ret
    rw [HE.out]
    exact ⟨rfl,ROk.trans (Off.of_below HWR.out D) (fun k hk=>.inl ((HD.out k).2 hk)) HK.out⟩
   | over o s1 =>
    rw [hr] at hq
    obtain ⟨⟨v,rfl⟩,hk⟩:=hq
    have HK:=h! hk
    have HE:=h! hr
    clear hk hr
    go_wp2
    go_ret
    rw [HE.out]
    exact ⟨⟨_,rfl⟩,ROk.trans (Off.of_below HWR.out D) (fun k hk=>.inl ((HD.out k).2 hk)) HK.out⟩
  ·skip
   go_wp2_with fail
   refine (uX (u:=.slice aa al ca) HPR.out.mach HR.out HX.out (by omega) HV.out (fun k hk hd=>HSD.out k hk ((HD.out k).2 hd))).mono ?_
   rintro e w2 hq
   cases hr:fA ⟨20,id,args,n⟩ s with
   | go v s1 =>
    rw [hr] at hq
    obtain ⟨rfl,hk⟩:=hq
    have HK:=h! hk
    have HE:=h! hr
    clear hk hr
    go_wp2
    go_ret
    rw [HE.out]
    exact ⟨rfl,ROk.trans (Off.of_below HWR.out D) (fun k hk=>.inl ((HD.out k).2 hk)) HK.out⟩
   | over o s1 =>
    rw [hr] at hq
    obtain ⟨⟨v,rfl⟩,hk⟩:=hq
    have HK:=h! hk
    have HE:=h! hr
    clear hk hr
    go_wp2
    go_ret
    rw [HE.out]
    exact ⟨⟨_,rfl⟩,ROk.trans (Off.of_below HWR.out D) (fun k hk=>.inl ((HD.out k).2 hk)) HK.out⟩
  ·skip
   go_wp2_with fail
   refine (uX (u:=.slice aa al ca) HPR.out.mach HR.out HX.out (by omega) HV.out (fun k hk hd=>HSD.out k hk ((HD.out k).2 hd))).mono ?_
   rintro e w2 hq
   cases hr:fA ⟨22,id,args,n⟩ s with
   | go v s1 =>
    rw [hr] at hq
    obtain ⟨rfl,hk⟩:=hq
    have HK:=h! hk
    have HE:=h! hr
    clear hk hr
    go_wp2
    go_ret
    rw [HE.out]
    exact ⟨rfl,ROk.trans (Off.of_below HWR.out D) (fun k hk=>.inl ((HD.out k).2 hk)) HK.out⟩
   | over o s1 =>
    rw [hr] at hq
    obtain ⟨⟨v,rfl⟩,hk⟩:=hq
    have HK:=h! hk
    have HE:=h! hr
    clear hk hr
    go_wp2
    go_ret
    rw [HE.out]
    exact ⟨⟨_,rfl⟩,ROk.trans (Off.of_below HWR.out D) (fun k hk=>.inl ((HD.out k).2 hk)) HK.out⟩
  ·skip
   --@O
   obtain rfl:al=1:=by have h9:=HX.out.args;rw [<-HAL.out] at h9;rw [h9];rfl
   obtain ⟨b5,o5,c9,he5,hb5,hc5⟩:=fK HV.out.ints (by rw [HVL.out];omega)
   rw [HVL.out] at he5
   cases he5
   have hy5:=hc5 0 (by rw [HVL.out];omega)
   rw [bW] at hy5
   obtain ⟨y,hy⟩ : ∃ y,y=(args.map s.vals).getD 0 0:=⟨_,rfl⟩
   rw [<-hy] at hy5
   have HY:=h! hy.symm
   have HY64:Hid (In64 y):=h! (by rw [hy];exact HVG.out 0)
   clear hc5 hy
   have HI:=h! (sB (id:=id) (n:=n) (args:=args) (s:=s) HY.out)
   obtain ⟨oa,oc,hov⟩:=HPR.out.out.ints.form
   subst hov
   obtain ⟨ol,hol⟩ : ∃ ol,ol=s.out.length:=⟨_,rfl⟩
   rw [<-hol] at HPR HP HPV HI
   have HOL:=h! hol
   have hol4:ol <= 4096:=by rw [hol];exact HR.out.out
   clear hol
   obtain ⟨lm,cm,fm⟩:=HPR.out.box
   by_cases hfull:ol=4096
   ·rw [if_pos hfull] at HI
    have ht:decide ((4096:Int) <= ((ol:Nat):Int))=true:=by simp;omega
    clear hfull
    go_wp2_with fail
    refine (rEnd HPR.out.mach 4 0 0).mono ?_
    rintro e w2 ⟨rfl,hb⟩
    have HB2:=h! hb
    clear hb
    go_wp2
    go_ret
    rw [HI.out]
    exact ⟨⟨_,rfl⟩,ROk.trans (Off.of_below HWR.out D) (fun k hk=>.inl ((HD.out k).2 hk)) HB2.out⟩
   rw [if_neg hfull] at HI
   have ht:decide ((4096:Int) <= ((ol:Nat):Int))=false:=by simp;omega
   go_upto_region 16 with (fail)
   clear ht lm cm fm
   obtain ⟨XF,hX1,hX2⟩ : ∃ XF:Nat -> Foot,(∀ q k,q ≠ 10 -> ¬ XF q k) /\ ∀ k,XF 10 k ↔ F 1 k:=⟨fun q=>if q=10 then F 1 else Foot.none,fun q k hq h=>by simp only [if_neg hq] at h;exact h.elim,fun k=>by simp⟩
   have HX1:=h! hX1
   have HX2:=h! hX2
   have HXA:Hid (∀ k,Four.All XF k -> F 1 k):=h! (fun k ⟨q,hq⟩=>by
    by_cases e:q=10
    ·subst e;exact (hX2 k).1 hq
    exact absurd hq (hX1 q k e))
   clear hX1 hX2
   have xW:∀ q k,XF q k -> k < wr.heap.size:=fun q k h=>HPR.out.lt (HXA.out k ⟨q,h⟩)
   have xI:∀ w w' : World,True -> Below w.heap.size w w' -> True:=fun _ _ _ _=>trivial
   have xI0:True:=trivial
   have xB3:¬ Four.All XF w.heap.size:=fun h=>by have:=HP.out.lt (HXA.out _ h);omega
   have NBM:Hid (¬ F 1 b):=h! (fun h=>HPR.out.apart 0 1 (by omega) _ ((HPR.out.b0 _).2 rfl) h)
   have NB5:Hid (¬ F 1 b5):=h! (fun h=>HSD.out b5 (HV.out.block (by omega)) ((HD.out b5).2 ⟨1,h⟩))
   have HNB3:Hid (¬ F 1 w.heap.size):=h! (fun h=>by have:=HP.out.lt h;omega)
   refine Four.wp_region_grow (XF:=XF) (I:=(fun _=>True)) 11 (fun ν kz=>match kz with | 9=>.made wr.heap.size (fun b=>.slice (some ⟨b,0,none⟩) 1 1) #[.int .i64 y] | 10=>.holds (fun u w' => ∃ (g1 c1:Nat),u = .slice (some ⟨g1,0,none⟩) (ol+1) c1/\eM w' (Foot.one g1) u (s.out ++ [y])/\(F 1 g1 \/ wr.heap.size <= g1)) | _=>.plain) (by kernel_rfl) (by kernel_rfl) ?_ ?_ xW xI xI0 ?_ (fun ν => ?_)
   ·(intro ν k;(try dsimp only);split <;> first | exact True.intro | (intro u w1 w2 hu hb;(obtain ⟨g1,c1,e1,h2,h3⟩:=hu;exact ⟨g1,c1,e1,h2.off hb (fun k _ ⟨q,q1,q2⟩=>HX1.out q k q1 q2),h3⟩)))
   ·(intro ν ν' k h;first | rfl | ((try dsimp only);split <;> first | rfl))
   ·(intro ν j B mk A h;(try dsimp only at h);split at h <;> first | (cases h;exact Nat.le_refl _) | cases h)
   simp only [aK,aR,aM,aT]
   iterate 9 (refine Four.Grow.val (v := ?_) rfl rfl (fun wg hbg hdg => ?_) ?_;rotate_left;(focus ((obtain ⟨lg0,cg0,fg0⟩:=B3.out.off hbg.off xB3);(have hof:Off (F 1) wr wg:=hbg.off.mono (fun k _ hk=>HXA.out k hk);obtain ⟨xl1,xc1,xf1⟩:=HPR.out.box.off hof NBM.out;have hyw:=(hof.cell2 (p:=⟨b5,o5,none⟩) hb5 NB5.out).trans hy5);clear hbg hdg;first | (go_simp;done) | (go_simp;with_reducible rfl)));simp only [Act.put,aA,aC,aD])
   refine Four.Grow.made (T := ?_) rfl rfl (fun wg hbg hdg => ?_) ?_
   rotate_left
   focus ((obtain ⟨lg0,cg0,fg0⟩:=B3.out.off hbg.off xB3);(have hof:Off (F 1) wr wg:=hbg.off.mono (fun k _ hk=>HXA.out k hk);obtain ⟨xl1,xc1,xf1⟩:=HPR.out.box.off hof NBM.out;have hyw:=(hof.cell2 (p:=⟨b5,o5,none⟩) hb5 NB5.out).trans hy5);clear hbg hdg;first | (go_simp;done) | (go_simp;with_reducible rfl))
   simp only [Act.put,Known.val,aA,aC,aD]
   refine Four.Grow.gives rfl (fun wg hbg hdg => ?_) ?_
   focus ((obtain ⟨bx,e9,hbx,hB9⟩:=hdg 9 (by kernel_rfl));simp only [e9];exact pE (xs:=s.out) (n:=ol) _ _ rfl rfl rfl HOL.out.symm (HPR.out.out.off hbg.1 (fun k hk ⟨q,q1,_,q2⟩=>HX1.out q k q1 q2)) hB9 HY64.out (by omega) (fun k hk=>(HX2.out k).2 hk) (fun g1 c1 w'' h2 h3=>⟨g1,c1,rfl,h2,h3.imp_right (aJ hbg.1.size)⟩))
   simp only [Act.put,Known.val,aA,aC,aD]
   intro wg hb hf hap
   obtain ⟨bBN,hνBN,hBBN,hXBN⟩:=hf 9 (by omega)
   have nBNB3:bBN ≠ w.heap.size:=fun e=>by have:=lB3;omega
   have nB3BN:w.heap.size ≠ bBN:=fun e=>nBNB3 e.symm
   simp only [hνBN]
   clear hνBN
   clear hap
   clear lB3 cB3 fB3
   replace B3:=h! (B3.out.off hb.1 xB3)
   have BN:=h! hXBN
   clear hXBN
   obtain ⟨lB3,cB3,fB3⟩:=B3.out
   obtain ⟨lBN,cBN,fBN⟩:=BN.out
   have h10:∃ (g1 c1:Nat), ν 10 = .slice (some ⟨g1,0,none⟩) (ol+1) c1/\eM wg (Foot.one g1) (ν 10) (s.out ++ [y])/\(F 1 g1 \/ wr.heap.size <= g1):=hf 10 (by omega)
   obtain ⟨g1,c1,e10,ho,hg1⟩:=h10
   rw [e10] at ho
   simp only [bH,Nat.reduceAdd,e10]
   have hof:Off (F 1) wr wg:=hb.1.mono (fun k _ hk=>HXA.out k hk)
   have HNEW:Hid (RefP c (wg.setCell ⟨b,7,none⟩ (.slice (some ⟨g1,0,none⟩) (ol+1) c1)) b { s with out:=s.out ++ [y] } ⟨0,0,0⟩ false (.slice (some ⟨g1,0,none⟩) (ol+1) c1) av vv xv cv (newF F 1 (Foot.one g1))):=h! (HPR.out.outs hof (fun k hk=>by cases hk;exact hg1) (aJ HB.out (aJ (bG hbl) HWR.out.size)) ho)
   have HOFW:Hid (Off (fun k => ∃ i,F i k) w (wg.setCell ⟨b,7,none⟩ (.slice (some ⟨g1,0,none⟩) (ol+1) c1))):=h! (((Off.of_below HWR.out _).trans (hof.mono fun k _ hk=>⟨1,hk⟩)).trans ((Off.set wg ⟨b,7,none⟩ _).mono fun k _ hk=>⟨0,(HP.out.b0 k).2 hk⟩))
   have HSUB:Hid (∀ j k,newF F 1 (Foot.one g1) j k -> F j k \/ w.heap.size <= k):=h! (iM fun k hk=>by cases hk;exact hg1.imp_right (aJ HWR.out.size))
   obtain ⟨lm,cm,fm⟩:=HPR.out.box.off hof NBM.out
   clear lB3 cB3 fB3 lBN cBN fBN
   clear ho hof e10 hf hb hy5 hfull hg1
   go_wp2
   go_ret
   rw [HI.out]
   exact ⟨rfl,ROk.of HD.out HNEW.out HOFW.out HSUB.out⟩
  ·skip
   --@G
   obtain ⟨hn0,hn1⟩:=vE (show nOk ar ce 4 n=true from HX.out.n)
   obtain ⟨nn,rfl⟩ : ∃ nn:Nat,n=nn:=⟨n.toNat,by omega⟩
   obtain ⟨z,hz⟩ : ∃ z,s.cells[nn]? = some z:=⟨_,aB (by have:=HR.out.cl;omega)⟩
   have HI:=h! (sC (id:=id) (args:=args) (s:=s) (n:=(nn:Int)) rfl hz)
   obtain ⟨gc,cc,hcv,hgc,hgcl,hcz,hcf, -⟩:=HPR.out.cel.addr hz
   subst hcv
   have hnl:nn < s.cells.length:=(aE.1 hz).1
   obtain ⟨lm,cm,fm⟩:=HPR.out.box
   clear hz
   go_upto_region 19 with (fail)
   go_quiet (fail)
   clear cm fm hcz hcf
   go_wp2
   go_ret
   rw [HI.out]
   exact ⟨rfl,HP.out.rok HD.out (eK HWR.out nq)⟩
  ·skip
   --@S
   obtain rfl:al=1:=by have h9:=HX.out.args;rw [<-HAL.out] at h9;rw [h9];rfl
   obtain ⟨b5,o5,c9,he5,hb5,hc5⟩:=fK HV.out.ints (by rw [HVL.out];omega)
   rw [HVL.out] at he5
   cases he5
   have hy5:=hc5 0 (by rw [HVL.out];omega)
   rw [bW] at hy5
   obtain ⟨y,hy⟩ : ∃ y,y=(args.map s.vals).getD 0 0:=⟨_,rfl⟩
   rw [<-hy] at hy5
   have HY:=h! hy.symm
   have HY64:Hid (In64 y):=h! (by rw [hy];exact HVG.out 0)
   clear hc5 hy
   obtain ⟨hn0,hn1⟩:=vE (show nOk ar ce 4 n=true from HX.out.n)
   obtain ⟨nn,rfl⟩ : ∃ nn:Nat,n=nn:=⟨n.toNat,by omega⟩
   obtain ⟨z,hz⟩ : ∃ z,s.cells[nn]? = some z:=⟨_,aB (by have:=HR.out.cl;omega)⟩
   have HI:=h! (sD (id:=id) (args:=args) (s:=s) (n:=(nn:Int)) rfl HY.out)
   have HZ:=h! hz
   obtain ⟨gc,cc,hcv,hgc,hgcl,hcz,hcf, -⟩:=HPR.out.cel.addr hz
   subst hcv
   have hnl:nn < s.cells.length:=(aE.1 hz).1
   have HGC:=h! hgc
   clear hz hcz hcf hgc
   go_upto_region 21 with (fail)
   refine wp_region_grow 10 (fun _=>.plain) (by kernel_rfl) (by kernel_rfl) ?_ (fun ν => ?_)
   ·exact fun _=>trivial
   simp only [aK,aR,aM,aT]
   iterate 10 (refine Grow.val (v := ?_) rfl rfl (fun wg hbg hdg => ?_) ?_;rotate_left;(focus ((obtain ⟨lg0,cg0,fg0⟩:=B3.out.later hbg);(have hyw:=(hbg.cell (p:=⟨b5,o5,none⟩) hb5).trans hy5;obtain ⟨xl1,xc1,xf1⟩:=(HPR.out.later hbg).box);clear hbg hdg;first | (go_simp;done) | (go_simp;with_reducible rfl)));simp only [Act.put,aA,aC,aD])
   intro wg hb hf hap
   clear hap
   clear lB3 cB3 fB3
   replace B3:=h! (B3.out.later hb)
   replace HPR:=h! (HPR.out.later hb)
   replace HW:=h! (HW.out.trans (hb.mono HW.out.size))
   clear hb
   obtain ⟨lB3,cB3,fB3⟩:=B3.out
   clear hf hy5
   clear lB3 cB3 fB3
   obtain ⟨gc2,cc2,hcv2, -,hgcl2,hcz2,hcf2,hset⟩:=HPR.out.cel.addr HZ.out
   obtain ⟨rfl,rfl⟩ : gc=gc2/\cc=cc2:=by injection hcv2 with q1 q2 q3;injection q1 with q1;injection q1 with q1;exact ⟨q1,q3⟩
   have hs5:=hset y HY64.out
   have HS5:=h! hs5
   clear hset hs5 hcv2
   go_wp2
   go_ret
   rw [HI.out]
   have hoff:=Off.set wg ⟨gc,nn,none⟩ (.int .i64 y)
   refine ⟨rfl,ROk.of (F':=newF F 5 (F 5)) HD.out (HPR.out.turn 5 (by omega) (by omega) (s' := { s with cells:=s.cells.set nn y }) (G:=F 5) (hoff.mono fun k _ hk=>by cases hk;exact HGC.out) (fun k hk=>.inl hk) (aJ HB.out (aJ (bG hbl) HW.out.size)) ⟨rfl,rfl⟩ (by rw [if_neg (by omega)]) (by rw [if_neg (by omega)]) (by rw [if_neg (by omega)]) (by rw [if_neg (by omega)]) (by rw [if_pos rfl];exact HS5.out)) ?_ (fun i k hk => ?_)⟩
   ·exact (Off.of_below HW.out _).trans (hoff.mono fun k _ hk=>by cases hk;exact ⟨5,HGC.out⟩)
   unfold newF at hk
   split at hk
   ·rename_i e;subst e;exact .inl hk
   exact .inl hk
  have HI:=h! (nJ (id:=id) (n:=n) (args:=args) (s:=s) hop)
  --@C
  have e1:(op == 1)=false:=by simp;omega
  have e2:(op == 2)=false:=by simp;omega
  have e3:(op == 18)=false:=by simp;omega
  have e4:(op == 19)=false:=by simp;omega
  have e5:(op == 21)=false:=by simp;omega
  have e6:(op == 20)=false:=by simp;omega
  have e7:(op == 22)=false:=by simp;omega
  have e8:(op == 23)=false:=by simp;omega
  have e9:(op == 24)=false:=by simp;omega
  have e10:(op == 25)=false:=by simp;omega
  clear hop
  go_wp2_with fail
  clear e1 e2 e3 e4 e5 e6 e7 e8 e9 e10
  refine (aDX (op:=op) HV.out.ints).mono ?_
  rintro e w2 ⟨rfl,hb⟩
  have HBC:=h! hb
  clear hb
  obtain ⟨ee,hee⟩ : ∃ ee,ee=nB op (args.map s.vals):=⟨_,rfl⟩
  rw [<-hee] at HI ⊢
  clear hee
  cases h0:(ee != 0)
  ·rw [if_neg (by simpa using h0)] at HI
   go_wp2
   go_ret
   rw [HI.out]
   exact ⟨rfl,HP.out.rok HD.out (HWR.out.trans (HBC.out.mono HWR.out.size))⟩
  rw [if_pos (by simpa using h0)] at HI
  go_wp2_with fail
  refine (rEnd (HPR.out.later HBC.out).mach 2 0 (-1)).mono ?_
  rintro e w3 ⟨rfl,hb3⟩
  have HB3:=h! hb3
  clear hb3
  go_wp2
  go_ret
  rw [HI.out]
  exact ⟨⟨_,rfl⟩,ROk.trans (Off.of_below (HWR.out.trans (HBC.out.mono HWR.out.size)) D) (fun k hk=>.inl ((HD.out k).2 hk)) HB3.out⟩
end Go.Proofs.YtcmflfkpeodicaaGreat
