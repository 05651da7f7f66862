/- Part 32. -/
import Derived.Test.YtcmflfkpeodicaaGreatIRA31
namespace Go.Proofs.YtcmflfkpeodicaaGreat
set_option linter.all false
open Go.RowKit
def nU (w0 W:World):Prop:=Below w0.heap.size w0 W
theorem nU.later {w0 W W' : World} (h:nU w0 W) (hb:Below W.heap.size W W'):nU w0 W':=Below.trans h (hb.mono (Below.size h))
theorem nU.alloc {w0 W:World} (h:nU w0 W) (o:Obj):nU w0 (W.alloc o):=h.later ((Below.refl _ _).alloc (aF _) o)
theorem MachP.alloc {base bs fuel:Nat} {W:World} {bm:Nat} {s:RunS} {o:OverD} {ov av vv cv:Value} {mv:Nat} {m:List (Int × Value)} {F:Nat -> Foot} (h:MachP base bs fuel W bm s o ov av vv cv mv m F) (ob:Obj):MachP base bs fuel (W.alloc ob) bm s o ov av vv cv mv m F:=h.later ((Below.refl _ _).alloc (aF _) ob)
theorem Mach.addr {base bs fuel:Nat} {W:World} {bm:Nat} {s:RunS} {o:OverD} {ov av vv cv:Value} {mv:Nat} {m:List (Int × Value)} {F:Nat -> Foot} (h:MachP base bs fuel W bm s o ov av vv cv mv m F) {nn:Nat} {a:List Int} (hn:s.arrays[nn]? = some a) {j:Nat} (hj:j < a.length):∃ g,MAt W bm nn g:=by
 obtain ⟨ga,cap,c,ad,rfl,hgal,hSga,hcell,hints,hop⟩:=h.arr.open hn
 obtain ⟨g,rfl, -⟩:=hop j _ (aB hj)
 exact ⟨g,ga,_,cap,_,c,h.box.at 4 rfl,hcell⟩
theorem MachP.outs {base bs fuel:Nat} {W W1:World} {bm:Nat} {s:RunS} {ov av vv cv u:Value} {mv:Nat} {m:List (Int × Value)} {F:Nat -> Foot} {G:Foot} {xs:List Int} (h:MachP base bs fuel W bm s ⟨0,0,0⟩ ov av vv cv mv m F) (ho:Off (F 1) W W1) (hG:∀ k,G k -> F 1 k \/ W.heap.size <= k) (hB:base <= W.heap.size)
  (hu:eM W1 G u xs):MachP base bs fuel (W1.setCell ⟨bm,3,none⟩ u) bm { s with out:=xs } ⟨0,0,0⟩ u av vv cv mv m (newF F 1 G):=by
 have hne:∀ j,j ≠ 1 -> (F j).off (F 1):=fun j hj=>h.apart j 1 hj
 have hap:=jO (i:=1) (G:=G) h.apart (fun _ _ hk=>h.lt hk) hG
 have hoff:=Off.set W1 ⟨bm,3,none⟩ u
 have hb0:newF F 1 G 0 bm:=by rw [eV F 1 G (by omega)];exact (h.b0 bm).2 rfl
 have hq:∀ j,j ≠ 0 -> (newF F 1 G j).off (Foot.one bm):=fun j hj k hk e=>hap j 0 hj k hk (by cases e;exact hb0)
 have hq' : ∀ j,j ≠ 0 -> j ≠ 1 -> (F j).off (Foot.one bm):=fun j hj hj1=>by have h9:=hq j hj;rwa [eV F 1 G hj1] at h9
 have hbx:=(h.box.off ho (fun e=>h.apart 0 1 (by omega) _ ((h.b0 _).2 rfl) e)).set 3 u
 refine ⟨hbx,by rw [eV F 1 G (by omega)];exact h.b0, ?_, ?_, ?_, ?_, ?_,h.val, ?_,h.v64,hap, ?_, ?_⟩
 ·have h9:=hq 1 (by omega)
  rw [iQ] at h9 ⊢
  exact hu.off hoff h9
 ·rw [eV F 1 G (by omega)];exact (h.arr.off OLis.nice ho (hne 2 (by omega))).off OLis.nice hoff (hq' 2 (by omega) (by omega))
 ·rw [eV F 1 G (by omega)];exact (h.vis.off ho (hne 3 (by omega))).off hoff (hq' 3 (by omega) (by omega))
 ·have h9:=h.mp.keep (ho.block _ h.mp.lt (fun hk=>h.apart 4 1 (by omega) _ ((h.m4 _).2 rfl) hk))
  exact h9.keep (hoff.block _ h9.lt (hq' 4 (by omega) (by omega) _ ((h.m4 _).2 rfl)))
 ·rw [eV F 1 G (by omega)];exact h.m4
 ·rw [eV F 1 G (by omega)];exact (h.cel.off ho (hne 5 (by omega))).off hoff (hq' 5 (by omega) (by omega))
 ·intro j k hk
  unfold newF at hk
  by_cases e:j=1
  ·omega
  rw [if_neg e] at hk;exact h.six j k hk
 ·intro j k hk
  unfold newF at hk
  by_cases e:j=1
  ·rw [if_pos e] at hk
   rcases hG k hk with h9 | h9
   ·exact h.base 1 k h9
   omega
  rw [if_neg e] at hk;exact h.base j k hk
theorem iM {F:Nat -> Foot} {i:Nat} {G:Foot} {n:Nat} (hG:∀ k,G k -> F i k \/ n <= k):∀ j k,newF F i G j k -> F j k \/ n <= k:=fun j k hk=>by
 unfold newF at hk
 by_cases e:j=i
 ·rw [if_pos e] at hk;rw [e];exact hG k hk
 rw [if_neg e] at hk;exact .inl hk
set_option maxHeartbeats 25600000 in
set_option maxRecDepth 100000 in
theorem aGR {base bs fuel bm:Nat} {w:World} {D:Foot} {s:RunS} {ar ce:Int} {v:Value} {x:InstrD} (hM:Mach base bs fuel w bm D s) (hB:base <= w.heap.size) (hR:RunOk ar ce s) (hx:InsOk ar ce x) (hv:mY w v x) :
  Calls Tryz.prog 138 #[.pointer (some ⟨bm,0,none⟩),v] w (ResR base bs fuel w bm D intV (fA x s)):=by
 obtain ⟨u,rfl,ha⟩:=hv
 obtain ⟨aa,ca,rfl⟩:=ha.form
 obtain ⟨ov,av,vv,cv,mv,m,F,hP,hD⟩:=hM
 obtain ⟨op,id,args,n⟩:=x
 simp only at ha ⊢
 obtain ⟨al,hal⟩ : ∃ al,al=args.length:=⟨_,rfl⟩
 rw [<-hal]
 obtain ⟨a2,c2,ab,ao,hae, -, -,hab,hax⟩:=ha.parts
 rw [<-hal] at hae hab hax
 cases hae
 have HP:=h! hP
 have HD:=h! hD
 have HR:=h! hR
 have HX:=h! hx
 have HB:=h! hB
 have HAL:=h! hal
 have HAB:=h! hab
 have HAX:=h! hax
 have hal3:al <= 3:=by have h9:=hx.args;have:=aAK op;simp only at h9;omega
 have HVL:Hid ((args.map s.vals).length=al):=h! (by rw [bD,hal])
 have HVG:Hid (∀ i,In64 ((args.map s.vals).getD i 0)):=h! (fun i=>by
  rw [aH]
  cases h9:(args.map s.vals)[i]? with
  | none=>exact ⟨by decide,by decide⟩
  | some y =>
   have h10:=aG h9
   rw [aY] at h10
   obtain ⟨q,_,rfl⟩:=h10
   exact hP.v64 q)
 clear hP hD hR hx hB hal hab hax ha
 go_enter Tryz.func138,Tryz.ntmps138
 go_upto_region 1 with (fail)
 have hA_:=(Below.refl w.heap.size w).alloc (aF _) (.cells #[.int .i64 op,.int .i64 id,.slice aa al ca,.int .i64 n] 69)
 have HW:=h! hA_
 clear hA_
 have B3:=h! (Box.new w #[.int .i64 op,.int .i64 id,.slice aa al ca,.int .i64 n] 69)
 generalize w.alloc (.cells #[.int .i64 op,.int .i64 id,.slice aa al ca,.int .i64 n] 69)=wv at *
 obtain ⟨lB3,cB3,fB3⟩:=B3.out
 have HPV:=h! (HP.out.later HW.out)
 have B3V:=B3
 have HWV:=HW
 obtain ⟨W3,hW3⟩ : ∃ W3,W3=wv:=⟨_,rfl⟩
 have HS:Hid (nU W3 wv):=h! (by rw [hW3];exact Below.refl _ _)
 rw [<-hW3] at HPV B3V HWV
 have hW3w:w.heap.size < W3.heap.size:=by rw [hW3];omega
 clear hW3
 go_wp2_with fail
 go_loopw [5,13] (fun t i wr => ∃ (q:Nat) (S:Foot) (a:Option Addr) (c:Nat),q <= al/\i = .int .i64 q/\t = .slice a q c/\eM wr S (.slice a q c) ((args.map s.vals).take q)/\jY W3.heap.size S/\nU W3 wr) (fun _ i _=>al - (intOf i).toNat)
 case atStart=>exact ⟨0,Foot.none,none,0,aP _,rfl,rfl,eM.nil none,fun _ h=>h.elim,HS.out⟩
 case round =>
  obtain ⟨q,S,a5,c5,hq,rfl,rfl,hO,hF,hs⟩:=hrel
  clear lB3 cB3 fB3
  clear HS B3 HW
  have HS:=h! hs
  have HO:=h! hO
  have HF:=h! hF
  have HW:Hid (Below w.heap.size w wr):=h! (HWV.out.trans (Below.mono hs HWV.out.size))
  have B3:=h! (B3V.out.later hs)
  have HPR:=h! (HPV.out.later hs)
  have hsr:W3.heap.size <= wr.heap.size:=Below.size hs
  clear hs hO hF
  obtain ⟨lB3,cB3,fB3⟩:=B3.out
  by_cases hlt:q < al
  ·obtain ⟨rfl,habl⟩:=HAB.out (by omega)
   obtain ⟨y,hy⟩ : ∃ y,y=args.getD q 0:=⟨_,rfl⟩
   have hyc:=(HW.out.cell (p:=⟨ab,ao+q,none⟩) habl).trans (HAX.out q hlt)
   rw [<-hy] at hyc
   have HTK:Hid ((args.map s.vals).take (q+1)=(args.map s.vals).take q ++ [s.vals y]):=h! (by
    have h9:args[q]? = some y:=by rw [hy];exact eX args q (by have:=HAL.out;omega)
    rw [bU,aU,h9];rfl)
   have HLK:Hid (∀ wg,Below wr.heap.size wr wg -> (Instr.lookup 74 (.map (some mv)) (.int .i64 y) false).run Tryz.prog wg = .ok (.int .i64 (s.vals y)) wg):=h! (fun wg hbg=>by
    rw [((HPR.out.later hbg).mp).lookup0 Tryz.underlying74 Tryz.underlying3 (gT _) y,HPR.out.val y])
   have HY64:=h! (HPR.out.v64 y)
   have HLN:Hid (((args.map s.vals).take q).length=q):=h! (by rw [aX,HVL.out];omega)
   have HOH:Hid (Holds [] W3.heap.size wr S (fun W=>eM W S (.slice a5 q c5) ((args.map s.vals).take q))):=h! (jF HO.out HF.out)
   obtain ⟨z,hz⟩ : ∃ z,z=s.vals y:=⟨_,rfl⟩
   rw [<-hz] at HTK HLK HY64
   clear hy hz HO
   go_upto_region 5 with (fail)
   clear hyc
   refine gK 8 (fun kz=>match kz with | 7=>.made wr.heap.size (fun b=>.slice (some ⟨b,0,none⟩) 1 1) #[.int .i64 z] | _=>.plain) (by kernel_rfl) (by simp) ?_ (fun ν => ?_)
   ·(intro k;(try dsimp only);split <;> first | exact True.intro | (intro u w1 w2 hu hb;exact hu.below hb))
   simp only [aK,aR,aM,aT]
   iterate 7 (refine Grow.val (v := ?_) rfl rfl (fun wg hbg hdg => ?_) ?_;rotate_left;(focus ((obtain ⟨lg0,cg0,fg0⟩:=B3.out.later hbg);(obtain ⟨xl1,xc1,xf1⟩:=(HPR.out.later hbg).box;have hlk:=HLK.out wg hbg);clear hbg hdg;first | (go_simp;done) | (go_simp;with_reducible rfl)));simp only [Act.put,aA,aC,aD])
   refine Grow.made (T := ?_) rfl rfl (fun wg hbg hdg => ?_) ?_
   rotate_left
   focus ((obtain ⟨lg0,cg0,fg0⟩:=B3.out.later hbg);(obtain ⟨xl1,xc1,xf1⟩:=(HPR.out.later hbg).box;have hlk:=HLK.out wg hbg);clear hbg hdg;first | (go_simp;done) | (go_simp;with_reducible rfl))
   simp only [Act.put,Known.val,aA,aC,aD]
   intro wg hb hf hap
   obtain ⟨bBN,hνBN,hBBN,hXBN⟩:=hf 7 (by omega)
   have nBNB3:bBN ≠ w.heap.size:=fun e=>by have:=lB3;omega
   have nB3BN:w.heap.size ≠ bBN:=fun e=>nBNB3 e.symm
   simp only [hνBN]
   clear hνBN
   clear hap
   have gBN:=aJ HW.out.size hBBN
   clear hBBN
   clear lB3 cB3 fB3
   replace B3:=h! (B3.out.later hb)
   replace HOH:=h! (HOH.out.later hb)
   replace HS:=h! (HS.out.later hb)
   replace HW:=h! (HW.out.trans (hb.mono HW.out.size))
   clear hb
   have BN:=h! hXBN
   clear hXBN
   obtain ⟨lB3,cB3,fB3⟩:=B3.out
   obtain ⟨lBN,cBN,fBN⟩:=BN.out
   clear hf
   clear lB3 cB3 fB3 lBN cBN fBN
   refine jC rfl _ _ rfl rfl rfl HLN.out HOH.out.now BN.out HY64.out (by omega) ?_
   intro g1 c1 w10 q1 q2 q3
   have HS10:Hid (nU W3 w10):=h! (Below.trans HS.out (q3.below (Below.size HS.out) (fun k _ hk=>HF.out k hk)))
   have HO10:Hid (eM w10 (Foot.one g1) (.slice (some ⟨g1,0,none⟩) (q+1) c1) ((args.map s.vals).take (q+1))):=h! (by rw [HTK.out];exact q1)
   have HF10:Hid (jY W3.heap.size (Foot.one g1)):=h! (fun k hk=>by
    cases hk
    rcases q2 with h | h
    ·exact HF.out _ h
    exact aJ (Below.size HS.out) h)
   clear q1 q2 q3
   go_wp2
   go_roundw
   case rel=>exact ⟨q+1,_,_,_,hlt,by go_num,rfl,HO10.out,HF10.out,HS10.out⟩
   simp [intOf];omega
  obtain rfl:al=q:=by omega
  have HV:Hid (eM wr S (.slice a5 al c5) (args.map s.vals)):=h! (by
   have h9:=HO.out
   rw [aI (by rw [HVL.out];omega)] at h9
   exact h9)
  clear HO hlt hq
  have HWR:=HW
  have hSD:∀ k,S k -> ¬ D k:=fun k hk hd=>by
   obtain ⟨i,hi⟩:=(HD.out k).1 hd
   have:=HP.out.lt hi
   have:=HF.out k hk
   omega
  have HSD:=h! hSD
  clear hSD
  have hop:=qR HX.out.shp
  simp only at hop
  rcases hop with rfl | rfl | rfl | rfl | rfl | rfl | rfl | rfl | rfl | rfl | hop
  ·have HI:Hid (fA ⟨1,id,args,n⟩ s = .go n s):=h! (by unfold fA;simp)
   rw [HI.out]
   go_wp2
   go_ret
   exact ⟨rfl,MOk.still HD.out HP.out HWR.out⟩
  ·have HI:Hid (fA ⟨2,id,args,n⟩ s = .go n s):=h! (by unfold fA;simp)
   rw [HI.out]
   go_wp2
   go_ret
   exact ⟨rfl,MOk.still HD.out HP.out HWR.out⟩
  ·skip
   obtain ⟨hn0,hn1⟩:=mI (show nOk ar ce 3 n=true from HX.out.n)
   obtain ⟨nn,rfl⟩ : ∃ nn:Nat,n=nn:=⟨n.toNat,by omega⟩
   obtain ⟨a,han⟩ : ∃ a,s.arrays[nn]? = some a:=⟨_,aB (by have:=HR.out.al;omega)⟩
   have HAN:=h! han
   have HA4:=h! (HR.out.len a (aG han))
   clear han hn0 hn1
   have HI:=h! (rZ (op:=18) (id:=id) (args:=args) (s:=s) rfl rfl HAN.out)
   obtain ⟨ga,cap,c,ad,hav,hgal, -,hcell, -, -⟩:=HPR.out.arr.open HAN.out
   subst hav
   obtain ⟨lm,cm,fm⟩:=HPR.out.box
   have hnl:nn < s.arrays.length:=(aE.1 HAN.out).1
   go_upto_region 12 with (fail)
   go_quiet (fail)
   clear cm fm hcell
   go_wp2
   go_ret
   rw [HI.out]
   exact ⟨rfl,MOk.still HD.out HP.out (eK HWR.out nq)⟩
  ·skip
   obtain rfl:al=1:=by have h9:=HX.out.args;rw [<-HAL.out] at h9;rw [h9];rfl
   obtain ⟨b5,o5,c5,he5,hb5,hc5⟩:=fK HV.out.ints (by rw [HVL.out];omega)
   rw [HVL.out] at he5
   cases he5
   have hy5:=hc5 0 (by rw [HVL.out];omega)
   rw [bW] at hy5
   obtain ⟨y,hy⟩ : ∃ y,y=(args.map s.vals).getD 0 0:=⟨_,rfl⟩
   rw [<-hy] at hy5
   have HY:=h! hy.symm
   have HY64:Hid (In64 y):=h! (by rw [hy];exact HVG.out 0)
   clear hc5 hy
   obtain ⟨hn0,hn1⟩:=mI (show nOk ar ce 3 n=true from HX.out.n)
   obtain ⟨nn,rfl⟩ : ∃ nn:Nat,n=nn:=⟨n.toNat,by omega⟩
   obtain ⟨a,han⟩ : ∃ a,s.arrays[nn]? = some a:=⟨_,aB (by have:=HR.out.al;omega)⟩
   have HAN:=h! han
   have HA4:=h! (HR.out.len a (aG han))
   clear han hn0 hn1
   have HI:=h! (lW (op:=19) (id:=id) (n:=(nn:Int)) (args:=args) (s:=s) (by omega) rfl HAN.out HY.out)
   go_upto_region 15 with (fail)
   refine wp_region_grow 9 (fun _=>.plain) (by kernel_rfl) (by kernel_rfl) ?_ (fun ν => ?_)
   ·exact fun _=>trivial
   simp only [aK,aR,aM,aT]
   iterate 9 (refine Grow.val (v := ?_) rfl rfl (fun wg hbg hdg => ?_) ?_;rotate_left;(focus ((obtain ⟨lg0,cg0,fg0⟩:=B3.out.later hbg);(have hyw:=(hbg.cell (p:=⟨b5,o5,none⟩) hb5).trans hy5);clear hbg hdg;first | (go_simp;done) | (go_simp;with_reducible rfl)));simp only [Act.put,aA,aC,aD])
   intro wg hb hf hap
   clear hap
   clear lB3 cB3 fB3
   replace B3:=h! (B3.out.later hb)
   replace HPR:=h! (HPR.out.later hb)
   replace HW:=h! (HW.out.trans (hb.mono HW.out.size))
   clear hb
   obtain ⟨lB3,cB3,fB3⟩:=B3.out
   clear hf hy5
   go_wp2_with fail
   refine (xV HPR.out.mach (aJ HB.out HW.out.size) HR.out.chk HAN.out HA4.out y HY64.out true).mono ?_
   rintro e w2 h9
   rcases h9 with ⟨hwhy,rfl,hok⟩ | ⟨j,g,xx,hij,hax,rfl, -, -,hok,hcell,hfr, -⟩
   ·have HE:=h! (HI.out.1 hwhy)
    unfold jW
    go_wp2
    refine ⟨rfl, ?_⟩
    rw [HE.out]
    exact ⟨rfl,MOk.trans (Off.of_below HW.out D) (fun k hk=>.inl ((HD.out k).2 hk)) hok⟩
   have HE:=h! (HI.out.2 j xx hij hax)
   clear hij hax
   go_wp2
   go_ret
   rw [HE.out]
   exact ⟨rfl,MOk.trans (Off.of_below HW.out D) (fun k hk=>.inl ((HD.out k).2 hk)) hok⟩
  ·skip
   obtain rfl:al=1:=by have h9:=HX.out.args;rw [<-HAL.out] at h9;rw [h9];rfl
   obtain ⟨b5,o5,c5,he5,hb5,hc5⟩:=fK HV.out.ints (by rw [HVL.out];omega)
   rw [HVL.out] at he5
   cases he5
   have hy5:=hc5 0 (by rw [HVL.out];omega)
   rw [bW] at hy5
   obtain ⟨y,hy⟩ : ∃ y,y=(args.map s.vals).getD 0 0:=⟨_,rfl⟩
   rw [<-hy] at hy5
   have HY:=h! hy.symm
   have HY64:Hid (In64 y):=h! (by rw [hy];exact HVG.out 0)
   clear hc5 hy
   obtain ⟨hn0,hn1⟩:=mI (show nOk ar ce 3 n=true from HX.out.n)
   obtain ⟨nn,rfl⟩ : ∃ nn:Nat,n=nn:=⟨n.toNat,by omega⟩
   obtain ⟨a,han⟩ : ∃ a,s.arrays[nn]? = some a:=⟨_,aB (by have:=HR.out.al;omega)⟩
   have HAN:=h! han
   have HA4:=h! (HR.out.len a (aG han))
   clear han hn0 hn1
   have HI:=h! (lW (op:=21) (id:=id) (n:=(nn:Int)) (args:=args) (s:=s) (by omega) rfl HAN.out HY.out)
   go_upto_region 15 with (fail)
   refine wp_region_grow 9 (fun _=>.plain) (by kernel_rfl) (by kernel_rfl) ?_ (fun ν => ?_)
   ·exact fun _=>trivial
   simp only [aK,aR,aM,aT]
   iterate 9 (refine Grow.val (v := ?_) rfl rfl (fun wg hbg hdg => ?_) ?_;rotate_left;(focus ((obtain ⟨lg0,cg0,fg0⟩:=B3.out.later hbg);(have hyw:=(hbg.cell (p:=⟨b5,o5,none⟩) hb5).trans hy5);clear hbg hdg;first | (go_simp;done) | (go_simp;with_reducible rfl)));simp only [Act.put,aA,aC,aD])
   intro wg hb hf hap
   clear hap
   clear lB3 cB3 fB3
   replace B3:=h! (B3.out.later hb)
   replace HPR:=h! (HPR.out.later hb)
   replace HW:=h! (HW.out.trans (hb.mono HW.out.size))
   clear hb
   obtain ⟨lB3,cB3,fB3⟩:=B3.out
   clear hf hy5
   go_wp2_with fail
   refine (xV HPR.out.mach (aJ HB.out HW.out.size) HR.out.chk HAN.out HA4.out y HY64.out false).mono ?_
   rintro e w2 h9
   rcases h9 with ⟨hwhy,rfl,hok⟩ | ⟨j,g,xx,hij,hax,rfl, -, -,hok,hcell,hfr, -⟩
   ·have HE:=h! (HI.out.1 hwhy)
    unfold jW
    go_wp2
    refine ⟨rfl, ?_⟩
    rw [HE.out]
    exact ⟨rfl,MOk.trans (Off.of_below HW.out D) (fun k hk=>.inl ((HD.out k).2 hk)) hok⟩
   have HE:=h! (HI.out.2 j xx hij hax)
   clear hij hax
   go_wp2
   go_ret
   rw [HE.out]
   exact ⟨rfl,MOk.trans (Off.of_below HW.out D) (fun k hk=>.inl ((HD.out k).2 hk)) hok⟩
  ·skip
   obtain rfl:al=2:=by have h9:=HX.out.args;rw [<-HAL.out] at h9;rw [h9];rfl
   obtain ⟨b5,o5,c5,he5,hb5,hc5⟩:=fK HV.out.ints (by rw [HVL.out];omega)
   rw [HVL.out] at he5
   cases he5
   have hy5:=hc5 0 (by rw [HVL.out];omega)
   have hz5:=hc5 1 (by rw [HVL.out];omega)
   rw [bW] at hy5
   obtain ⟨y,hy⟩ : ∃ y,y=(args.map s.vals).getD 0 0:=⟨_,rfl⟩
   obtain ⟨z,hz⟩ : ∃ z,z=(args.map s.vals).getD 1 0:=⟨_,rfl⟩
   rw [<-hy] at hy5
   rw [<-hz] at hz5
   have HY:=h! hy.symm
   have HZ:=h! hz.symm
   have HY64:Hid (In64 y):=h! (by rw [hy];exact HVG.out 0)
   have HZ64:Hid (In64 z):=h! (by rw [hz];exact HVG.out 1)
   have NB3:Hid (¬ D w.heap.size):=h! (fun hd=>by obtain ⟨i,hi⟩:=(HD.out _).1 hd;have:=HP.out.lt hi;omega)
   have NB5:Hid (¬ D b5):=h! (HSD.out b5 (by
    rcases HV.out.1.form with ⟨h0, -⟩ | ⟨g9,c9,cur9,hv9,hG9, -⟩
    ·rw [HVL.out] at h0;omega
    injection hv9 with q1 q2 q3
    injection q1 with q1
    injection q1 with q1
    rw [q1];exact hG9))
   have HO5:Hid (o5=0):=h! (by
    rcases HV.out.1.form with ⟨h0, -⟩ | ⟨g9,c9,cur9,hv9,hG9, -⟩
    ·rw [HVL.out] at h0;omega
    injection hv9 with q1 q2 q3
    injection q1 with q1
    injection q1)
   clear hc5 hy hz
   obtain ⟨hn0,hn1⟩:=mI (show nOk ar ce 3 n=true from HX.out.n)
   obtain ⟨nn,rfl⟩ : ∃ nn:Nat,n=nn:=⟨n.toNat,by omega⟩
   obtain ⟨a,han⟩ : ∃ a,s.arrays[nn]? = some a:=⟨_,aB (by have:=HR.out.al;omega)⟩
   have HAN:=h! han
   have HA4:=h! (HR.out.len a (aG han))
   clear han hn0 hn1
   have HI:=h! (kU (op:=20) (id:=id) (n:=(nn:Int)) (args:=args) (s:=s) (by omega) rfl HAN.out HY.out HZ.out)
   go_upto_region 18 with (fail)
   clear lB3 cB3 fB3
   by_cases hw:y < 0 \/ (a.length:Int) <= y
   ·have HE:=h! (HI.out.1 hw)
    refine jM 13 9 D undef (fun _=>False) (fun ch W=>jW (aE0 true) = .panicked ch/\MOk base bs fuel w bm D (mB true s) W) (by kernel_rfl) (by kernel_rfl) (by omega) (fun _ _ h _=>h) (fun ch a' w' hdf hz => ?_) ?_
    ·obtain ⟨h8,hok⟩:=hz
     simp only at hdf
     have HOK:=h! hok
     unfold jW at h8
     injection h8 with h8
     subst h8
     go_wp2
     refine ⟨hdf, ?_⟩
     rw [HE.out]
     exact ⟨rfl,HOK.out⟩
    simp only [aK,aR,aM,aT]
    iterate 9 ((refine iE.val (v' := ?_) (by omega) rfl (fun wg hbg => ?_) ?_);(rotate_left);(focus ((have hof:Off D wr wg:=hbg.elim (fun h=>Off.of_below h D) (fun h=>h.elim));(obtain ⟨l3,c3,f3⟩:=B3.out.off hof NB3.out);(have hy0:=(hof.cell2 (p:=⟨b5,o5,none⟩) hb5 NB5.out).trans hy5);(have hz0:=(hof.cell2 (p:=⟨b5,o5+1,none⟩) hb5 NB5.out).trans hz5);clear hof hbg;first | (go_simp;done) | (go_simp;with_reducible rfl)));(simp only [Act.put,aA,aC,aD]))
    refine iE.call (f := ?_) (args := ?_) (by omega) rfl (fun wg => ?_) (fun wg hbg => ?_) ?_
    rotate_left 2
    focus (first | (go_simp;done) | (go_simp;refine And.intro ?_ ?_ <;> with_reducible rfl) | (go_simp;with_reducible rfl))
    ·refine (xV (HPR.out.later hbg).mach (aJ HB.out (aJ HW.out.size hbg.size)) HR.out.chk HAN.out HA4.out y HY64.out true).mono ?_
     rintro e w2 h9
     rcases h9 with ⟨hwhy,rfl,hok⟩ | ⟨j,g,xx,hij,hax, -⟩
     ·exact .inr ⟨_,rfl,rfl,MOk.trans (Off.of_below (HW.out.trans (hbg.mono HW.out.size)) D) (fun k hk=>.inl ((HD.out k).2 hk)) hok⟩
     exfalso
     have:=(aE.1 hax).1
     omega
    simp only [Act.put,aA,aC,aD]
    iterate 3 ((refine iE.val (v' := ?_) (by omega) rfl (fun wg hbg => ?_) ?_);(rotate_left);(focus ((have hof:Off D wr wg:=hbg.elim (fun h=>Off.of_below h D) (fun h=>h.elim));(obtain ⟨l3,c3,f3⟩:=B3.out.off hof NB3.out);(have hy0:=(hof.cell2 (p:=⟨b5,o5,none⟩) hb5 NB5.out).trans hy5);(have hz0:=(hof.cell2 (p:=⟨b5,o5+1,none⟩) hb5 NB5.out).trans hz5);clear hof hbg;first | (go_simp;done) | (go_simp;with_reducible rfl)));(simp only [Act.put,aA,aC,aD]))
    exact fun w' h=>h.elim
   obtain ⟨j,hj⟩ : ∃ j:Nat,y=j:=⟨y.toNat,by omega⟩
   have hjl:j < a.length:=by omega
   have HE:=h! (HI.out.2 j hj hjl)
   obtain ⟨g,hg⟩:=Mach.addr HPR.out HAN.out hjl
   have HG:=h! hg
   have HJ:=h! hj
   clear hw hg hj
   refine jM 13 9 D (.pointer (some ⟨g,j,none⟩)) (fun W=>MOk base bs fuel w bm D { mB true s with arrays:=s.arrays.set nn (a.set j z) } (W.setCell ⟨g,j,none⟩ (.int .i64 z))/\Off D wr W/\W.frozen? ⟨g,j,none⟩=false/\(∃ q,W.cell? ⟨g,j,none⟩=some (.int .i64 q)) /\ ∀ W',Below W.heap.size W W' -> MOk base bs fuel w bm D { mB true s with arrays:=s.arrays.set nn (a.set j z) } (W'.setCell ⟨g,j,none⟩ (.int .i64 z))) (fun _ _=>False) (by kernel_rfl) (by kernel_rfl) (by omega) (fun W W' h hb => ?_) (fun ch a' w' _ hz=>hz.elim) ?_
   ·obtain ⟨-,k2,k3,⟨q4,k4⟩,k5⟩:=h
    have k6:=World.block_lt_of_cell? W _ k4
    exact ⟨k5 W' hb,Off.trans k2 (Off.of_below hb D),(hb.frozen (p:=⟨g,j,none⟩) k6).trans k3,⟨q4,(hb.cell (p:=⟨g,j,none⟩) k6).trans k4⟩,fun W2 hb2=>k5 W2 (hb.trans (hb2.mono hb.size))⟩
   simp only [aK,aR,aM,aT]
   iterate 9 ((refine iE.val (v' := ?_) (by omega) rfl (fun wg hbg => ?_) ?_);(rotate_left);(focus ((have hof:Off D wr wg:=hbg.elim (fun h=>Off.of_below h D) (fun h=>h.2.1));(obtain ⟨l3,c3,f3⟩:=B3.out.off hof NB3.out);(have hy0:=(hof.cell2 (p:=⟨b5,o5,none⟩) hb5 NB5.out).trans hy5);(have hz0:=(hof.cell2 (p:=⟨b5,o5+1,none⟩) hb5 NB5.out).trans hz5);clear hof hbg;first | (go_simp;done) | (go_simp;with_reducible rfl)));(simp only [Act.put,aA,aC,aD]))
   refine iE.call (f := ?_) (args := ?_) (by omega) rfl (fun wg => ?_) (fun wg hbg => ?_) ?_
   rotate_left 2
   focus (first | (go_simp;done) | (go_simp;refine And.intro ?_ ?_ <;> with_reducible rfl) | (go_simp;with_reducible rfl))
   ·refine (xV (HPR.out.later hbg).mach (aJ HB.out (aJ HW.out.size hbg.size)) HR.out.chk HAN.out HA4.out y HY64.out true).mono ?_
    rintro e w2 h9
    have hJ:=HJ.out
    rcases h9 with ⟨hwhy, -, -⟩ | ⟨j',g',xx,hij,hax,rfl,hmt,hDg,hok,hcell,hfr,hset⟩
    ·exfalso;omega
    left
    obtain rfl:j=j':=by omega
    obtain rfl:g=g':=(HG.out.below hbg).one hmt
    have hwg:=HW.out.trans (hbg.mono HW.out.size)
    have hall:∀ W',Below w2.heap.size w2 W' -> MOk base bs fuel w bm D { mB true s with arrays:=s.arrays.set nn (a.set j z) } (W'.setCell ⟨g,j,none⟩ (.int .i64 z)):=fun W' hb=>MOk.trans (Off.of_below hwg D) (fun k hk=>.inl ((HD.out k).2 hk)) (hset W' z hb HZ64.out)
    obtain ⟨D1,hm1,ho1,hd1⟩:=hok
    exact ⟨rfl,hall w2 (Below.refl _ _),Off.trans (Off.of_below hbg D) (ho1.mono fun k _ hk=>(HD.out k).2 hk),hfr,⟨_,hcell⟩,hall⟩
   simp only [Act.put,aA,aC,aD]
   iterate 3 ((refine iE.val (v' := ?_) (by omega) rfl (fun wg hbg => ?_) ?_);(rotate_left);(focus ((have hof:Off D wr wg:=hbg.elim (fun h=>Off.of_below h D) (fun h=>h.2.1));(obtain ⟨l3,c3,f3⟩:=B3.out.off hof NB3.out);(have hy0:=(hof.cell2 (p:=⟨b5,o5,none⟩) hb5 NB5.out).trans hy5);(have hz0:=(hof.cell2 (p:=⟨b5,o5+1,none⟩) hb5 NB5.out).trans hz5);clear hof hbg;first | (go_simp;done) | (go_simp;with_reducible rfl)));(simp only [Act.put,aA,aC,aD]))
   rintro w9 ⟨k1, -,k3,⟨q4,k4⟩, -⟩
   have K1:=h! k1
   clear k1
   go_wp2
   go_ret
   rw [HE.out]
   exact ⟨rfl,K1.out⟩
  ·skip
   obtain rfl:al=2:=by have h9:=HX.out.args;rw [<-HAL.out] at h9;rw [h9];rfl
   obtain ⟨b5,o5,c5,he5,hb5,hc5⟩:=fK HV.out.ints (by rw [HVL.out];omega)
   rw [HVL.out] at he5
   cases he5
   have hy5:=hc5 0 (by rw [HVL.out];omega)
   have hz5:=hc5 1 (by rw [HVL.out];omega)
   rw [bW] at hy5
   obtain ⟨y,hy⟩ : ∃ y,y=(args.map s.vals).getD 0 0:=⟨_,rfl⟩
   obtain ⟨z,hz⟩ : ∃ z,z=(args.map s.vals).getD 1 0:=⟨_,rfl⟩
   rw [<-hy] at hy5
   rw [<-hz] at hz5
   have HY:=h! hy.symm
   have HZ:=h! hz.symm
   have HY64:Hid (In64 y):=h! (by rw [hy];exact HVG.out 0)
   have HZ64:Hid (In64 z):=h! (by rw [hz];exact HVG.out 1)
   have NB3:Hid (¬ D w.heap.size):=h! (fun hd=>by obtain ⟨i,hi⟩:=(HD.out _).1 hd;have:=HP.out.lt hi;omega)
   have NB5:Hid (¬ D b5):=h! (HSD.out b5 (by
    rcases HV.out.1.form with ⟨h0, -⟩ | ⟨g9,c9,cur9,hv9,hG9, -⟩
    ·rw [HVL.out] at h0;omega
    injection hv9 with q1 q2 q3
    injection q1 with q1
    injection q1 with q1
    rw [q1];exact hG9))
   have HO5:Hid (o5=0):=h! (by
    rcases HV.out.1.form with ⟨h0, -⟩ | ⟨g9,c9,cur9,hv9,hG9, -⟩
    ·rw [HVL.out] at h0;omega
    injection hv9 with q1 q2 q3
    injection q1 with q1
    injection q1)
   clear hc5 hy hz
   obtain ⟨hn0,hn1⟩:=mI (show nOk ar ce 3 n=true from HX.out.n)
   obtain ⟨nn,rfl⟩ : ∃ nn:Nat,n=nn:=⟨n.toNat,by omega⟩
   obtain ⟨a,han⟩ : ∃ a,s.arrays[nn]? = some a:=⟨_,aB (by have:=HR.out.al;omega)⟩
   have HAN:=h! han
   have HA4:=h! (HR.out.len a (aG han))
   clear han hn0 hn1
   have HI:=h! (kU (op:=22) (id:=id) (n:=(nn:Int)) (args:=args) (s:=s) (by omega) rfl HAN.out HY.out HZ.out)
   go_upto_region 18 with (fail)
   clear lB3 cB3 fB3
   by_cases hw:y < 0 \/ (a.length:Int) <= y
   ·have HE:=h! (HI.out.1 hw)
    refine jM 13 9 D undef (fun _=>False) (fun ch W=>jW (aE0 false) = .panicked ch/\MOk base bs fuel w bm D (mB false s) W) (by kernel_rfl) (by kernel_rfl) (by omega) (fun _ _ h _=>h) (fun ch a' w' hdf hz => ?_) ?_
    ·obtain ⟨h8,hok⟩:=hz
     simp only at hdf
     have HOK:=h! hok
     unfold jW at h8
     injection h8 with h8
     subst h8
     go_wp2
     refine ⟨hdf, ?_⟩
     rw [HE.out]
     exact ⟨rfl,HOK.out⟩
    simp only [aK,aR,aM,aT]
    iterate 9 ((refine iE.val (v' := ?_) (by omega) rfl (fun wg hbg => ?_) ?_);(rotate_left);(focus ((have hof:Off D wr wg:=hbg.elim (fun h=>Off.of_below h D) (fun h=>h.elim));(obtain ⟨l3,c3,f3⟩:=B3.out.off hof NB3.out);(have hy0:=(hof.cell2 (p:=⟨b5,o5,none⟩) hb5 NB5.out).trans hy5);(have hz0:=(hof.cell2 (p:=⟨b5,o5+1,none⟩) hb5 NB5.out).trans hz5);clear hof hbg;first | (go_simp;done) | (go_simp;with_reducible rfl)));(simp only [Act.put,aA,aC,aD]))
    refine iE.call (f := ?_) (args := ?_) (by omega) rfl (fun wg => ?_) (fun wg hbg => ?_) ?_
    rotate_left 2
    focus (first | (go_simp;done) | (go_simp;refine And.intro ?_ ?_ <;> with_reducible rfl) | (go_simp;with_reducible rfl))
    ·refine (xV (HPR.out.later hbg).mach (aJ HB.out (aJ HW.out.size hbg.size)) HR.out.chk HAN.out HA4.out y HY64.out false).mono ?_
     rintro e w2 h9
     rcases h9 with ⟨hwhy,rfl,hok⟩ | ⟨j,g,xx,hij,hax, -⟩
     ·exact .inr ⟨_,rfl,rfl,MOk.trans (Off.of_below (HW.out.trans (hbg.mono HW.out.size)) D) (fun k hk=>.inl ((HD.out k).2 hk)) hok⟩
     exfalso
     have:=(aE.1 hax).1
     omega
    simp only [Act.put,aA,aC,aD]
    iterate 3 ((refine iE.val (v' := ?_) (by omega) rfl (fun wg hbg => ?_) ?_);(rotate_left);(focus ((have hof:Off D wr wg:=hbg.elim (fun h=>Off.of_below h D) (fun h=>h.elim));(obtain ⟨l3,c3,f3⟩:=B3.out.off hof NB3.out);(have hy0:=(hof.cell2 (p:=⟨b5,o5,none⟩) hb5 NB5.out).trans hy5);(have hz0:=(hof.cell2 (p:=⟨b5,o5+1,none⟩) hb5 NB5.out).trans hz5);clear hof hbg;first | (go_simp;done) | (go_simp;with_reducible rfl)));(simp only [Act.put,aA,aC,aD]))
    exact fun w' h=>h.elim
   obtain ⟨j,hj⟩ : ∃ j:Nat,y=j:=⟨y.toNat,by omega⟩
   have hjl:j < a.length:=by omega
   have HE:=h! (HI.out.2 j hj hjl)
   obtain ⟨g,hg⟩:=Mach.addr HPR.out HAN.out hjl
   have HG:=h! hg
   have HJ:=h! hj
   clear hw hg hj
   refine jM 13 9 D (.pointer (some ⟨g,j,none⟩)) (fun W=>MOk base bs fuel w bm D { mB false s with arrays:=s.arrays.set nn (a.set j z) } (W.setCell ⟨g,j,none⟩ (.int .i64 z))/\Off D wr W/\W.frozen? ⟨g,j,none⟩=false/\(∃ q,W.cell? ⟨g,j,none⟩=some (.int .i64 q)) /\ ∀ W',Below W.heap.size W W' -> MOk base bs fuel w bm D { mB false s with arrays:=s.arrays.set nn (a.set j z) } (W'.setCell ⟨g,j,none⟩ (.int .i64 z))) (fun _ _=>False) (by kernel_rfl) (by kernel_rfl) (by omega) (fun W W' h hb => ?_) (fun ch a' w' _ hz=>hz.elim) ?_
   ·obtain ⟨-,k2,k3,⟨q4,k4⟩,k5⟩:=h
    have k6:=World.block_lt_of_cell? W _ k4
    exact ⟨k5 W' hb,Off.trans k2 (Off.of_below hb D),(hb.frozen (p:=⟨g,j,none⟩) k6).trans k3,⟨q4,(hb.cell (p:=⟨g,j,none⟩) k6).trans k4⟩,fun W2 hb2=>k5 W2 (hb.trans (hb2.mono hb.size))⟩
   simp only [aK,aR,aM,aT]
   iterate 9 ((refine iE.val (v' := ?_) (by omega) rfl (fun wg hbg => ?_) ?_);(rotate_left);(focus ((have hof:Off D wr wg:=hbg.elim (fun h=>Off.of_below h D) (fun h=>h.2.1));(obtain ⟨l3,c3,f3⟩:=B3.out.off hof NB3.out);(have hy0:=(hof.cell2 (p:=⟨b5,o5,none⟩) hb5 NB5.out).trans hy5);(have hz0:=(hof.cell2 (p:=⟨b5,o5+1,none⟩) hb5 NB5.out).trans hz5);clear hof hbg;first | (go_simp;done) | (go_simp;with_reducible rfl)));(simp only [Act.put,aA,aC,aD]))
   refine iE.call (f := ?_) (args := ?_) (by omega) rfl (fun wg => ?_) (fun wg hbg => ?_) ?_
   rotate_left 2
   focus (first | (go_simp;done) | (go_simp;refine And.intro ?_ ?_ <;> with_reducible rfl) | (go_simp;with_reducible rfl))
   ·refine (xV (HPR.out.later hbg).mach (aJ HB.out (aJ HW.out.size hbg.size)) HR.out.chk HAN.out HA4.out y HY64.out false).mono ?_
    rintro e w2 h9
    have hJ:=HJ.out
    rcases h9 with ⟨hwhy, -, -⟩ | ⟨j',g',xx,hij,hax,rfl,hmt,hDg,hok,hcell,hfr,hset⟩
    ·exfalso;omega
    left
    obtain rfl:j=j':=by omega
    obtain rfl:g=g':=(HG.out.below hbg).one hmt
    have hwg:=HW.out.trans (hbg.mono HW.out.size)
    have hall:∀ W',Below w2.heap.size w2 W' -> MOk base bs fuel w bm D { mB false s with arrays:=s.arrays.set nn (a.set j z) } (W'.setCell ⟨g,j,none⟩ (.int .i64 z)):=fun W' hb=>MOk.trans (Off.of_below hwg D) (fun k hk=>.inl ((HD.out k).2 hk)) (hset W' z hb HZ64.out)
    obtain ⟨D1,hm1,ho1,hd1⟩:=hok
    exact ⟨rfl,hall w2 (Below.refl _ _),Off.trans (Off.of_below hbg D) (ho1.mono fun k _ hk=>(HD.out k).2 hk),hfr,⟨_,hcell⟩,hall⟩
   simp only [Act.put,aA,aC,aD]
   iterate 3 ((refine iE.val (v' := ?_) (by omega) rfl (fun wg hbg => ?_) ?_);(rotate_left);(focus ((have hof:Off D wr wg:=hbg.elim (fun h=>Off.of_below h D) (fun h=>h.2.1));(obtain ⟨l3,c3,f3⟩:=B3.out.off hof NB3.out);(have hy0:=(hof.cell2 (p:=⟨b5,o5,none⟩) hb5 NB5.out).trans hy5);(have hz0:=(hof.cell2 (p:=⟨b5,o5+1,none⟩) hb5 NB5.out).trans hz5);clear hof hbg;first | (go_simp;done) | (go_simp;with_reducible rfl)));(simp only [Act.put,aA,aC,aD]))
   rintro w9 ⟨k1, -,k3,⟨q4,k4⟩, -⟩
   have K1:=h! k1
   clear k1
   go_wp2
   go_ret
   rw [HE.out]
   exact ⟨rfl,K1.out⟩
  ·skip
   obtain rfl:al=1:=by have h9:=HX.out.args;rw [<-HAL.out] at h9;rw [h9];rfl
   obtain ⟨b5,o5,c5,he5,hb5,hc5⟩:=fK HV.out.ints (by rw [HVL.out];omega)
   rw [HVL.out] at he5
   cases he5
   have hy5:=hc5 0 (by rw [HVL.out];omega)
   rw [bW] at hy5
   obtain ⟨y,hy⟩ : ∃ y,y=(args.map s.vals).getD 0 0:=⟨_,rfl⟩
   rw [<-hy] at hy5
   have HY:=h! hy.symm
   have HY64:Hid (In64 y):=h! (by rw [hy];exact HVG.out 0)
   clear hc5 hy
   have HI:=h! (sB (id:=id) (n:=n) (args:=args) (s:=s) HY.out)
   obtain ⟨oa,oc,hov⟩:=HPR.out.out.ints.form
   subst hov
   obtain ⟨ol,hol⟩ : ∃ ol,ol=s.out.length:=⟨_,rfl⟩
   rw [<-hol] at HPR HP HPV HI
   have HOL:=h! hol
   have hol4:ol <= 4096:=by rw [hol];exact HR.out.out
   clear hol
   obtain ⟨lm,cm,fm⟩:=HPR.out.box
   by_cases hfull:ol=4096
   ·rw [if_pos hfull] at HI
    have ht:(((ol:Nat):Int) == 4096)=true:=by rw [hfull];rfl
    clear hfull
    go_wp2_with fail
    refine (endC 4).mono ?_
    rintro e w2 ⟨rfl,hb⟩
    unfold jW
    go_wp2
    refine ⟨rfl, ?_⟩
    rw [HI.out]
    exact ⟨rfl,MOk.still HD.out HP.out (HWR.out.trans (hb.mono HWR.out.size))⟩
   rw [if_neg hfull] at HI
   have ht:(((ol:Nat):Int) == 4096)=false:=by simp;omega
   go_upto_region 23 with (fail)
   clear ht lm cm fm
   obtain ⟨XF,hX1,hX2⟩ : ∃ XF:Nat -> Foot,(∀ q k,q ≠ 10 -> ¬ XF q k) /\ ∀ k,XF 10 k ↔ F 1 k:=⟨fun q=>if q=10 then F 1 else Foot.none,fun q k hq h=>by simp only [if_neg hq] at h;exact h.elim,fun k=>by simp⟩
   have HX1:=h! hX1
   have HX2:=h! hX2
   have HXA:Hid (∀ k,Four.All XF k -> F 1 k):=h! (fun k ⟨q,hq⟩=>by
    by_cases e:q=10
    ·subst e;exact (hX2 k).1 hq
    exact absurd hq (hX1 q k e))
   clear hX1 hX2
   have xW:∀ q k,XF q k -> k < wr.heap.size:=fun q k h=>HPR.out.lt (HXA.out k ⟨q,h⟩)
   have xI:∀ w w' : World,True -> Below w.heap.size w w' -> True:=fun _ _ _ _=>trivial
   have xI0:True:=trivial
   have xB3:¬ Four.All XF w.heap.size:=fun h=>by have:=HP.out.lt (HXA.out _ h);omega
   have NBM:Hid (¬ F 1 bm):=h! (fun h=>HPR.out.apart 0 1 (by omega) _ ((HPR.out.b0 _).2 rfl) h)
   have NB5:Hid (¬ F 1 b5):=h! (fun h=>by
    rcases HV.out.1.form with ⟨h0, -⟩ | ⟨g9,c9,cur9,hv9,hG9, -⟩
    ·rw [HVL.out] at h0;omega
    injection hv9 with q1 q2 q3
    injection q1 with q1
    injection q1 with q1
    rw [<-q1] at hG9
    exact HSD.out b5 hG9 ((HD.out b5).2 ⟨1,h⟩))
   have HNB3:Hid (¬ F 1 w.heap.size):=h! (fun h=>by have:=HP.out.lt h;omega)
   refine Four.wp_region_grow (XF:=XF) (I:=(fun _=>True)) 11 (fun ν kz=>match kz with | 9=>.made wr.heap.size (fun b=>.slice (some ⟨b,0,none⟩) 1 1) #[.int .i64 y] | 10=>.holds (fun u w' => ∃ (g1 c1:Nat),u = .slice (some ⟨g1,0,none⟩) (ol+1) c1/\eM w' (Foot.one g1) u (s.out ++ [y])/\(F 1 g1 \/ wr.heap.size <= g1)) | _=>.plain) (by kernel_rfl) (by kernel_rfl) ?_ ?_ xW xI xI0 ?_ (fun ν => ?_)
   ·(intro ν k;(try dsimp only);split <;> first | exact True.intro | (intro u w1 w2 hu hb;(obtain ⟨g1,c1,e1,h2,h3⟩:=hu;exact ⟨g1,c1,e1,h2.off hb (fun k _ ⟨q,q1,q2⟩=>HX1.out q k q1 q2),h3⟩)))
   ·(intro ν ν' k h;first | rfl | ((try dsimp only);split <;> first | rfl))
   ·(intro ν j B mk A h;(try dsimp only at h);split at h <;> first | (cases h;exact Nat.le_refl _) | cases h)
   simp only [aK,aR,aM,aT]
   iterate 9 (refine Four.Grow.val (v := ?_) rfl rfl (fun wg hbg hdg => ?_) ?_;rotate_left;(focus ((obtain ⟨lg0,cg0,fg0⟩:=B3.out.off hbg.off xB3);(have hof:Off (F 1) wr wg:=hbg.off.mono (fun k _ hk=>HXA.out k hk);obtain ⟨xl1,xc1,xf1⟩:=HPR.out.box.off hof NBM.out;have hyw:=(hof.cell2 (p:=⟨b5,o5,none⟩) hb5 NB5.out).trans hy5);clear hbg hdg;first | (go_simp;done) | (go_simp;with_reducible rfl)));simp only [Act.put,aA,aC,aD])
   refine Four.Grow.made (T := ?_) rfl rfl (fun wg hbg hdg => ?_) ?_
   rotate_left
   focus ((obtain ⟨lg0,cg0,fg0⟩:=B3.out.off hbg.off xB3);(have hof:Off (F 1) wr wg:=hbg.off.mono (fun k _ hk=>HXA.out k hk);obtain ⟨xl1,xc1,xf1⟩:=HPR.out.box.off hof NBM.out;have hyw:=(hof.cell2 (p:=⟨b5,o5,none⟩) hb5 NB5.out).trans hy5);clear hbg hdg;first | (go_simp;done) | (go_simp;with_reducible rfl))
   simp only [Act.put,Known.val,aA,aC,aD]
   refine Four.Grow.gives rfl (fun wg hbg hdg => ?_) ?_
   focus ((obtain ⟨bx,e9,hbx,hB9⟩:=hdg 9 (by kernel_rfl));simp only [e9];exact pE (xs:=s.out) (n:=ol) _ _ rfl rfl rfl HOL.out.symm (HPR.out.out.off hbg.1 (fun k hk ⟨q,q1,_,q2⟩=>HX1.out q k q1 q2)) hB9 HY64.out (by omega) (fun k hk=>(HX2.out k).2 hk) (fun g1 c1 w'' h2 h3=>⟨g1,c1,rfl,h2,h3.imp_right (aJ hbg.1.size)⟩))
   simp only [Act.put,Known.val,aA,aC,aD]
   intro wg hb hf hap
   obtain ⟨bBN,hνBN,hBBN,hXBN⟩:=hf 9 (by omega)
   have nBNB3:bBN ≠ w.heap.size:=fun e=>by have:=lB3;omega
   have nB3BN:w.heap.size ≠ bBN:=fun e=>nBNB3 e.symm
   simp only [hνBN]
   clear hνBN
   clear hap
   clear lB3 cB3 fB3
   replace B3:=h! (B3.out.off hb.1 xB3)
   have BN:=h! hXBN
   clear hXBN
   obtain ⟨lB3,cB3,fB3⟩:=B3.out
   obtain ⟨lBN,cBN,fBN⟩:=BN.out
   have h10:∃ (g1 c1:Nat), ν 10 = .slice (some ⟨g1,0,none⟩) (ol+1) c1/\eM wg (Foot.one g1) (ν 10) (s.out ++ [y])/\(F 1 g1 \/ wr.heap.size <= g1):=hf 10 (by omega)
   obtain ⟨g1,c1,e10,ho,hg1⟩:=h10
   rw [e10] at ho
   simp only [bH,Nat.reduceAdd,e10]
   have hof:Off (F 1) wr wg:=hb.1.mono (fun k _ hk=>HXA.out k hk)
   have HNEW:Hid (MachP base bs fuel (wg.setCell ⟨bm,3,none⟩ (.slice (some ⟨g1,0,none⟩) (ol+1) c1)) bm { s with out:=s.out ++ [y] } ⟨0,0,0⟩ (.slice (some ⟨g1,0,none⟩) (ol+1) c1) av vv cv mv m (newF F 1 (Foot.one g1))):=h! (HPR.out.outs hof (fun k hk=>by cases hk;exact hg1) (aJ HB.out HWR.out.size) ho)
   have HOFW:Hid (Off (fun k => ∃ i,F i k) w (wg.setCell ⟨bm,3,none⟩ (.slice (some ⟨g1,0,none⟩) (ol+1) c1))):=h! (((Off.of_below HWR.out _).trans (hof.mono fun k _ hk=>⟨1,hk⟩)).trans ((Off.set wg ⟨bm,3,none⟩ _).mono fun k _ hk=>⟨0,(HP.out.b0 k).2 hk⟩))
   have HSUB:Hid (∀ j k,newF F 1 (Foot.one g1) j k -> F j k \/ w.heap.size <= k):=h! (iM fun k hk=>by cases hk;exact hg1.imp_right (aJ HWR.out.size))
   obtain ⟨lm,cm,fm⟩:=HPR.out.box.off hof NBM.out
   clear lB3 cB3 fB3 lBN cBN fBN
   clear ho hof e10 hf hb hy5 hfull hg1
   go_wp2
   go_ret
   rw [HI.out]
   exact ⟨rfl,MOk.of HD.out HNEW.out HOFW.out HSUB.out⟩
  ·skip
   obtain ⟨hn0,hn1⟩:=vE (show nOk ar ce 4 n=true from HX.out.n)
   obtain ⟨nn,rfl⟩ : ∃ nn:Nat,n=nn:=⟨n.toNat,by omega⟩
   obtain ⟨z,hz⟩ : ∃ z,s.cells[nn]? = some z:=⟨_,aB (by have:=HR.out.cl;omega)⟩
   have HI:=h! (sC (id:=id) (args:=args) (s:=s) (n:=(nn:Int)) rfl hz)
   obtain ⟨gc,cc,hcv,hgc,hgcl,hcz,hcf, -⟩:=HPR.out.cel.addr hz
   subst hcv
   have hnl:nn < s.cells.length:=(aE.1 hz).1
   obtain ⟨lm,cm,fm⟩:=HPR.out.box
   clear hz
   go_upto_region 26 with (fail)
   go_quiet (fail)
   clear cm fm hcz hcf
   go_wp2
   go_ret
   rw [HI.out]
   exact ⟨rfl,MOk.still HD.out HP.out (eK HWR.out nq)⟩
  ·skip
   obtain rfl:al=1:=by have h9:=HX.out.args;rw [<-HAL.out] at h9;rw [h9];rfl
   obtain ⟨b5,o5,c5,he5,hb5,hc5⟩:=fK HV.out.ints (by rw [HVL.out];omega)
   rw [HVL.out] at he5
   cases he5
   have hy5:=hc5 0 (by rw [HVL.out];omega)
   rw [bW] at hy5
   obtain ⟨y,hy⟩ : ∃ y,y=(args.map s.vals).getD 0 0:=⟨_,rfl⟩
   rw [<-hy] at hy5
   have HY:=h! hy.symm
   have HY64:Hid (In64 y):=h! (by rw [hy];exact HVG.out 0)
   clear hc5 hy
   obtain ⟨hn0,hn1⟩:=vE (show nOk ar ce 4 n=true from HX.out.n)
   obtain ⟨nn,rfl⟩ : ∃ nn:Nat,n=nn:=⟨n.toNat,by omega⟩
   obtain ⟨z,hz⟩ : ∃ z,s.cells[nn]? = some z:=⟨_,aB (by have:=HR.out.cl;omega)⟩
   have HI:=h! (sD (id:=id) (args:=args) (s:=s) (n:=(nn:Int)) rfl HY.out)
   have HZ:=h! hz
   obtain ⟨gc,cc,hcv,hgc,hgcl,hcz,hcf, -⟩:=HPR.out.cel.addr hz
   subst hcv
   have hnl:nn < s.cells.length:=(aE.1 hz).1
   have HGC:=h! hgc
   clear hz hcz hcf hgc
   go_upto_region 28 with (fail)
   refine wp_region_grow 10 (fun _=>.plain) (by kernel_rfl) (by kernel_rfl) ?_ (fun ν => ?_)
   ·exact fun _=>trivial
   simp only [aK,aR,aM,aT]
   iterate 10 (refine Grow.val (v := ?_) rfl rfl (fun wg hbg hdg => ?_) ?_;rotate_left;(focus ((obtain ⟨lg0,cg0,fg0⟩:=B3.out.later hbg);(have hyw:=(hbg.cell (p:=⟨b5,o5,none⟩) hb5).trans hy5;obtain ⟨xl1,xc1,xf1⟩:=(HPR.out.later hbg).box);clear hbg hdg;first | (go_simp;done) | (go_simp;with_reducible rfl)));simp only [Act.put,aA,aC,aD])
   intro wg hb hf hap
   clear hap
   clear lB3 cB3 fB3
   replace B3:=h! (B3.out.later hb)
   replace HPR:=h! (HPR.out.later hb)
   replace HW:=h! (HW.out.trans (hb.mono HW.out.size))
   clear hb
   obtain ⟨lB3,cB3,fB3⟩:=B3.out
   clear hf hy5
   clear lB3 cB3 fB3
   obtain ⟨gc2,cc2,hcv2, -,hgcl2,hcz2,hcf2,hset⟩:=HPR.out.cel.addr HZ.out
   obtain ⟨rfl,rfl⟩ : gc=gc2/\cc=cc2:=by injection hcv2 with q1 q2 q3;injection q1 with q1;injection q1 with q1;exact ⟨q1,q3⟩
   have hs5:=hset y HY64.out
   have HS5:=h! hs5
   clear hset hs5 hcv2
   go_wp2
   go_ret
   rw [HI.out]
   have hoff:=Off.set wg ⟨gc,nn,none⟩ (.int .i64 y)
   refine ⟨rfl,MOk.of (F':=newF F 5 (F 5)) HD.out (HPR.out.turn 5 (by omega) (by omega) (s' := { s with cells:=s.cells.set nn y }) (G:=F 5) (hoff.mono fun k _ hk=>by cases hk;exact HGC.out) (fun k hk=>.inl hk) (aJ HB.out HW.out.size) (fun e=>by omega) ⟨rfl,rfl⟩ (by rw [if_neg (by omega)]) (by rw [if_neg (by omega)]) (by rw [if_neg (by omega)]) (by rw [if_pos rfl];exact HS5.out) (by rw [if_neg (by omega)];exact ⟨rfl,rfl⟩)) ?_ (fun i k hk => ?_)⟩
   ·exact (Off.of_below HW.out _).trans (hoff.mono fun k _ hk=>by cases hk;exact ⟨5,HGC.out⟩)
   unfold newF at hk
   split at hk
   ·rename_i e;subst e;exact .inl hk
   exact .inl hk
  have HI:=h! (nJ (id:=id) (n:=n) (args:=args) (s:=s) hop)
  have e1:(op == 1)=false:=by simp;omega
  have e2:(op == 2)=false:=by simp;omega
  have e3:(op == 18)=false:=by simp;omega
  have e4:(op == 19)=false:=by simp;omega
  have e5:(op == 21)=false:=by simp;omega
  have e6:(op == 20)=false:=by simp;omega
  have e7:(op == 22)=false:=by simp;omega
  have e8:(op == 23)=false:=by simp;omega
  have e9:(op == 24)=false:=by simp;omega
  have e10:(op == 25)=false:=by simp;omega
  clear hop
  go_wp2_with fail
  clear e1 e2 e3 e4 e5 e6 e7 e8 e9 e10
  refine (aH8 (op:=op) HV.out.ints).mono ?_
  rintro e w2 ⟨rfl,hb⟩
  obtain ⟨ee,hee⟩ : ∃ ee,ee=nB op (args.map s.vals):=⟨_,rfl⟩
  rw [<-hee] at HI ⊢
  clear hee
  cases h0:(ee != 0)
  ·rw [if_neg (by simpa using h0)] at HI
   go_wp2
   go_ret
   rw [HI.out]
   exact ⟨rfl,MOk.still HD.out HP.out (HWR.out.trans (hb.mono HWR.out.size))⟩
  rw [if_pos (by simpa using h0)] at HI
  go_wp2_with fail
  refine (aCO (-1)).mono ?_
  rintro e w3 ⟨rfl,hb3⟩
  unfold jW
  go_wp2
  refine ⟨rfl, ?_⟩
  rw [HI.out]
  have h9:=HWR.out.trans (hb.mono HWR.out.size)
  exact ⟨rfl,MOk.still HD.out HP.out (h9.trans (hb3.mono h9.size))⟩
end Go.Proofs.YtcmflfkpeodicaaGreat
