/- Part 37. -/
import Derived.OwnWalk
import Derived.Test.YtgmhnepmkaonaaaGreatQA36
namespace Go.Proofs.YtgmhnepmkaonaaaGreat
private theorem h! {p : Prop} (h : p) : Go.RowKit.Hid p := Go.Lib.hid h
set_option maxHeartbeats 12800000
set_option linter.unusedSimpArgs false
set_option linter.unusedVariables false
open Go.RowKit
def PhiV (W:World) (v:Value) (p:PhiD):Prop := ∃ s u,v = .agg #[.int .i64 p.id,.int .i64 p.typ,s,u]/\Ints W s p.src/\Ints W u p.vals
theorem PhiV.below {W W' : World} {v:Value} {p:PhiD} (h:PhiV W v p) (hb:Below W.heap.size W W'):PhiV W' v p:=by
 obtain ⟨s,u,e,h1,h2⟩:=h
 exact ⟨s,u,e,h1.below hb,h2.below hb⟩
theorem idxFunP {w:World} {v:Value} {ps:List PhiD} {k:FuncId} {cap:Array Value} (eg:Enters Tryz.prog k) (g:PhiD -> Bool) (hv:SliceOf PhiR 4 w v ps)
  (hstep:∀ (W:World) (p:PhiD) (pv:Value),p ∈ ps -> PhiV W pv p -> Below w.heap.size w W -> Calls Tryz.prog k (#[pv] ++ cap) W fun e W'=>e = .returned (.bool (g p))/\Below W.heap.size W W') :
  Calls Tryz.prog 170 #[v,.func (.func k) #[] cap] w fun e w' => ∃ r:Int,e = .returned (.int .i64 r)/\decide (0 <= r)=ps.any g/\Below w.heap.size w w':=by
 obtain ⟨a1,c1,b1,o1,rfl,hc1,hm1,hl1,ha1,hx⟩:=phis_parts hv
 obtain ⟨n1,hn1⟩ : ∃ n,n=ps.length:=⟨_,rfl⟩
 rw [<-hn1] at hc1 hl1 ha1 ⊢
 have G1:=h! hn1
 have HA1:=h! ha1
 have HX:=h! hx
 have HW:=h! (Below.refl w.heap.size w)
 have HST:=h! hstep
 clear hv hn1 ha1 hx hstep
 have eg1:∀ (args:Array Value) (w:World),(callFunc k args).run Tryz.prog w = .ok (.enter k args) w:=eg
 go_enter Tryz.func170,Tryz.ntmps170
 go_wp2_with fail
 go_loopw [8] (fun i wr => ∃ j:Nat,j <= n1/\i = .int .i64 j/\(ps.take j).any g=false/\Below w.heap.size w wr) (fun i _=>n1 - (intOf i).toNat)
 case atStart=>exact ⟨0,Nat.zero_le _,rfl,rfl,HW.out⟩
 case round =>
  obtain ⟨j,hj,rfl,hs,hW⟩:=hrel
  have HS:=h! hs
  replace HW:=h! hW
  clear hs hW
  generalize wr=w3 at *
  by_cases hlt:j < n1
  ·obtain ⟨rfl,hb1⟩:=HA1.out (by omega)
   obtain ⟨p,hxm⟩ : ∃ p,ps[j]? = some p:=⟨_,List.getElem?_eq_getElem (by have:=G1.out;omega)⟩
   obtain ⟨af,av,cf,cv,hP⟩:=HX.out j p hxm
   obtain ⟨m0,m1,m2,m3,r1,r2,r3,r4⟩:=hP.below HW.out hb1
   have HXM:=h! (List.mem_of_getElem? hxm)
   have HTK:=h! (take_snoc ps j p hxm)
   obtain ⟨c,hc⟩ : ∃ c,c=g p:=⟨_,rfl⟩
   have HC:=h! hc
   have HCT:=h! (HST.out w3 p (.agg #[.int .i64 p.id,.int .i64 p.typ,.slice af p.src.length cf,.slice av p.vals.length cv]) HXM.out ⟨_,_,rfl,r1,r2⟩ HW.out)
   rw [<-hc] at HCT
   clear hc hxm hP r1 r2 r3 r4
   cases c
   ·go_wp2_with (go_at_fn k;refine HCT.out.mono ?_;rintro e w4 ⟨rfl,hb4⟩;have HB4:=h! hb4;clear hb4)
    have HW4:=h! (HW.out.trans (HB4.out.mono HW.out.size))
    have HS2:Hid ((ps.take (j+1)).any g=false):=h! (by rw [HTK.out,List.any_append,HS.out];simp [<-HC.out])
    go_roundw
    case rel=>exact ⟨j+1,hlt,by go_num,HS2.out,HW4.out⟩
    case measure=>simp [intOf];omega
   ·go_wp2_with (go_at_fn k;refine HCT.out.mono ?_;rintro e w4 ⟨rfl,hb4⟩;have HB4:=h! hb4;clear hb4)
    have HW4:=h! (HW.out.trans (HB4.out.mono HW.out.size))
    have HAN:Hid (ps.any g=true):=h! (by rw [List.any_eq_true];exact ⟨p,HXM.out,HC.out.symm⟩)
    go_ret
    exact ⟨j,rfl,by rw [HAN.out];simp,HW4.out⟩
  ·have HAN:Hid (ps.any g=false):=h! (by have h9:=HS.out;rw [List.take_of_length_le (by have:=G1.out;omega)] at h9;exact h9)
   go_wp2
   go_ret
   exact ⟨-1,rfl,by rw [HAN.out];simp,HW.out⟩
theorem contFunP {w:World} {v:Value} {ps:List PhiD} {k:FuncId} {cap:Array Value} (eg:Enters Tryz.prog k) (g:PhiD -> Bool) (hv:SliceOf PhiR 4 w v ps)
  (hstep:∀ (W:World) (p:PhiD) (pv:Value),p ∈ ps -> PhiV W pv p -> Below w.heap.size w W -> Calls Tryz.prog k (#[pv] ++ cap) W fun e W'=>e = .returned (.bool (g p))/\Below W.heap.size W W') :
  Calls Tryz.prog 136 #[v,.func (.func k) #[] cap] w fun e w'=>e = .returned (.bool (ps.any g))/\Below w.heap.size w w':=by
 have HC:=h! (idxFunP eg g hv hstep)
 clear hv hstep
 go_enter Tryz.func136,Tryz.ntmps136
 go_wp2_with fail
 refine HC.out.mono ?_
 rintro e w2 ⟨r,rfl,hr,hb⟩
 have HR:=h! hr
 have HB:=h! hb
 clear hr hb
 go_wp2
 go_ret
 exact ⟨ret_bool HR.out,HB.out⟩
structure StrM (f:FuncD) (W:World) (bs bt bg lg lcap bm:Nat) (g:Array Value) (pv ov lv A2:Value) (O:List Nat) (I:Nat -> Option Nat):Prop where
 s:Box W bs #[.pointer (some ⟨bt,0,none⟩),A2,.map (some bm)]
 t:TreeM f W bt bg lg lcap g pv ov lv O I
 mp:IMap W bm (defM (entF f))
theorem StrM.later {f:FuncD} {W W' : World} {bs bt bg lg lcap bm:Nat} {g:Array Value} {pv ov lv A2:Value} {O:List Nat} {I:Nat -> Option Nat} (h:StrM f W bs bt bg lg lcap bm g pv ov lv A2 O I) (hb:Below W.heap.size W W'):StrM f W' bs bt bg lg lcap bm g pv ov lv A2 O I :=
 ⟨h.s.later hb,h.t.later hb,h.mp.later hb⟩
theorem StrM.alloc {f:FuncD} {W:World} {bs bt bg lg lcap bm:Nat} {g:Array Value} {pv ov lv A2:Value} {O:List Nat} {I:Nat -> Option Nat} (h:StrM f W bs bt bg lg lcap bm g pv ov lv A2 O I) (o:Obj):StrM f (W.alloc o) bs bt bg lg lcap bm g pv ov lv A2 O I:=h.later ((Below.refl _ _).alloc (Nat.le_refl _) o)
def AheadP (f:FuncD) (d k b at_:Int):Prop:=(d=b/\k < at_) \/ (d ≠ b/\OverP f d.toNat b.toNat)
set_option maxRecDepth 100000 in
theorem ahead {f:FuncD} {w:World} {bs bt bg lg lcap bm:Nat} {g:Array Value} {pv ov lv A2:Value} {O:List Nat} {I:Nat -> Option Nat} (hS:StrM f w bs bt bg lg lcap bm g pv ov lv A2 O I) (hO:IsOrder f O) (hD:DomI f O I) (hc:checkF f=0)
  {id d k b at_:Int} (he:((entF f).find? fun e=>e.1 == id)=some (id,d,k)) (hd:0 <= d/\d < (f.blocks.length:Int)) (hb:0 <= b/\b < (f.blocks.length:Int)) :
  Calls Tryz.prog 141 #[.pointer (some ⟨bs,0,none⟩),.int .i64 id,.int .i64 b,.int .i64 at_] w fun e w' => ∃ r:Bool,e = .returned (.bool r)/\(r=true ↔ AheadP f d k b at_)/\Below w.heap.size w w':=by
 have HI:=h! hS.mp
 have HG:Hid (mget (defM (entF f)) id=some (.agg #[.int .i64 d,.int .i64 k])):=h! (by rw [def_get hc,he];rfl)
 obtain ⟨dn,rfl⟩ : ∃ dn:Nat,d=(dn:Int):=⟨d.toNat,by omega⟩
 obtain ⟨bn,rfl⟩ : ∃ bn:Nat,b=(bn:Int):=⟨b.toNat,by omega⟩
 have HOV:=h! (fun (W:World) (hW:Below w.heap.size w W)=>treeOver (a:=dn) (b:=bn) (hS.t.later hW) hO hD (formB_nb (check_fine hc).1).2 (by omega) (by omega))
 have HS:=h! hS
 obtain ⟨l1,c1,f1⟩:=hS.s
 clear hS hO hD hc he hd hb
 by_cases hdb:dn=bn
 ·have hq:((dn:Int) == (bn:Int))=true:=by simp [hdb]
  have HDB:=h! hdb
  clear hdb
  go_enter Tryz.func141,Tryz.ntmps141
  go_wp2_with (at_lookup;refine wpList_look0 (q:=.i64) (z:=.agg #[.int .i64 0,.int .i64 0]) (b:=bm) (mm:=defM (entF f)) (y:=id) rfl _ _ _ rfl Tryz.underlying99 Tryz.underlying3 (zeroDef _) rfl HI.out rfl ?_;rw [HG.out];simp only [Option.getD_some])
  have HW:=h! ((Below.refl w.heap.size w).alloc (Nat.le_refl _) (.cells #[.int .i64 dn,.int .i64 k] 196))
  go_ret
  exact ⟨decide (k < at_),rfl,by rw [decide_eq_true_iff];unfold AheadP;have:=HDB.out;constructor;exact fun h=>.inl ⟨by omega,h⟩;exact fun h=>h.elim (fun h=>h.2) (fun h=>absurd (by omega) h.1),HW.out⟩
 ·have hq:((dn:Int) == (bn:Int))=false:=by simp;omega
  have HDB:=h! hdb
  clear hdb
  go_enter Tryz.func141,Tryz.ntmps141
  go_upto_region 4 with (at_lookup;refine wpList_look0 (q:=.i64) (z:=.agg #[.int .i64 0,.int .i64 0]) (b:=bm) (mm:=defM (entF f)) (y:=id) rfl _ _ _ rfl Tryz.underlying99 Tryz.underlying3 (zeroDef _) rfl HI.out rfl ?_;rw [HG.out];simp only [Option.getD_some])
  clear l1 c1 f1
  have HW:=h! ((Below.refl w.heap.size w).alloc (Nat.le_refl _) (.cells #[.int .i64 dn,.int .i64 k] 196))
  have BX:=h! (Box.new w #[.int .i64 dn,.int .i64 k] 196)
  obtain ⟨bx,hbx⟩ : ∃ bx,bx=w.heap.size:=⟨_,rfl⟩
  have e9:(⟨w.heap.size,0,none⟩ : Addr)=⟨bx,0,none⟩:=by rw [hbx]
  rw [<-hbx] at BX
  simp only [<-hbx]
  generalize w.alloc _=w1 at *
  clear hbx e9
  obtain ⟨lBX,cBX,fBX⟩:=BX.out
  refine wp_region_grow 9 (fun kz=>match kz with | 7=>.holds (fun u w' => ∃ r:Bool,u = .bool r/\(r=true ↔ OverP f dn bn)) | _=>.plain) (by kernel_rfl) (by kernel_rfl) ?_ (fun ν => ?_)
  ·(intro k;(try dsimp only);split <;> first | exact True.intro | (intro u w1 w2 hu hb;exact hu))
  simp only [List.take_succ_cons,List.take_zero,List.drop_succ_cons,List.drop_zero]
  iterate 7 (refine Grow.val (v := ?_) rfl rfl (fun wg hbg hdg => ?_) ?_;rotate_left;(focus ((obtain ⟨lg0,cg0,fg0⟩:=BX.out.later hbg);(obtain ⟨xl1,xc1,xf1⟩:=(HS.out.later (HW.out.trans (hbg.mono HW.out.size))).s);clear hbg hdg;first | (go_simp;done) | (go_simp;with_reducible rfl)));simp only [Act.put,List.setIfInBounds_toArray,List.set_cons_zero,List.set_cons_succ])
  refine Grow.call (f := ?_) (args := ?_) rfl (fun wg => ?_) (fun wg hbg hdg => ?_) ?_
  rotate_left 2
  focus (first | (go_simp;done) | (go_simp;refine And.intro ?_ ?_ <;> with_reducible rfl) | (go_simp;with_reducible rfl))
  focus exact ((HOV.out wg (HW.out.trans (hbg.mono HW.out.size))).mono (fun e w2 ⟨r,he,hr,hw⟩=>⟨_,he,⟨r,rfl,hr⟩,hw ▸ Below.refl _ _⟩))
  simp only [Act.put,Known.val,List.setIfInBounds_toArray,List.set_cons_zero,List.set_cons_succ]
  refine Grow.val (v := ?_) rfl rfl (fun wg hbg hdg => ?_) ?_
  rotate_left
  focus ((obtain ⟨lg0,cg0,fg0⟩:=BX.out.later hbg);(obtain ⟨xl1,xc1,xf1⟩:=(HS.out.later (HW.out.trans (hbg.mono HW.out.size))).s);clear hbg hdg;first | (go_simp;done) | (go_simp;with_reducible rfl))
  simp only [Act.put,List.setIfInBounds_toArray,List.set_cons_zero,List.set_cons_succ]
  intro wg hb hf hap
  clear hap
  clear lBX cBX fBX
  replace BX:=h! (BX.out.later hb)
  replace HW:=h! (HW.out.trans (hb.mono HW.out.size))
  clear hb
  obtain ⟨lBX,cBX,fBX⟩:=BX.out
  simp only [Nat.zero_add,Nat.reduceAdd]
  have hS:∃ r:Bool, ν 7 = .bool r/\(r=true ↔ OverP f dn bn):=hf 7 (by omega)
  obtain ⟨r,hr1,hr2⟩:=hS
  simp only [hr1]
  have HR:Hid (r=true ↔ AheadP f dn k bn at_):=h! (by
   unfold AheadP
   rw [hr2]
   have:=HDB.out
   exact ⟨fun h=>.inr ⟨by omega,by simpa using h⟩,fun h=>h.elim (fun h=>absurd h.1 (by omega)) (fun h=>by simpa using h.2)⟩)
  clear hf hr1 hr2
  go_wp2
  go_ret
  exact ⟨r,rfl,HR.out,HW.out⟩
def phiFits (xs:List Int) (p:PhiD):Bool:=decide (p.src.length=xs.length) && xs.all fun t=>p.src.contains t
set_option maxRecDepth 100000 in
theorem refPhis {w:World} {pv A1 A2 A3 A4 A5 u:Value} {ps:List PhiD} {xs:List Int} (hp:SliceOf PhiR 4 w pv ps) (hu:Ints w u xs) :
  Calls Tryz.prog 69 #[.agg #[pv,A1,A2,A3,A4,A5],u] w fun e w'=>e = .returned (.bool (ps.all (phiFits xs)))/\Below w.heap.size w w':=by
 obtain ⟨a1,c1,b1,o1,rfl,hc1,hm1,hl1,ha1,hx⟩:=phis_parts hp
 have hul16:=hu.le
 obtain ⟨ua,uc,ub,uo,rfl,huc,hum,hua,hux⟩:=hu.parts
 obtain ⟨pl,hpl⟩ : ∃ n,n=ps.length:=⟨_,rfl⟩
 obtain ⟨ul,hul⟩ : ∃ n,n=xs.length:=⟨_,rfl⟩
 rw [<-hpl] at hc1 hl1 ha1 ⊢
 rw [<-hul] at huc hua hux hul16 ⊢
 have HPL:=h! hpl
 have HUL:=h! hul
 have HA1:=h! ha1
 have HX:=h! hx
 have HUA:=h! hua
 have HUX:=h! hux
 clear hp hu hpl hul ha1 hx hua hux
 go_enter Tryz.func69,Tryz.ntmps69
 go_upto_region 1 with (fail)
 have B1:Hid (Box (w.alloc (.cells #[.slice a1 pl c1,A1,A2,A3,A4,A5] 75)) (w.heap.size) #[.slice a1 pl c1,A1,A2,A3,A4,A5]):=h! (by simpa using (Box.new w #[.slice a1 pl c1,A1,A2,A3,A4,A5] 75))
 have HW:Hid (Below w.heap.size w (w.alloc (.cells #[.slice a1 pl c1,A1,A2,A3,A4,A5] 75))):=h! ((Below.refl _ _).alloc (Nat.le_refl _) _)
 generalize (w.alloc (.cells #[.slice a1 pl c1,A1,A2,A3,A4,A5] 75))=wv at *
 obtain ⟨lB1,cB1,fB1⟩:=B1.out
 go_wp2_with fail
 go_loopw [5] (fun i wr => ∃ j:Nat,j <= pl/\i = .int .i64 j/\(ps.take j).all (phiFits xs)=true/\Below w.heap.size w wr/\Box wr w.heap.size #[.slice a1 pl c1,A1,A2,A3,A4,A5]) (fun i _=>pl - (intOf i).toNat)
 case atStart=>exact ⟨0,Nat.zero_le _,rfl,rfl,HW.out,B1.out⟩
 case round =>
  obtain ⟨j,hj,rfl,hs,hW,h1⟩:=hrel
  clear lB1 cB1 fB1
  have HS:=h! hs
  replace HW:=h! hW
  replace B1:=h! h1
  clear hs hW h1
  generalize wr=w3 at *
  obtain ⟨lB1,cB1,fB1⟩:=B1.out
  by_cases hlt:j < pl
  ·obtain ⟨rfl,hb1⟩:=HA1.out (by omega)
   obtain ⟨p,hxm⟩ : ∃ p,ps[j]? = some p:=⟨_,List.getElem?_eq_getElem (by have:=HPL.out;omega)⟩
   obtain ⟨af,av,cf,cv,hP⟩:=HX.out j p hxm
   obtain ⟨m0,m1,m2,m3,r1,r2,r3,r4⟩:=hP.below HW.out hb1
   have HXM:=h! (List.mem_of_getElem? hxm)
   have HTK:=h! (take_snoc ps j p hxm)
   have HC2:=h! hP.c2
   have HSRC:=h! hP.src
   obtain ⟨sl,hsl⟩ : ∃ sl,sl=p.src.length:=⟨_,rfl⟩
   rw [<-hsl] at HC2 HSRC m2
   have HSL:=h! hsl
   have hsl16:sl <= 17592186044416:=by rw [hsl];exact hP.src.le
   clear hxm hP r1 r2 r3 r4 m0 m1 m3 hsl
   by_cases hlen:sl=ul
   ·have hq:((sl:Int) != (ul:Int))=false:=by simp [hlen]
    have HLEN:Hid (p.src.length=xs.length):=h! (by rw [<-HSL.out, <-HUL.out];exact hlen)
    clear hlen
    go_wp2_with fail
    clear m2
    go_loopw [6] (fun i wr => ∃ t:Nat,t <= ul/\i = .int .i64 t/\((xs.take t).all fun t=>p.src.contains t)=true/\Below w.heap.size w wr/\Box wr w.heap.size #[.slice (some ⟨b1,o1,none⟩) pl c1,A1,A2,A3,A4,A5]) (fun i _=>ul - (intOf i).toNat)
    case atStart=>exact ⟨0,Nat.zero_le _,rfl,rfl,HW.out,B1.out⟩
    case round =>
     obtain ⟨t,ht,rfl,hs,hW,h1⟩:=hrel
     clear lB1 cB1 fB1
     have HS2:=h! hs
     replace HW:=h! hW
     replace B1:=h! h1
     clear hs hW h1
     generalize wr=w5 at *
     obtain ⟨lB1,cB1,fB1⟩:=B1.out
     by_cases hltt:t < ul
     ·obtain ⟨rfl,hub⟩:=HUA.out (by omega)
      obtain ⟨y,hy⟩ : ∃ y,y=xs.getD t 0:=⟨_,rfl⟩
      have CU:=h! ((HW.out.cell (p:=⟨ub,uo+t,none⟩) hub).trans (HUX.out t hltt))
      rw [<-hy] at CU
      have hym:xs[t]? = some y:=by rw [hy];exact list_at xs t (by have:=HUL.out;omega)
      have HTK2:=h! (take_snoc xs t y hym)
      have HYM:=h! (List.mem_of_getElem? hym)
      have CUl:=World.block_lt_of_cell? w5 _ CU.out
      have CS:=h! ((HW.out.cell (p:=⟨b1,o1+j * 4+2,none⟩) hb1).trans HC2.out)
      have CSl:=World.block_lt_of_cell? w5 _ CS.out
      obtain ⟨c,hc⟩ : ∃ c,c=p.src.contains y:=⟨_,rfl⟩
      have HC:=h! hc
      have HCT:Hid (∀ wg,Below w5.heap.size w5 wg -> Calls Tryz.prog 39 #[.slice af sl cf,.int .i64 y] wg fun e w'=>e = .returned (.bool c)/\Below wg.heap.size wg w'):=h! (fun wg hbg=>by
       rw [hc]
       exact (refHas (x:=y) (HSRC.out.below (HW.out.trans (hbg.mono HW.out.size)))).mono (fun e w2 ⟨h1,h2⟩=>⟨h1,h2 ▸ Below.refl _ _⟩))
      clear hy hym hc
      go_upto_region 9 with (fail)
      refine wp_region_grow 12 (fun kz=>match kz with | 10=>.const (.bool c) | _=>.plain) (by kernel_rfl) (by kernel_rfl) ?_ (fun ν => ?_)
      ·(intro k;(try dsimp only);split <;> first | exact True.intro | (intro u w1 w2 hu hb;exact hu.below hb))
      simp only [List.take_succ_cons,List.take_zero,List.drop_succ_cons,List.drop_zero]
      iterate 10 (refine Grow.val (v := ?_) rfl rfl (fun wg hbg hdg => ?_) ?_;rotate_left;(focus ((obtain ⟨lg0,cg0,fg0⟩:=B1.out.later hbg);(have hcl:=(hbg.cell (p:=⟨ub,uo+t,none⟩) CUl).trans CU.out;have hcr:=(hbg.cell (p:=⟨b1,o1+j * 4+2,none⟩) CSl).trans CS.out);clear hbg hdg;first | (go_simp;done) | (go_simp;with_reducible rfl)));simp only [Act.put,List.setIfInBounds_toArray,List.set_cons_zero,List.set_cons_succ])
      refine Grow.call (f := ?_) (args := ?_) rfl (fun wg => ?_) (fun wg hbg hdg => ?_) ?_
      rotate_left 2
      focus (first | (go_simp;done) | (go_simp;refine And.intro ?_ ?_ <;> with_reducible rfl) | (go_simp;with_reducible rfl))
      focus exact Calls.mono (HCT.out wg hbg) (fun e w2 ⟨he,hb2⟩=>⟨_,he,rfl,hb2⟩)
      simp only [Act.put,Known.val,List.setIfInBounds_toArray,List.set_cons_zero,List.set_cons_succ]
      refine Grow.val (v := ?_) rfl rfl (fun wg hbg hdg => ?_) ?_
      rotate_left
      focus ((obtain ⟨lg0,cg0,fg0⟩:=B1.out.later hbg);(have hcl:=(hbg.cell (p:=⟨ub,uo+t,none⟩) CUl).trans CU.out;have hcr:=(hbg.cell (p:=⟨b1,o1+j * 4+2,none⟩) CSl).trans CS.out);clear hbg hdg;first | (go_simp;done) | (go_simp;with_reducible rfl))
      simp only [Act.put,List.setIfInBounds_toArray,List.set_cons_zero,List.set_cons_succ]
      intro wg hb hf hap
      clear hap
      clear lB1 cB1 fB1
      replace B1:=h! (B1.out.later hb)
      replace HW:=h! (HW.out.trans (hb.mono HW.out.size))
      clear hb
      obtain ⟨lB1,cB1,fB1⟩:=B1.out
      clear hf
      cases c
      ·have HNO:Hid (ps.all (phiFits xs)=false):=h! (by
        rw [List.all_eq_false]
        refine ⟨p,HXM.out, ?_⟩
        unfold phiFits
        rw [Bool.and_eq_true,not_and]
        intro _ h
        rw [List.all_eq_true] at h
        have:=h y HYM.out
        rw [<-HC.out] at this
        cases this)
       go_wp2
       go_ret
       exact ⟨ret_bool HNO.out.symm,HW.out⟩
      ·have HNX:Hid (((xs.take (t+1)).all fun t=>p.src.contains t)=true):=h! (by rw [HTK2.out,List.all_append,HS2.out];simpa using HC.out.symm)
       go_wp2
       go_roundw
       case rel=>exact ⟨t+1,hltt,by go_num,HNX.out,HW.out,B1.out⟩
       case measure=>simp [intOf];omega
     ·have HNX:Hid ((ps.take (j+1)).all (phiFits xs)=true):=h! (by
       rw [HTK.out,List.all_append,HS.out]
       have h9:=HS2.out
       rw [List.take_of_length_le (by have:=HUL.out;omega)] at h9
       simp only [List.all_cons,List.all_nil,Bool.and_true,Bool.true_and]
       unfold phiFits
       rw [h9,decide_eq_true HLEN.out];rfl)
      go_wp2
      go_roundw
      case rel=>exact ⟨j+1,hlt,by go_num,HNX.out,HW.out,B1.out⟩
      case measure=>simp [intOf];omega
   ·have hq:((sl:Int) != (ul:Int))=true:=by simp;omega
    have HNO:Hid (ps.all (phiFits xs)=false):=h! (by
     rw [List.all_eq_false]
     refine ⟨p,HXM.out, ?_⟩
     unfold phiFits
     rw [decide_eq_false (by rw [<-HSL.out, <-HUL.out];exact hlen)]
     simp)
    clear hlen
    go_wp2
    go_ret
    exact ⟨ret_bool HNO.out.symm,HW.out⟩
  ·have HYES:Hid (ps.all (phiFits xs)=true):=h! (by have h9:=HS.out;rw [List.take_of_length_le (by have:=HPL.out;omega)] at h9;exact h9)
   go_wp2
   go_ret
   exact ⟨ret_bool HYES.out.symm,HW.out⟩
theorem ent_range {f:FuncD} (hn:1 <= f.blocks.length) {e:Int × Int × Int} (he:e ∈ entF f):0 <= e.2.1/\e.2.1 < (f.blocks.length:Int):=by
 unfold entF at he
 rcases List.mem_append.1 he with he | he
 ·unfold parN at he
  rw [List.mem_map] at he
  obtain ⟨j,_,rfl⟩:=he
  exact ⟨by show (0:Int) <= 0;omega,by show (0:Int) < _;omega⟩
 ·unfold blkN at he
  rw [List.mem_flatMap] at he
  obtain ⟨⟨x,c⟩,hx,he⟩:=he
  rw [List.take_length,List.mem_zipIdx_iff_getElem?] at hx
  have hc:c < f.blocks.length:=(List.getElem?_eq_some_iff.1 hx).1
  unfold entB at he
  have hd:e.2.1=(c:Int):=by
   rcases List.mem_append.1 he with he | he
   ·unfold phiN at he
    rw [List.mem_map] at he
    obtain ⟨p,_,rfl⟩:=he
    rfl
   ·unfold codN at he
    rw [List.mem_filterMap] at he
    obtain ⟨y,_,hy⟩:=he
    split at hy
    ·cases hy;rfl
    ·cases hy
  rw [hd]
  omega
theorem used_def {f:FuncD} (hc:checkF f=0) {u:UseD} (hu:u ∈ uxF f):∃ d k,((entF f).find? fun e=>e.1 == u.id)=some (u.id,d,k)/\0 <= d/\d < (f.blocks.length:Int):=by
 obtain ⟨h1,h2⟩:=check_fine hc
 have hev:=even_of h1
 have hp:u.pair ∈ usesF f:=by rw [<-ux_pairs hev];exact List.mem_map.2 ⟨u,hu,rfl⟩
 have h3:usesE (valsF f) (usesF f)=0:=by
  unfold checkF at hc
  rw [if_pos (by rw [h1,h2];rfl)] at hc
  exact hc
 have h4:(usesF f).any (fun u => !(tyOf (valsF f) u.1).isSome)=false:=by
  unfold usesE at h3
  cases h:(usesF f).any (fun u => !(tyOf (valsF f) u.1).isSome) with
  | false=>rfl
  | true=>rw [h,if_pos rfl] at h3;omega
 rw [List.any_eq_false] at h4
 have h5:=h4 u.pair hp
 have h6:u.id ∈ (entF f).map (·.1):=by
  rw [ent_keys hc]
  refine Classical.byContradiction fun h => ?_
  have h7:=tyOf_none.2 h
  have h8:u.pair.1=u.id:=rfl
  rw [h8,h7] at h5
  exact h5 rfl
 obtain ⟨e,he,hid⟩:=List.mem_map.1 h6
 cases hf:((entF f).find? fun e=>e.1 == u.id) with
 | none =>
  rw [List.find?_eq_none] at hf
  exact absurd (by simp [hid]) (hf e he)
 | some e2 =>
  have h9:=List.find?_some hf
  have h10:=List.mem_of_find?_eq_some hf
  simp only [beq_iff_eq] at h9
  obtain ⟨r1,r2⟩:=ent_range (formB_nb h1).1 h10
  obtain ⟨i,d,k⟩:=e2
  simp only at h9
  subst h9
  exact ⟨d,k,rfl,r1,r2⟩
theorem use_range {f:FuncD} (h:formB f=true) {u:UseD} (hu:u ∈ uxF f):0 <= u.blk/\u.blk < (f.blocks.length:Int)/\(u.pos < 0 -> 0 <= u.src/\u.src < (f.blocks.length:Int)):=by
 unfold uxF at hu
 rw [List.mem_flatMap] at hu
 obtain ⟨⟨x,c⟩,hx,hu⟩:=hu
 have hx2:=hx
 rw [List.mem_zipIdx_iff_getElem?] at hx
 have hc:c < f.blocks.length:=(List.getElem?_eq_some_iff.1 hx).1
 unfold formB at h
 simp only [Bool.and_eq_true,List.all_eq_true] at h
 have hok:=h.2 (x,c) hx2
 unfold blockOk at hok
 simp only [Bool.and_eq_true,List.all_eq_true] at hok
 unfold uxB at hu
 rw [List.append_assoc] at hu
 rcases List.mem_append.1 hu with hu | hu
 ·rw [List.mem_flatMap] at hu
  obtain ⟨p,hp,hu⟩:=hu
  have hpk:=hok.1.1.2 p hp
  unfold phiOk at hpk
  simp only [Bool.and_eq_true,List.all_eq_true] at hpk
  unfold uxP at hu
  rw [List.mem_map] at hu
  obtain ⟨vs,hvs,rfl⟩:=hu
  have hs:=List.of_mem_zip hvs
  have hn:=hpk.1.2 vs.2 hs.2
  unfold numB at hn
  simp at hn
  exact ⟨by show (0:Int) <= (c:Int);omega,by show (c:Int) < _;omega,fun _=>hn⟩
 ·rcases List.mem_append.1 hu with hu | hu
  ·rw [List.mem_flatMap] at hu
   obtain ⟨yk,hy,hu⟩:=hu
   unfold uxI at hu
   rw [List.mem_map] at hu
   obtain ⟨a,ha,rfl⟩:=hu
   exact ⟨by show (0:Int) <= (c:Int);omega,by show (c:Int) < _;omega,fun h=>by exfalso;have h:((yk.2:Nat):Int) < 0:=h;omega⟩
  ·unfold uxT at hu
   split at hu
   ·simp at hu
    subst hu
    exact ⟨by show (0:Int) <= (c:Int);omega,by show (c:Int) < _;omega,fun h=>by exfalso;have h:((x.code.length:Nat):Int) < 0:=h;omega⟩
   ·split at hu
    ·simp at hu
     subst hu
     exact ⟨by show (0:Int) <= (c:Int);omega,by show (c:Int) < _;omega,fun h=>by exfalso;have h:((x.code.length:Nat):Int) < 0:=h;omega⟩
    ·simp at hu
def UseOk (f:FuncD) (u:UseD):Prop := ∃ d k,((entF f).find? fun e=>e.1 == u.id)=some (u.id,d,k) /\
 ((u.pos < 0/\OverP f d.toNat u.src.toNat) \/ (¬ u.pos < 0/\AheadP f d k u.blk u.pos))
def FaultR (f : FuncD) (b e : Int) : Prop :=
  (∃ c : Nat, c < f.blocks.length ∧ ¬ Way (toB f) (-1) c ∧ (∀ d, d < c → Way (toB f) (-1) d) ∧ b = c ∧ e = 4) ∨
  ((∀ d, d < f.blocks.length → Way (toB f) (-1) d) ∧
    ((∃ (c : Nat) (x : BlockD), f.blocks[c]? = some x ∧ x.phis.all (phiFits (natI (predN f f.blocks.length 0 c))) = false ∧ (∀ (d : Nat) (y : BlockD), d < c → f.blocks[d]? = some y → y.phis.all (phiFits (natI (predN f f.blocks.length 0 d))) = true) ∧ b = c ∧ e = 5) ∨
     ((∀ (d : Nat) (y : BlockD), f.blocks[d]? = some y → y.phis.all (phiFits (natI (predN f f.blocks.length 0 d))) = true) ∧
      ((∃ (i : Nat) (u : UseD), (uxF f)[i]? = some u ∧ ¬ UseOk f u ∧ (∀ v ∈ (uxF f).take i, UseOk f v) ∧ b = u.blk ∧ e = 6) ∨
       ((∀ v ∈ uxF f, UseOk f v) ∧ b = 0 ∧ e = 0)))))
end Go.Proofs.YtgmhnepmkaonaaaGreat
