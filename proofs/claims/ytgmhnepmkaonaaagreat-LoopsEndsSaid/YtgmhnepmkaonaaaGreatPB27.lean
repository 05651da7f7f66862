/- What the claim needs,part 27. -/
import Derived.OwnWalk
import Derived.Test.YtgmhnepmkaonaaaGreatPB26
import Derived.ArgAppend
import Derived.Test.YtgmhnepmkaonaaaGreatPB25
import Derived.Test.YtgmhnepmkaonaaaGreatPB19
namespace Go.Proofs.YtgmhnepmkaonaaaGreat
set_option linter.unusedSimpArgs false
set_option linter.unusedVariables false
open Go.RowKit
def PhiV (W:World) (v:Value) (p:PhiD):Prop := ∃ s u,v = .agg #[.int .i64 p.id,.int .i64 p.typ,s,u]/\Ints W s p.src/\Ints W u p.vals
theorem PhiV.below {W W' : World} {v:Value} {p:PhiD} (h:PhiV W v p) (hb:Below W.heap.size W W'):PhiV W' v p:=by
 obtain ⟨s,u,e,h1,h2⟩:=h
 exact ⟨s,u,e,h1.below hb,h2.below hb⟩
set_option maxHeartbeats 3200000 in
theorem idxFunP {w:World} {v:Value} {ps:List PhiD} {k:FuncId} {cap:Array Value} (eg:Enters Tryz.prog k) (g:PhiD -> Bool) (hv:SliceOf PhiR 4 w v ps)
  (hstep:∀ (W:World) (p:PhiD) (pv:Value),p ∈ ps -> PhiV W pv p -> Below w.heap.size w W -> Calls Tryz.prog k (#[pv] ++ cap) W fun e W'=>e = .returned (.bool (g p))/\Below W.heap.size W W') :
  Calls Tryz.prog 170 #[v,.func (.func k) #[] cap] w fun e w' => ∃ r:Int,e = .returned (.int .i64 r)/\decide (0 <= r)=ps.any g/\Below w.heap.size w w':=by
 obtain ⟨a1,c1,b1,o1,rfl,hc1,hm1,hl1,ha1,hx⟩:=phis_parts hv
 obtain ⟨n1,hn1⟩ : ∃ n,n=ps.length:=⟨_,rfl⟩
 rw [<-hn1] at hc1 hl1 ha1 ⊢
 have G1:=Lib.hid hn1
 have HA1:=Lib.hid ha1
 have HX:=Lib.hid hx
 have HW:=Lib.hid (Below.refl w.heap.size w)
 have HST:=Lib.hid hstep
 clear hv hn1 ha1 hx hstep
 have eg1:∀ (args:Array Value) (w:World),(callFunc k args).run Tryz.prog w = .ok (.enter k args) w:=eg
 go_enter Tryz.func170,Tryz.ntmps170
 go_wp2_with fail
 go_loopw [8] (fun i wr => ∃ j:Nat,j <= n1/\i = .int .i64 j/\(ps.take j).any g=false/\Below w.heap.size w wr) (fun i _=>n1 - (intOf i).toNat)
 case atStart=>exact ⟨0,Nat.zero_le _,rfl,rfl,HW.out⟩
 case round =>
  obtain ⟨j,hj,rfl,hs,hW⟩:=hrel
  have HS:=Lib.hid hs
  replace HW:=Lib.hid hW
  clear hs hW
  generalize wr=w3 at *
  by_cases hlt:j < n1
  ·obtain ⟨rfl,hb1⟩:=HA1.out (by omega)
   obtain ⟨p,hxm⟩ : ∃ p,ps[j]? = some p:=⟨_,List.getElem?_eq_getElem (by have:=G1.out;omega)⟩
   obtain ⟨af,av,cf,cv,hP⟩:=HX.out j p hxm
   obtain ⟨m0,m1,m2,m3,r1,r2,r3,r4⟩:=hP.below HW.out hb1
   have HXM:=Lib.hid (List.mem_of_getElem? hxm)
   have HTK:=Lib.hid (take_snoc ps j p hxm)
   obtain ⟨c,hc⟩ : ∃ c,c=g p:=⟨_,rfl⟩
   have HC:=Lib.hid hc
   have HCT:=Lib.hid (HST.out w3 p (.agg #[.int .i64 p.id,.int .i64 p.typ,.slice af p.src.length cf,.slice av p.vals.length cv]) HXM.out ⟨_,_,rfl,r1,r2⟩ HW.out)
   rw [<-hc] at HCT
   clear hc hxm hP r1 r2 r3 r4
   cases c
   ·go_wp2_with (go_at_fn k;refine HCT.out.mono ?_;rintro e w4 ⟨rfl,hb4⟩;have HB4:=Lib.hid hb4;clear hb4)
    have HW4:=Lib.hid (HW.out.trans (HB4.out.mono HW.out.size))
    have HS2:Hid ((ps.take (j+1)).any g=false):=Lib.hid (by rw [HTK.out,List.any_append,HS.out];simp [<-HC.out])
    go_roundw
    case rel=>exact ⟨j+1,hlt,by go_num,HS2.out,HW4.out⟩
    case measure=>simp [intOf];omega
   ·go_wp2_with (go_at_fn k;refine HCT.out.mono ?_;rintro e w4 ⟨rfl,hb4⟩;have HB4:=Lib.hid hb4;clear hb4)
    have HW4:=Lib.hid (HW.out.trans (HB4.out.mono HW.out.size))
    have HAN:Hid (ps.any g=true):=Lib.hid (by rw [List.any_eq_true];exact ⟨p,HXM.out,HC.out.symm⟩)
    go_ret
    exact ⟨j,rfl,by rw [HAN.out];simp,HW4.out⟩
  ·have HAN:Hid (ps.any g=false):=Lib.hid (by have h9:=HS.out;rw [List.take_of_length_le (by have:=G1.out;omega)] at h9;exact h9)
   go_wp2
   go_ret
   exact ⟨-1,rfl,by rw [HAN.out];simp,HW.out⟩
set_option maxHeartbeats 1600000 in
theorem contFunP {w:World} {v:Value} {ps:List PhiD} {k:FuncId} {cap:Array Value} (eg:Enters Tryz.prog k) (g:PhiD -> Bool) (hv:SliceOf PhiR 4 w v ps)
  (hstep:∀ (W:World) (p:PhiD) (pv:Value),p ∈ ps -> PhiV W pv p -> Below w.heap.size w W -> Calls Tryz.prog k (#[pv] ++ cap) W fun e W'=>e = .returned (.bool (g p))/\Below W.heap.size W W') :
  Calls Tryz.prog 136 #[v,.func (.func k) #[] cap] w fun e w'=>e = .returned (.bool (ps.any g))/\Below w.heap.size w w':=by
 have HC:=Lib.hid (idxFunP eg g hv hstep)
 clear hv hstep
 go_enter Tryz.func136,Tryz.ntmps136
 go_wp2_with fail
 refine HC.out.mono ?_
 rintro e w2 ⟨r,rfl,hr,hb⟩
 have HR:=Lib.hid hr
 have HB:=Lib.hid hb
 clear hr hb
 go_wp2
 go_ret
 exact ⟨ret_bool HR.out,HB.out⟩
structure StrM (f:FuncD) (W:World) (bs bt bg lg lcap bm:Nat) (g:Array Value) (pv ov lv A2:Value) (O:List Nat) (I:Nat -> Option Nat):Prop where
 s:Box W bs #[.pointer (some ⟨bt,0,none⟩),A2,.map (some bm)]
 t:TreeM f W bt bg lg lcap g pv ov lv O I
 mp:IMap W bm (defM (entF f))
theorem StrM.later {f:FuncD} {W W' : World} {bs bt bg lg lcap bm:Nat} {g:Array Value} {pv ov lv A2:Value} {O:List Nat} {I:Nat -> Option Nat} (h:StrM f W bs bt bg lg lcap bm g pv ov lv A2 O I) (hb:Below W.heap.size W W'):StrM f W' bs bt bg lg lcap bm g pv ov lv A2 O I :=
 ⟨h.s.later hb,h.t.later hb,h.mp.later hb⟩
theorem StrM.alloc {f:FuncD} {W:World} {bs bt bg lg lcap bm:Nat} {g:Array Value} {pv ov lv A2:Value} {O:List Nat} {I:Nat -> Option Nat} (h:StrM f W bs bt bg lg lcap bm g pv ov lv A2 O I) (o:Obj):StrM f (W.alloc o) bs bt bg lg lcap bm g pv ov lv A2 O I:=h.later ((Below.refl _ _).alloc (Nat.le_refl _) o)
def AheadP (f:FuncD) (d k b at_:Int):Prop:=(d=b/\k < at_) \/ (d ≠ b/\OverP f d.toNat b.toNat)
set_option maxHeartbeats 6400000 in
set_option maxRecDepth 100000 in
theorem ahead {f:FuncD} {w:World} {bs bt bg lg lcap bm:Nat} {g:Array Value} {pv ov lv A2:Value} {O:List Nat} {I:Nat -> Option Nat} (hS:StrM f w bs bt bg lg lcap bm g pv ov lv A2 O I) (hO:IsOrder f O) (hD:DomI f O I) (hc:checkF f=0)
  {id d k b at_:Int} (he:((entF f).find? fun e=>e.1 == id)=some (id,d,k)) (hd:0 <= d/\d < (f.blocks.length:Int)) (hb:0 <= b/\b < (f.blocks.length:Int)) :
  Calls Tryz.prog 141 #[.pointer (some ⟨bs,0,none⟩),.int .i64 id,.int .i64 b,.int .i64 at_] w fun e w' => ∃ r:Bool,e = .returned (.bool r)/\(r=true ↔ AheadP f d k b at_)/\Below w.heap.size w w':=by
 have HI:=Lib.hid hS.mp
 have HG:Hid (mget (defM (entF f)) id=some (.agg #[.int .i64 d,.int .i64 k])):=Lib.hid (by rw [def_get hc,he];rfl)
 obtain ⟨dn,rfl⟩ : ∃ dn:Nat,d=(dn:Int):=⟨d.toNat,by omega⟩
 obtain ⟨bn,rfl⟩ : ∃ bn:Nat,b=(bn:Int):=⟨b.toNat,by omega⟩
 have HOV:=Lib.hid (fun (W:World) (hW:Below w.heap.size w W)=>treeOver (a:=dn) (b:=bn) (hS.t.later hW) hO hD (formB_nb (check_fine hc).1).2 (by omega) (by omega))
 have HS:=Lib.hid hS
 obtain ⟨l1,c1,f1⟩:=hS.s
 clear hS hO hD hc he hd hb
 by_cases hdb:dn=bn
 ·have hq:((dn:Int) == (bn:Int))=true:=by simp [hdb]
  have HDB:=Lib.hid hdb
  clear hdb
  go_enter Tryz.func141,Tryz.ntmps141
  go_wp2_with (at_lookup;refine wpList_look0 (q:=.i64) (z:=.agg #[.int .i64 0,.int .i64 0]) (b:=bm) (mm:=defM (entF f)) (y:=id) rfl _ _ _ rfl Tryz.underlying99 Tryz.underlying3 (zeroDef _) rfl HI.out rfl ?_;rw [HG.out];simp only [Option.getD_some])
  have HW:=Lib.hid ((Below.refl w.heap.size w).alloc (Nat.le_refl _) (.cells #[.int .i64 dn,.int .i64 k] 196))
  go_ret
  exact ⟨decide (k < at_),rfl,by rw [decide_eq_true_iff];unfold AheadP;have:=HDB.out;constructor;exact fun h=>.inl ⟨by omega,h⟩;exact fun h=>h.elim (fun h=>h.2) (fun h=>absurd (by omega) h.1),HW.out⟩
 ·have hq:((dn:Int) == (bn:Int))=false:=by simp;omega
  have HDB:=Lib.hid hdb
  clear hdb
  go_enter Tryz.func141,Tryz.ntmps141
  go_upto_region 4 with (at_lookup;refine wpList_look0 (q:=.i64) (z:=.agg #[.int .i64 0,.int .i64 0]) (b:=bm) (mm:=defM (entF f)) (y:=id) rfl _ _ _ rfl Tryz.underlying99 Tryz.underlying3 (zeroDef _) rfl HI.out rfl ?_;rw [HG.out];simp only [Option.getD_some])
  clear l1 c1 f1
  have HW:=Lib.hid ((Below.refl w.heap.size w).alloc (Nat.le_refl _) (.cells #[.int .i64 dn,.int .i64 k] 196))
  have BX:=Lib.hid (Box.new w #[.int .i64 dn,.int .i64 k] 196)
  obtain ⟨bx,hbx⟩ : ∃ bx,bx=w.heap.size:=⟨_,rfl⟩
  have e9:(⟨w.heap.size,0,none⟩ : Addr)=⟨bx,0,none⟩:=by rw [hbx]
  rw [<-hbx] at BX
  simp only [<-hbx]
  generalize w.alloc _=w1 at *
  clear hbx e9


  obtain ⟨lBX,cBX,fBX⟩:=BX.out
  refine wp_region_grow 9 (fun kz=>match kz with | 7=>.holds (fun u w' => ∃ r:Bool,u = .bool r/\(r=true ↔ OverP f dn bn)) | _=>.plain) (by kernel_rfl) (by kernel_rfl) ?_ (fun ν => ?_)
  ·(intro k;(try dsimp only);split <;> first | exact True.intro | (intro u w1 w2 hu hb;exact hu))
  simp only [List.take_succ_cons,List.take_zero,List.drop_succ_cons,List.drop_zero]
  iterate 7 (refine Grow.val (v := ?_) rfl rfl (fun wg hbg hdg => ?_) ?_;rotate_left;(focus ((obtain ⟨lg0,cg0,fg0⟩:=BX.out.later hbg);(obtain ⟨xl1,xc1,xf1⟩:=(HS.out.later (HW.out.trans (hbg.mono HW.out.size))).s);clear hbg hdg;first | (go_simp;done) | (go_simp;with_reducible rfl)));simp only [Act.put,List.setIfInBounds_toArray,List.set_cons_zero,List.set_cons_succ])
  refine Grow.call (f := ?_) (args := ?_) rfl (fun wg => ?_) (fun wg hbg hdg => ?_) ?_
  rotate_left 2
  focus (first | (go_simp;done) | (go_simp;refine And.intro ?_ ?_ <;> with_reducible rfl) | (go_simp;with_reducible rfl))
  focus exact ((HOV.out wg (HW.out.trans (hbg.mono HW.out.size))).mono (fun e w2 ⟨r,he,hr,hw⟩=>⟨_,he,⟨r,rfl,hr⟩,hw ▸ Below.refl _ _⟩))
  simp only [Act.put,Known.val,List.setIfInBounds_toArray,List.set_cons_zero,List.set_cons_succ]
  refine Grow.val (v := ?_) rfl rfl (fun wg hbg hdg => ?_) ?_
  rotate_left
  focus ((obtain ⟨lg0,cg0,fg0⟩:=BX.out.later hbg);(obtain ⟨xl1,xc1,xf1⟩:=(HS.out.later (HW.out.trans (hbg.mono HW.out.size))).s);clear hbg hdg;first | (go_simp;done) | (go_simp;with_reducible rfl))
  simp only [Act.put,List.setIfInBounds_toArray,List.set_cons_zero,List.set_cons_succ]
  intro wg hb hf hap
  clear hap
  clear lBX cBX fBX
  replace BX:=Lib.hid (BX.out.later hb)
  replace HW:=Lib.hid (HW.out.trans (hb.mono HW.out.size))
  clear hb
  obtain ⟨lBX,cBX,fBX⟩:=BX.out
  simp only [Nat.zero_add,Nat.reduceAdd]
  have hS:∃ r:Bool, ν 7 = .bool r/\(r=true ↔ OverP f dn bn):=hf 7 (by omega)
  obtain ⟨r,hr1,hr2⟩:=hS
  simp only [hr1]
  have HR:Hid (r=true ↔ AheadP f dn k bn at_):=Lib.hid (by
   unfold AheadP
   rw [hr2]
   have:=HDB.out
   exact ⟨fun h=>.inr ⟨by omega,by simpa using h⟩,fun h=>h.elim (fun h=>absurd h.1 (by omega)) (fun h=>by simpa using h.2)⟩)
  clear hf hr1 hr2
  go_wp2
  go_ret
  exact ⟨r,rfl,HR.out,HW.out⟩
end Go.Proofs.YtgmhnepmkaonaaaGreat
namespace Go.Proofs.YtgmhnepmkaonaaaGreat
set_option linter.unusedSimpArgs false
set_option linter.unusedVariables false
open Go.RowKit
def phiFits (xs:List Int) (p:PhiD):Bool:=decide (p.src.length=xs.length) && xs.all fun t=>p.src.contains t
end Go.Proofs.YtgmhnepmkaonaaaGreat
namespace Go.Proofs.YtgmhnepmkaonaaaGreat
set_option linter.unusedSimpArgs false
set_option linter.unusedVariables false
open Go.RowKit
theorem ent_range {f:FuncD} (hn:1 <= f.blocks.length) {e:Int × Int × Int} (he:e ∈ entF f):0 <= e.2.1/\e.2.1 < (f.blocks.length:Int):=by
 unfold entF at he
 rcases List.mem_append.1 he with he | he
 ·unfold parN at he
  rw [List.mem_map] at he
  obtain ⟨j,_,rfl⟩:=he
  exact ⟨by show (0:Int) <= 0;omega,by show (0:Int) < _;omega⟩
 ·unfold blkN at he
  rw [List.mem_flatMap] at he
  obtain ⟨⟨x,c⟩,hx,he⟩:=he
  rw [List.take_length,List.mem_zipIdx_iff_getElem?] at hx
  have hc:c < f.blocks.length:=(List.getElem?_eq_some_iff.1 hx).1
  unfold entB at he
  have hd:e.2.1=(c:Int):=by
   rcases List.mem_append.1 he with he | he
   ·unfold phiN at he
    rw [List.mem_map] at he
    obtain ⟨p,_,rfl⟩:=he
    rfl
   ·unfold codN at he
    rw [List.mem_filterMap] at he
    obtain ⟨y,_,hy⟩:=he
    split at hy
    ·cases hy;rfl
    ·cases hy
  rw [hd]
  omega
theorem used_def {f:FuncD} (hc:checkF f=0) {u:UseD} (hu:u ∈ uxF f):∃ d k,((entF f).find? fun e=>e.1 == u.id)=some (u.id,d,k)/\0 <= d/\d < (f.blocks.length:Int):=by
 obtain ⟨h1,h2⟩:=check_fine hc
 have hev:=even_of h1
 have hp:u.pair ∈ usesF f:=by rw [<-ux_pairs hev];exact List.mem_map.2 ⟨u,hu,rfl⟩
 have h3:usesE (valsF f) (usesF f)=0:=by
  unfold checkF at hc
  rw [if_pos (by rw [h1,h2];rfl)] at hc
  exact hc
 have h4:(usesF f).any (fun u => !(tyOf (valsF f) u.1).isSome)=false:=by
  unfold usesE at h3
  cases h:(usesF f).any (fun u => !(tyOf (valsF f) u.1).isSome) with
  | false=>rfl
  | true=>rw [h,if_pos rfl] at h3;omega
 rw [List.any_eq_false] at h4
 have h5:=h4 u.pair hp
 have h6:u.id ∈ (entF f).map (·.1):=by
  rw [ent_keys hc]
  refine Classical.byContradiction fun h => ?_
  have h7:=tyOf_none.2 h
  have h8:u.pair.1=u.id:=rfl
  rw [h8,h7] at h5
  exact h5 rfl
 obtain ⟨e,he,hid⟩:=List.mem_map.1 h6
 cases hf:((entF f).find? fun e=>e.1 == u.id) with
 | none =>
  rw [List.find?_eq_none] at hf
  exact absurd (by simp [hid]) (hf e he)
 | some e2 =>
  have h9:=List.find?_some hf
  have h10:=List.mem_of_find?_eq_some hf
  simp only [beq_iff_eq] at h9
  obtain ⟨r1,r2⟩:=ent_range (formB_nb h1).1 h10
  obtain ⟨i,d,k⟩:=e2
  simp only at h9
  subst h9
  exact ⟨d,k,rfl,r1,r2⟩
theorem use_range {f:FuncD} (h:formB f=true) {u:UseD} (hu:u ∈ uxF f):0 <= u.blk/\u.blk < (f.blocks.length:Int)/\(u.pos < 0 -> 0 <= u.src/\u.src < (f.blocks.length:Int)):=by
 unfold uxF at hu
 rw [List.mem_flatMap] at hu
 obtain ⟨⟨x,c⟩,hx,hu⟩:=hu
 have hx2:=hx
 rw [List.mem_zipIdx_iff_getElem?] at hx
 have hc:c < f.blocks.length:=(List.getElem?_eq_some_iff.1 hx).1
 unfold formB at h
 simp only [Bool.and_eq_true,List.all_eq_true] at h
 have hok:=h.2 (x,c) hx2
 unfold blockOk at hok
 simp only [Bool.and_eq_true,List.all_eq_true] at hok
 unfold uxB at hu
 rw [List.append_assoc] at hu
 rcases List.mem_append.1 hu with hu | hu
 ·rw [List.mem_flatMap] at hu
  obtain ⟨p,hp,hu⟩:=hu
  have hpk:=hok.1.1.2 p hp
  unfold phiOk at hpk
  simp only [Bool.and_eq_true,List.all_eq_true] at hpk
  unfold uxP at hu
  rw [List.mem_map] at hu
  obtain ⟨vs,hvs,rfl⟩:=hu
  have hs:=List.of_mem_zip hvs
  have hn:=hpk.1.2 vs.2 hs.2
  unfold numB at hn
  simp at hn
  exact ⟨by show (0:Int) <= (c:Int);omega,by show (c:Int) < _;omega,fun _=>hn⟩
 ·rcases List.mem_append.1 hu with hu | hu
  ·rw [List.mem_flatMap] at hu
   obtain ⟨yk,hy,hu⟩:=hu
   unfold uxI at hu
   rw [List.mem_map] at hu
   obtain ⟨a,ha,rfl⟩:=hu
   exact ⟨by show (0:Int) <= (c:Int);omega,by show (c:Int) < _;omega,fun h=>by exfalso;have h:((yk.2:Nat):Int) < 0:=h;omega⟩
  ·unfold uxT at hu
   split at hu
   ·simp at hu
    subst hu
    exact ⟨by show (0:Int) <= (c:Int);omega,by show (c:Int) < _;omega,fun h=>by exfalso;have h:((x.code.length:Nat):Int) < 0:=h;omega⟩
   ·split at hu
    ·simp at hu
     subst hu
     exact ⟨by show (0:Int) <= (c:Int);omega,by show (c:Int) < _;omega,fun h=>by exfalso;have h:((x.code.length:Nat):Int) < 0:=h;omega⟩
    ·simp at hu
def UseOk (f:FuncD) (u:UseD):Prop := ∃ d k,((entF f).find? fun e=>e.1 == u.id)=some (u.id,d,k) /\
 ((u.pos < 0/\OverP f d.toNat u.src.toNat) \/ (¬ u.pos < 0/\AheadP f d k u.blk u.pos))
def FaultR (f : FuncD) (b e : Int) : Prop :=
  (∃ c : Nat, c < f.blocks.length ∧ ¬ Way (toB f) (-1) c ∧ (∀ d, d < c → Way (toB f) (-1) d) ∧ b = c ∧ e = 4) ∨
  ((∀ d, d < f.blocks.length → Way (toB f) (-1) d) ∧
    ((∃ (c : Nat) (x : BlockD), f.blocks[c]? = some x ∧ x.phis.all (phiFits (natI (predN f f.blocks.length 0 c))) = false ∧ (∀ (d : Nat) (y : BlockD), d < c → f.blocks[d]? = some y → y.phis.all (phiFits (natI (predN f f.blocks.length 0 d))) = true) ∧ b = c ∧ e = 5) ∨
     ((∀ (d : Nat) (y : BlockD), f.blocks[d]? = some y → y.phis.all (phiFits (natI (predN f f.blocks.length 0 d))) = true) ∧
      ((∃ (i : Nat) (u : UseD), (uxF f)[i]? = some u ∧ ¬ UseOk f u ∧ (∀ v ∈ (uxF f).take i, UseOk f v) ∧ b = u.blk ∧ e = 6) ∨
       ((∀ v ∈ uxF f, UseOk f v) ∧ b = 0 ∧ e = 0)))))
end Go.Proofs.YtgmhnepmkaonaaaGreat
namespace Go.Proofs.YtgmhnepmkaonaaaGreat
set_option linter.unusedSimpArgs false
set_option linter.unusedVariables false
open Go.RowKit
private theorem Since.alloc {w0 W:World} (h:Since w0 W) (o:Obj):Since w0 (W.alloc o):=h.later ((Below.refl _ _).alloc (Nat.le_refl _) o)
end Go.Proofs.YtgmhnepmkaonaaaGreat
namespace Go.Proofs.YtgmhnepmkaonaaaGreat
set_option linter.unusedSimpArgs false
set_option linter.unusedVariables false
open Go.RowKit
set_option maxHeartbeats 3200000 in
theorem eqInts {w:World} {u v:Value} {xs ys:List Int} (hu:Ints w u xs) (hv:Ints w v ys):Calls Tryz.prog 92 #[u,v] w fun e w'=>e = .returned (.bool (decide (xs=ys)))/\Below w.heap.size w w':=by
 obtain ⟨a1,c1,b1,o1,rfl,hc1,hm1,ha1,hx⟩:=hu.parts
 obtain ⟨a2,c2,b2,o2,rfl,hc2,hm2,ha2,hy⟩:=hv.parts
 obtain ⟨n1,hn1⟩ : ∃ n,n=xs.length:=⟨_,rfl⟩
 obtain ⟨n2,hn2⟩ : ∃ n,n=ys.length:=⟨_,rfl⟩
 rw [<-hn1] at hc1 ha1 hx ⊢
 rw [<-hn2] at hc2 ha2 hy ⊢
 have G1:=Lib.hid hn1
 have G2:=Lib.hid hn2
 have HA1:=Lib.hid ha1
 have HA2:=Lib.hid ha2
 have HX:=Lib.hid hx
 have HY:=Lib.hid hy
 have HW:=Lib.hid (Below.refl w.heap.size w)
 clear hu hv hn1 hn2 ha1 ha2 hx hy
 by_cases hne:n1=n2
 ·subst hne
  go_enter Tryz.func92,Tryz.ntmps92
  go_wp2_with fail
  go_loopw [13] (fun i wr => ∃ k:Nat,k <= n1/\i = .int .i64 k/\(∀ j,j < k -> xs.getD j 0=ys.getD j 0)/\Below w.heap.size w wr) (fun i _=>n1 - (intOf i).toNat)
  case atStart=>exact ⟨0,Nat.zero_le _,rfl,fun j h=>absurd h (Nat.not_lt_zero _),HW.out⟩
  case round =>
   obtain ⟨k,hk,rfl,hs,hW⟩:=hrel
   have HS:=Lib.hid hs
   replace HW:=Lib.hid hW
   clear hs hW
   generalize wr=w3 at *
   by_cases hlt:k < n1
   ·obtain ⟨rfl,hb1⟩:=HA1.out (by omega)
    obtain ⟨rfl,hb2⟩:=HA2.out (by omega)
    have hxk:=(HW.out.cell (p:=⟨b1,o1+k,none⟩) hb1).trans (HX.out k hlt)
    have hyk:=(HW.out.cell (p:=⟨b2,o2+k,none⟩) hb2).trans (HY.out k hlt)
    obtain ⟨p,hp⟩ : ∃ p,p=xs.getD k 0:=⟨_,rfl⟩
    obtain ⟨q,hq⟩ : ∃ q,q=ys.getD k 0:=⟨_,rfl⟩
    rw [<-hp] at hxk
    rw [<-hq] at hyk
    have H3:=Lib.hid hp
    have H4:=Lib.hid hq
    clear hp hq
    cases hpq:(p != q)
    ·have HPQ:=Lib.hid hpq
     go_upto_region 6 with (fail)
     go_quiet (fail)
     go_wp2
     go_roundw
     case rel =>
      refine ⟨k+1,hlt,by go_num, ?_,below_drewN HW.out _⟩
      intro j hj
      by_cases e:j=k
      ·subst e
       have:=HPQ.out
       simp at this
       rw [<-H3.out, <-H4.out,this]
      ·exact HS.out j (by omega)
     case measure=>simp [intOf];omega
    ·have HPQ:=Lib.hid hpq
     go_upto_region 6 with (fail)
     go_quiet (fail)
     go_wp2
     go_ret
     exact ⟨ret_bool (decide_eq_false (fun e=>by
      have:=HPQ.out
      simp at this
      exact this (by rw [H3.out,H4.out,e]))).symm,below_drewN HW.out _⟩
   ·have hkn:k=n1:=by omega
    have HEQ:Hid (xs=ys):=Lib.hid (list_eq (by rw [<-G1.out, <-G2.out]) (by rw [<-G1.out, <-hkn];exact HS.out))
    clear hkn
    go_wp2
    go_ret
    exact ⟨ret_bool (decide_eq_true HEQ.out).symm,HW.out⟩
 ·have hq:((n1:Int) != (n2:Int))=true:=by simp;omega
  have HNE:=Lib.hid hne
  clear hne
  go_enter Tryz.func92,Tryz.ntmps92
  go_wp2
  go_ret
  exact ⟨ret_bool (decide_eq_false (fun e=>HNE.out (by rw [G1.out,G2.out,e]))).symm,HW.out⟩
set_option maxHeartbeats 3200000 in
theorem idxFunI {w:World} {v:Value} {xs:List Int} {k:FuncId} {cap:Array Value} (eg:Enters Tryz.prog k) (p:Int -> Bool) (hv:Ints w v xs)
  (hstep:∀ (W:World) (x:Int),x ∈ xs -> Below w.heap.size w W -> Calls Tryz.prog k (#[.int .i64 x] ++ cap) W fun e W'=>e = .returned (.bool (p x))/\Below W.heap.size W W') :
  Calls Tryz.prog 113 #[v,.func (.func k) #[] cap] w fun e w' => ∃ r:Int,e = .returned (.int .i64 r)/\decide (0 <= r)=xs.any p/\Below w.heap.size w w':=by
 obtain ⟨a1,c1,b1,o1,rfl,hc1,hm1,ha1,hx⟩:=hv.parts
 obtain ⟨n1,hn1⟩ : ∃ n,n=xs.length:=⟨_,rfl⟩
 rw [<-hn1] at hc1 ha1 hx ⊢
 have G1:=Lib.hid hn1
 have HA1:=Lib.hid ha1
 have HX:=Lib.hid hx
 have HW:=Lib.hid (Below.refl w.heap.size w)
 have HST:=Lib.hid hstep
 clear hv hn1 ha1 hx hstep
 have eg1:∀ (args:Array Value) (w:World),(callFunc k args).run Tryz.prog w = .ok (.enter k args) w:=eg
 go_enter Tryz.func113,Tryz.ntmps113
 go_wp2_with fail
 go_loopw [8] (fun i wr => ∃ j:Nat,j <= n1/\i = .int .i64 j/\(xs.take j).any p=false/\Below w.heap.size w wr) (fun i _=>n1 - (intOf i).toNat)
 case atStart=>exact ⟨0,Nat.zero_le _,rfl,rfl,HW.out⟩
 case round =>
  obtain ⟨j,hj,rfl,hs,hW⟩:=hrel
  have HS:=Lib.hid hs
  replace HW:=Lib.hid hW
  clear hs hW
  generalize wr=w3 at *
  by_cases hlt:j < n1
  ·obtain ⟨rfl,hb1⟩:=HA1.out (by omega)
   have hxk:=(HW.out.cell (p:=⟨b1,o1+j,none⟩) hb1).trans (HX.out j hlt)
   obtain ⟨x,hx⟩ : ∃ x,x=xs.getD j 0:=⟨_,rfl⟩
   rw [<-hx] at hxk
   have hxm:xs[j]? = some x:=by rw [hx];exact list_at xs j (by have:=G1.out;omega)
   have HXM:=Lib.hid (List.mem_of_getElem? hxm)
   have HTK:=Lib.hid (take_snoc xs j x hxm)
   clear hx hxm
   obtain ⟨c,hc⟩ : ∃ c,c=p x:=⟨_,rfl⟩
   have HC:=Lib.hid hc
   have HCT:=Lib.hid (HST.out w3 x HXM.out HW.out)
   rw [<-hc] at HCT
   clear hc
   cases c
   ·go_wp2_with (go_at_fn k;refine HCT.out.mono ?_;rintro e w4 ⟨rfl,hb4⟩;have HB4:=Lib.hid hb4;clear hb4)
    have HW4:=Lib.hid (HW.out.trans (HB4.out.mono HW.out.size))
    have HS2:Hid ((xs.take (j+1)).any p=false):=Lib.hid (by rw [HTK.out,List.any_append,HS.out];simp [<-HC.out])
    go_roundw
    case rel=>exact ⟨j+1,hlt,by go_num,HS2.out,HW4.out⟩
    case measure=>simp [intOf];omega
   ·go_wp2_with (go_at_fn k;refine HCT.out.mono ?_;rintro e w4 ⟨rfl,hb4⟩;have HB4:=Lib.hid hb4;clear hb4)
    have HW4:=Lib.hid (HW.out.trans (HB4.out.mono HW.out.size))
    have HAN:Hid (xs.any p=true):=Lib.hid (by rw [List.any_eq_true];exact ⟨x,HXM.out,HC.out.symm⟩)
    go_ret
    exact ⟨j,rfl,by rw [HAN.out];simp,HW4.out⟩
  ·have HAN:Hid (xs.any p=false):=Lib.hid (by have h9:=HS.out;rw [List.take_of_length_le (by have:=G1.out;omega)] at h9;exact h9)
   go_wp2
   go_ret
   exact ⟨-1,rfl,by rw [HAN.out];simp,HW.out⟩
set_option maxHeartbeats 1600000 in
theorem contFunI {w:World} {v:Value} {xs:List Int} {k:FuncId} {cap:Array Value} (eg:Enters Tryz.prog k) (p:Int -> Bool) (hv:Ints w v xs)
  (hstep:∀ (W:World) (x:Int),x ∈ xs -> Below w.heap.size w W -> Calls Tryz.prog k (#[.int .i64 x] ++ cap) W fun e W'=>e = .returned (.bool (p x))/\Below W.heap.size W W') :
  Calls Tryz.prog 74 #[v,.func (.func k) #[] cap] w fun e w'=>e = .returned (.bool (xs.any p))/\Below w.heap.size w w':=by
 have HC:=Lib.hid (idxFunI eg p hv hstep)
 clear hv hstep
 go_enter Tryz.func74,Tryz.ntmps74
 go_wp2_with fail
 refine HC.out.mono ?_
 rintro e w2 ⟨r,rfl,hr,hb⟩
 have HR:=Lib.hid hr
 have HB:=Lib.hid hb
 clear hr hb
 go_wp2
 go_ret
 exact ⟨ret_bool HR.out,HB.out⟩
end Go.Proofs.YtgmhnepmkaonaaaGreat
namespace Go.Proofs.YtgmhnepmkaonaaaGreat
set_option linter.unusedSimpArgs false
set_option linter.unusedVariables false
open Go.RowKit
theorem usesCEnters:Enters Tryz.prog 140:=enters_of Tryz.func140 (by kernel_rfl) rfl
def NotAheadR (f:FuncD) (d k b at_:Int) (w:World) (e:Ending) (w' : World):Prop := ∃ r:Bool,e = .returned (.bool r)/\(r=true ↔ ¬ AheadP f d k b at_)/\Below w.heap.size w w'
set_option maxHeartbeats 3200000 in
theorem usesC {f:FuncD} {w:World} {bs bt bg lg lcap bm:Nat} {g:Array Value} {pv ov lv A2:Value} {O:List Nat} {I:Nat -> Option Nat} (hS:StrM f w bs bt bg lg lcap bm g pv ov lv A2 O I) (hO:IsOrder f O) (hD:DomI f O I) (hc:checkF f=0)
  {id d k b at_:Int} {b1 b2 b3:Nat} (he:((entF f).find? fun e=>e.1 == id)=some (id,d,k)) (hd:0 <= d/\d < (f.blocks.length:Int)) (hb:0 <= b/\b < (f.blocks.length:Int))
  (h1:Box w b1 #[.pointer (some ⟨bs,0,none⟩)]) (h2:Box w b2 #[.int .i64 b]) (h3:Box w b3 #[.int .i64 at_]) :
  Calls Tryz.prog 140 #[.int .i64 id,.pointer (some ⟨b1,0,none⟩),.pointer (some ⟨b2,0,none⟩),.pointer (some ⟨b3,0,none⟩)] w (NotAheadR f d k b at_ w):=by
 have HA:=Lib.hid (ahead hS hO hD hc (at_:=at_) he hd hb)
 obtain ⟨l1,c1,f1⟩:=h1
 obtain ⟨l2,c2,f2⟩:=h2
 obtain ⟨l3,c3,f3⟩:=h3
 clear hS hO hD hc he hd hb
 go_enter Tryz.func140,Tryz.ntmps140
 go_wp2_with fail
 refine HA.out.mono ?_
 rintro e w2 ⟨r,rfl,hr,hb⟩
 have HR:=Lib.hid hr
 have HB:=Lib.hid hb
 clear hr hb
 cases r
 ·go_wp2
  go_ret
  exact ⟨true,rfl,⟨(fun _ h=>by have:=HR.out.2 h;simp at this),(fun _=>rfl)⟩,HB.out⟩
 ·go_wp2
  go_ret
  exact ⟨false,rfl,⟨(fun h=>by cases h),(fun h=>absurd (HR.out.1 (by trivial)) h)⟩,HB.out⟩
end Go.Proofs.YtgmhnepmkaonaaaGreat
