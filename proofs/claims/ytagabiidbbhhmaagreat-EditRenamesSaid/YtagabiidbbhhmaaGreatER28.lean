/- Part 28. -/
import Derived.Test.YtagabiidbbhhmaaGreatER27
namespace Go.Proofs.YtagabiidbbhhmaaGreat
set_option maxHeartbeats 6400000
set_option linter.all false
section
open Go.RowKit
def kJ (f:FuncD) (a b:Nat):Prop:=Way (toB f) (-1) a/\Way (toB f) (-1) b /\ ¬ Way (toB f) (a:Int) b
def aGB (f:FuncD) (v:Value) (w:World) (e:Ending) (w' : World):Prop :=
 Below w.heap.size w w' /\ ((eZ f ≠ 0/\e = .returned (.tuple #[.pointer none,.int .i64 (eZ f)])) \/
  (eZ f=0 /\ ∃ (bt bg lg lcap:Nat) (g:Array Value) (pv ov lv:Value) (O:List Nat) (I:Nat -> Option Nat),e = .returned (.tuple #[.pointer (some ⟨bt,0,none⟩),.int .i64 0])/\v = .agg g/\fO f O/\TreeM f w' bt bg lg lcap g pv ov lv O I/\DomI f O I))
theorem aEW {w:World} {v:Value} {f:FuncD} (hv:fU w v f):Calls Tryz.prog 84 #[v] w (aGB f v w):=by
 have HV:=h! hv
 obtain ⟨ap,cp,ab,cb,rfl,hp,ha,hc,hB⟩:=hv.form
 clear hp ha hc hB hv
 go_enter Tryz.func84,Tryz.ntmps84
 go_upto_region 1 with (fail)
 have ai:=(Below.refl w.heap.size w).alloc (aB _) (.cells #[.slice ap f.params.length cp,.int .i64 f.arrays,.int .i64 f.cells,.slice ab f.blocks.length cb] 25)
 have HW:=h! ai
 clear ai
 have B1:=h! (Box.new w #[.slice ap f.params.length cp,.int .i64 f.arrays,.int .i64 f.cells,.slice ab f.blocks.length cb] 25)
 generalize w.alloc (.cells #[.slice ap f.params.length cp,.int .i64 f.arrays,.int .i64 f.cells,.slice ab f.blocks.length cb] 25)=wv at *
 obtain ⟨ae,aa,ac⟩:=B1.out
 go_wp2_with fail
 refine (aA7 (HV.out.below HW.out)).mono ?_
 rintro e w2 ⟨hb,⟨ad,rfl⟩ | ⟨ad,bg,O,rfl,hO,hG⟩⟩
 ·have hc1:(eZ f != 0)=true:=by simpa using ad
  have af:=h! ad
  clear ad
  clear ae aa ac
  replace B1:=h! (B1.out.later hb)
  replace HW:=h! (HW.out.trans (hb.mono HW.out.size))
  clear hb
  obtain ⟨ae,aa,ac⟩:=B1.out
  go_wp2
  go_ret2
  exact ⟨HW.out,.inl ⟨af.out,rfl⟩⟩
 have af:=h! ad
 have HO:=h! hO
 have HG:=h! hG
 clear ad hO hG
 clear ae aa ac
 replace B1:=h! (B1.out.later hb)
 replace HW:=h! (HW.out.trans (hb.mono HW.out.size))
 clear hb
 obtain ⟨ae,aa,ac⟩:=B1.out
 go_wp2_with fail
 refine (aF6 (HV.out.below HW.out) HG.out HO.out (fC af.out).1).mono ?_
 rintro e w3 ⟨bt,lg,ag,g,pv,ov,lv,I,rfl,ah,hT,hD,hb⟩
 have HT:=h! hT
 have HD:=h! hD
 have aj:=h! ah
 clear hT hD ah
 clear ae aa ac
 replace B1:=h! (B1.out.later hb)
 replace HW:=h! (HW.out.trans (hb.mono HW.out.size))
 clear hb
 obtain ⟨ae,aa,ac⟩:=B1.out
 go_wp2
 go_ret2
 exact ⟨HW.out,.inr ⟨af.out,bt,bg,lg,ag,g,pv,ov,lv,O,I,rfl,aj.out,HO.out,HT.out,HD.out⟩⟩
theorem vW {W:World} {f:FuncD} {bt bg lg lcap:Nat} {g:Array Value} {pv ov lv:Value} {O:List Nat} {I:Nat -> Option Nat} (hT:TreeM f W bt bg lg lcap g pv ov lv O I) (hO:fO f O) (hI:DomI f O I) (h512:f.blocks.length <= 512)
  {a b:Nat} (ha:a < f.blocks.length) (hb:b < f.blocks.length) :
  Calls Tryz.prog 143 #[.pointer (some ⟨bt,0,none⟩),.int .i64 a,.int .i64 b] W fun e w' => ∃ r:Bool,e = .returned (.bool r)/\(r=true ↔ kJ f a b)/\W=w':=by
 obtain ⟨hc0,be, -, -,bf⟩:=hT.cells
 obtain ⟨pa,pc,pb,po,ap,an,hpm,ae,ai⟩:=hT.place.parts
 rw [fY] at ap an ae
 subst ap
 obtain ⟨lc2, -, -, -,ah,bb⟩:=hT.idom.form
 obtain ⟨h1,h2,h3,h4,h5⟩:=hO.facts
 obtain ⟨nb,af⟩ : ∃ nb,nb=f.blocks.length:=⟨_,rfl⟩
 have ab:=ai a (by rw [fY];exact ha)
 have ac:=ai b (by rw [fY];exact hb)
 rw [aK,mA ha,dE] at ab
 rw [aK,mA hb,dE] at ac
 rw [<-af] at be an ae ah h512 h3 bf ha hb
 obtain ⟨rfl,hpb⟩:=ae (by omega)
 have bc:=h! ah
 have am:=h! hI.tree
 have aq:=h! (fun (v:Nat) (h:Way (toB f) (-1) v)=>hI.proc h)
 have al:=h! (fun (c v:Nat) (h:Way (toB f) (-1) v)=>hI.anc (c:=c) h)
 have az:=h! h2
 have bi:=h! h3
 clear hT ai ah bb h1 h3 h4 h5 hI hO af ae
 by_cases haO:a ∈ O
 ·rw [if_pos haO] at ab
  have ay:decide (((O.idxOf a:Nat):Int) < 0)=false:=by simp
  by_cases hbO:b ∈ O
  ·rw [if_pos hbO] at ac
   have af:decide (((O.idxOf b:Nat):Int) < 0)=false:=by simp
   have ar:=h! ((h2 a).1 haO)
   have ad:=h! ((h2 b).1 hbO)
   clear h2 haO hbO
   go_enter Tryz.func143,Tryz.ntmps143
   go_wp2_with fail
   clear ab ac ay af
   go_loopw [2] (fun u wr => ∃ b' : Nat,u = .int .i64 b' /\ Way (toB f) (-1) b' /\ (Anc I a b' ↔ Anc I a b)/\W=wr) (fun u _=>O.idxOf (intOf u).toNat)
   case atStart=>exact ⟨b,rfl,ad.out,Iff.rfl,rfl⟩
   obtain ⟨c,rfl,ag,ao,rfl⟩:=hrel
   have bh:=h! ag
   have aj:=h! ao
   have ba:=bi.out c ((az.out c).2 ag)
   clear ag ao
   by_cases hca:c=a
   ·have hq:((c:Int) != (a:Int))=false:=by simp [hca]
    have aa:((a:Int) == (c:Int))=true:=by simp [hca]
    have HR:Hid (kJ f a b):=h! ⟨ar.out,ad.out,(al.out a b ad.out).1 (aj.out.1 (by rw [hca];exact .refl))⟩
    have ak:=h! aa
    clear hca aa
    go_wp2
    go_ret
    refine ⟨_,rfl, ?_, ?_⟩
    ·first | exact ⟨fun _=>HR.out,fun _=>ak.out⟩ | simp [HR.out]
    first | rfl | trivial
   have hq:((c:Int) != (a:Int))=true:=by simp;omega
   by_cases hc00:c=0
   ·have aa:((a:Int) == (c:Int))=false:=by simp;omega
    have ak:=h! aa
    clear aa
    have HR:Hid (¬ kJ f a b):=h! (fun h=>by
     have h9:=aj.out.2 ((al.out a b ad.out).2 h.2.2)
     rw [hc00] at h9
     exact hca (by rw [hc00,am.out.anc_zero h9]))
    have hcn:¬ 0 < c:=by omega
    clear hca hc00
    go_wp2
    go_ret
    refine ⟨_,rfl, ?_, ?_⟩
    ·first | exact ⟨fun h=>absurd (ak.out.symm.trans h) (by simp),fun h=>absurd h HR.out⟩ | simp [HR.out]
    first | rfl | trivial
   have hgt:0 < c:=by omega
   obtain ⟨p,hp⟩:=eP.1 ((aq.out c bh.out).resolve_left hc00)
   obtain ⟨p1,p2,p3,p4⟩:=am.out.par hp
   have dp:=bc.out c p (lZ ba hp)
   have bd:=h! p2
   have aw:=h! p3
   have ax:Hid (Anc I a p ↔ Anc I a b):=h! (by
    rw [<-aj.out]
    constructor
    ·exact fun h=>.up hp h
    intro h
    rcases h.parts with e | ⟨q,e,h⟩
    ·exact absurd e.symm hca
    rw [hp] at e;cases e;exact h)
   clear hca hc00 hp p1 p2 p3 p4
   go_wp2
   go_roundw
   case rel=>exact ⟨p,rfl,bd.out,ax.out,by first | rfl | trivial⟩
   have h9:=aw.out
   simp only [intOf,dO] at h9 ⊢
   exact h9
  rw [if_neg hbO] at ac
  have HN:Hid (¬ kJ f a b):=h! (fun h=>hbO ((h2 b).2 h.2.1))
  clear h2 haO hbO
  go_enter Tryz.func143,Tryz.ntmps143
  go_wp2
  go_ret
  exact ⟨false,rfl,by simpa using HN.out,rfl⟩
 ·rw [if_neg haO] at ab
  have HN:Hid (¬ kJ f a b):=h! (fun h=>haO ((h2 a).2 h.1))
  clear h2 haO
  go_enter Tryz.func143,Tryz.ntmps143
  go_wp2
  go_ret
  exact ⟨false,rfl,by simpa using HN.out,rfl⟩
theorem DomI.low {f:FuncD} {O:List Nat} {I:Nat -> Option Nat} (hO:fO f O) (h:DomI f O I) {b p:Nat} (hp:I b=some p):p < f.blocks.length:=by
 obtain ⟨h1,h2,h3,h4,h5⟩:=hO.facts
 exact h3 p ((h2 p).2 (h.tree.par hp).2.1)
end
section
open Go.RowKit
end
section
open Go.RowKit
end
open Go.RowKit
private theorem gA.alloc {w0 W:World} (h:gA w0 W) (o:Obj):gA w0 (W.alloc o):=h.later ((Below.refl _ _).alloc (aB _) o)
theorem rI:entF gU=[(0,0,0)]:=by decide
def PhiV (W:World) (v:Value) (p:PhiD):Prop := ∃ s u,v = .agg #[.int .i64 p.id,.int .i64 p.typ,s,u]/\Ints W s p.src/\Ints W u p.vals
theorem PhiV.below {W W' : World} {v:Value} {p:PhiD} (h:PhiV W v p) (hb:Below W.heap.size W W'):PhiV W' v p:=by
 obtain ⟨s,u,e,h1,h2⟩:=h
 exact ⟨s,u,e,h1.below hb,h2.below hb⟩
theorem aEX {w:World} {v:Value} {ps:List PhiD} {k:FuncId} {cap:Array Value} (eg:Enters Tryz.prog k) (g:PhiD -> Bool) (hv:eX PhiR 4 w v ps)
  (hstep:∀ (W:World) (p:PhiD) (pv:Value),p ∈ ps -> PhiV W pv p -> Below w.heap.size w W -> Calls Tryz.prog k (#[pv] ++ cap) W fun e W'=>e = .returned (.bool (g p))/\Below W.heap.size W W') :
  Calls Tryz.prog 107 #[v,.func (.func k) #[] cap] w fun e w' => ∃ r:Int,e = .returned (.int .i64 r)/\decide (0 <= r)=ps.any g/\Below w.heap.size w w':=by
 obtain ⟨a1,c1,b1,o1,rfl,ak,hm1,ai,ae,hx⟩:=fQ hv
 obtain ⟨n1,ac⟩ : ∃ n,n=ps.length:=⟨_,rfl⟩
 rw [<-ac] at ak ai ae ⊢
 have G1:=h! ac
 have aj:=h! ae
 have HX:=h! hx
 have HW:=h! (Below.refl w.heap.size w)
 have an:=h! hstep
 clear hv ac ae hx hstep
 have eg1:∀ (args:Array Value) (w:World),(callFunc k args).run Tryz.prog w = .ok (.enter k args) w:=eg
 go_enter Tryz.func107,Tryz.ntmps107
 go_wp2_with fail
 go_loopw [8] (fun i wr => ∃ j:Nat,j <= n1/\i = .int .i64 j/\(ps.take j).any g=false/\Below w.heap.size w wr) (fun i _=>n1 - (intOf i).toNat)
 case atStart=>exact ⟨0,aJ _,rfl,rfl,HW.out⟩
 case round =>
  obtain ⟨j,hj,rfl,hs,hW⟩:=hrel
  have HS:=h! hs
  replace HW:=h! hW
  clear hs hW
  generalize wr=w3 at *
  by_cases hlt:j < n1
  ·obtain ⟨rfl,am⟩:=aj.out (by omega)
   obtain ⟨p,aa⟩ : ∃ p,ps[j]? = some p:=⟨_,aC (by have:=G1.out;omega)⟩
   obtain ⟨af,av,cf,cv,hP⟩:=HX.out j p aa
   obtain ⟨m0,m1,m2,m3,r1,r2,r3,r4⟩:=hP.below HW.out am
   have ag:=h! (aG aa)
   have al:=h! (eT ps j p aa)
   obtain ⟨c,hc⟩ : ∃ c,c=g p:=⟨_,rfl⟩
   have HC:=h! hc
   have HCT:=h! (an.out w3 p (.agg #[.int .i64 p.id,.int .i64 p.typ,.slice af p.src.length cf,.slice av p.vals.length cv]) ag.out ⟨_,_,rfl,r1,r2⟩ HW.out)
   rw [<-hc] at HCT
   clear hc aa hP r1 r2 r3 r4
   cases c
   ·go_wp2_with (go_at_fn k;refine HCT.out.mono ?_;rintro e w4 ⟨rfl,hb4⟩;have HB4:=h! hb4;clear hb4)
    have ad:=h! (HW.out.trans (HB4.out.mono HW.out.size))
    have ah:Hid ((ps.take (j+1)).any g=false):=h! (by rw [al.out,List.any_append,HS.out];simp [<-HC.out])
    go_roundw
    case rel=>exact ⟨j+1,hlt,by go_num,ah.out,ad.out⟩
    simp [intOf];omega
   go_wp2_with (go_at_fn k;refine HCT.out.mono ?_;rintro e w4 ⟨rfl,hb4⟩;have HB4:=h! hb4;clear hb4)
   have ad:=h! (HW.out.trans (HB4.out.mono HW.out.size))
   have ab:Hid (ps.any g=true):=h! (by rw [eQ];exact ⟨p,ag.out,HC.out.symm⟩)
   go_ret
   exact ⟨j,rfl,by rw [ab.out];simp,ad.out⟩
  have ab:Hid (ps.any g=false):=h! (by have h9:=HS.out;rw [aH (by have:=G1.out;omega)] at h9;exact h9)
  go_wp2
  go_ret
  exact ⟨-1,rfl,by rw [ab.out];simp,HW.out⟩
theorem aDG {w:World} {v:Value} {ps:List PhiD} {k:FuncId} {cap:Array Value} (eg:Enters Tryz.prog k) (g:PhiD -> Bool) (hv:eX PhiR 4 w v ps)
  (hstep:∀ (W:World) (p:PhiD) (pv:Value),p ∈ ps -> PhiV W pv p -> Below w.heap.size w W -> Calls Tryz.prog k (#[pv] ++ cap) W fun e W'=>e = .returned (.bool (g p))/\Below W.heap.size W W') :
  Calls Tryz.prog 139 #[v,.func (.func k) #[] cap] w fun e w'=>e = .returned (.bool (ps.any g))/\Below w.heap.size w w':=by
 have HC:=h! (aEX eg g hv hstep)
 clear hv hstep
 go_enter Tryz.func139,Tryz.ntmps139
 go_wp2_with fail
 refine HC.out.mono ?_
 rintro e w2 ⟨r,rfl,hr,hb⟩
 have HR:=h! hr
 have HB:=h! hb
 clear hr hb
 go_wp2
 go_ret
 exact ⟨gX HR.out,HB.out⟩
structure StrM (f:FuncD) (W:World) (bs bt bg lg lcap bm:Nat) (g:Array Value) (pv ov lv A2:Value) (O:List Nat) (I:Nat -> Option Nat):Prop where
 s:Box W bs #[.pointer (some ⟨bt,0,none⟩),A2,.map (some bm)]
 t:TreeM f W bt bg lg lcap g pv ov lv O I
 mp:IMap W bm (defM (entF f))
theorem StrM.later {f:FuncD} {W W' : World} {bs bt bg lg lcap bm:Nat} {g:Array Value} {pv ov lv A2:Value} {O:List Nat} {I:Nat -> Option Nat} (h:StrM f W bs bt bg lg lcap bm g pv ov lv A2 O I) (hb:Below W.heap.size W W'):StrM f W' bs bt bg lg lcap bm g pv ov lv A2 O I :=
 ⟨h.s.later hb,h.t.later hb,h.mp.later hb⟩
theorem StrM.alloc {f:FuncD} {W:World} {bs bt bg lg lcap bm:Nat} {g:Array Value} {pv ov lv A2:Value} {O:List Nat} {I:Nat -> Option Nat} (h:StrM f W bs bt bg lg lcap bm g pv ov lv A2 O I) (o:Obj):StrM f (W.alloc o) bs bt bg lg lcap bm g pv ov lv A2 O I:=h.later ((Below.refl _ _).alloc (aB _) o)
def kT (f:FuncD) (d k b at_:Int):Prop:=(d=b/\k < at_) \/ (d ≠ b/\kJ f d.toNat b.toNat)
set_option maxRecDepth 100000 in
theorem ahead {f:FuncD} {w:World} {bs bt bg lg lcap bm:Nat} {g:Array Value} {pv ov lv A2:Value} {O:List Nat} {I:Nat -> Option Nat} (hS:StrM f w bs bt bg lg lcap bm g pv ov lv A2 O I) (hO:fO f O) (hD:DomI f O I) (hc:eZ f=0)
  {id d k b at_:Int} (he:((entF f).find? fun e=>e.1 == id)=some (id,d,k)) (hd:0 <= d/\d < (f.blocks.length:Int)) (hb:0 <= b/\b < (f.blocks.length:Int)) :
  Calls Tryz.prog 145 #[.pointer (some ⟨bs,0,none⟩),.int .i64 id,.int .i64 b,.int .i64 at_] w fun e w' => ∃ r:Bool,e = .returned (.bool r)/\(r=true ↔ kT f d k b at_)/\Below w.heap.size w w':=by
 have HI:=h! hS.mp
 have HG:Hid (mget (defM (entF f)) id=some (.agg #[.int .i64 d,.int .i64 k])):=h! (by rw [aA5 hc,he];rfl)
 obtain ⟨dn,rfl⟩ : ∃ dn:Nat,d=(dn:Int):=⟨d.toNat,by omega⟩
 obtain ⟨bn,rfl⟩ : ∃ bn:Nat,b=(bn:Int):=⟨b.toNat,by omega⟩
 have ai:=h! (fun (W:World) (hW:Below w.heap.size w W)=>vW (a:=dn) (b:=bn) (hS.t.later hW) hO hD (iE (fC hc).1).2 (by omega) (by omega))
 have HS:=h! hS
 obtain ⟨l1,c1,f1⟩:=hS.s
 clear hS hO hD hc he hd hb
 by_cases hdb:dn=bn
 ·have hq:((dn:Int) == (bn:Int))=true:=by simp [hdb]
  have ab:=h! hdb
  clear hdb
  go_enter Tryz.func145,Tryz.ntmps145
  go_wp2_with (at_lookup;refine oA (q:=.i64) (z:=.agg #[.int .i64 0,.int .i64 0]) (b:=bm) (mm:=defM (entF f)) (y:=id) rfl _ _ _ rfl Tryz.underlying94 Tryz.underlying3 (uO _) rfl HI.out rfl ?_;rw [HG.out];simp only [dE])
  have HW:=h! ((Below.refl w.heap.size w).alloc (aB _) (.cells #[.int .i64 dn,.int .i64 k] 171))
  go_ret
  exact ⟨decide (k < at_),rfl,by rw [decide_eq_true_iff];unfold kT;have:=ab.out;constructor;exact fun h=>.inl ⟨by omega,h⟩;exact fun h=>h.elim (fun h=>h.2) (fun h=>absurd (by omega) h.1),HW.out⟩
 ·have hq:((dn:Int) == (bn:Int))=false:=by simp;omega
  have ab:=h! hdb
  clear hdb
  go_enter Tryz.func145,Tryz.ntmps145
  go_upto_region 4 with (at_lookup;refine oA (q:=.i64) (z:=.agg #[.int .i64 0,.int .i64 0]) (b:=bm) (mm:=defM (entF f)) (y:=id) rfl _ _ _ rfl Tryz.underlying94 Tryz.underlying3 (uO _) rfl HI.out rfl ?_;rw [HG.out];simp only [dE])
  clear l1 c1 f1
  have HW:=h! ((Below.refl w.heap.size w).alloc (aB _) (.cells #[.int .i64 dn,.int .i64 k] 171))
  have BX:=h! (Box.new w #[.int .i64 dn,.int .i64 k] 171)
  obtain ⟨bx,aa⟩ : ∃ bx,bx=w.heap.size:=⟨_,rfl⟩
  have e9:(⟨w.heap.size,0,none⟩ : Addr)=⟨bx,0,none⟩:=by rw [aa]
  rw [<-aa] at BX
  simp only [<-aa]
  generalize w.alloc _=w1 at *
  clear aa e9
  obtain ⟨af,ae,ag⟩:=BX.out
  refine wp_region_grow 9 (fun kz=>match kz with | 7=>.holds (fun u w' => ∃ r:Bool,u = .bool r/\(r=true ↔ kJ f dn bn)) | _=>.plain) (by kernel_rfl) (by kernel_rfl) ?_ (fun ν => ?_)
  ·(intro k;(try dsimp only);split <;> first | exact True.intro | (intro u w1 w2 hu hb;exact hu))
  simp only [aO,aS,aP,aU]
  iterate 7 (refine Grow.val (v := ?_) rfl rfl (fun wg hbg hdg => ?_) ?_;rotate_left;(focus ((obtain ⟨lg0,cg0,fg0⟩:=BX.out.later hbg);(obtain ⟨xl1,xc1,xf1⟩:=(HS.out.later (HW.out.trans (hbg.mono HW.out.size))).s);clear hbg hdg;first | (go_simp;done) | (go_simp;with_reducible rfl)));simp only [Act.put,aA,aD,aE])
  refine Grow.call (f := ?_) (args := ?_) rfl (fun wg => ?_) (fun wg hbg hdg => ?_) ?_
  rotate_left 2
  focus (first | (go_simp;done) | (go_simp;refine And.intro ?_ ?_ <;> with_reducible rfl) | (go_simp;with_reducible rfl))
  focus exact ((ai.out wg (HW.out.trans (hbg.mono HW.out.size))).mono (fun e w2 ⟨r,he,hr,hw⟩=>⟨_,he,⟨r,rfl,hr⟩,hw ▸ Below.refl _ _⟩))
  simp only [Act.put,Known.val,aA,aD,aE]
  refine Grow.val (v := ?_) rfl rfl (fun wg hbg hdg => ?_) ?_
  rotate_left
  focus ((obtain ⟨lg0,cg0,fg0⟩:=BX.out.later hbg);(obtain ⟨xl1,xc1,xf1⟩:=(HS.out.later (HW.out.trans (hbg.mono HW.out.size))).s);clear hbg hdg;first | (go_simp;done) | (go_simp;with_reducible rfl))
  simp only [Act.put,aA,aD,aE]
  intro wg hb hf ah
  clear ah
  clear af ae ag
  replace BX:=h! (BX.out.later hb)
  replace HW:=h! (HW.out.trans (hb.mono HW.out.size))
  clear hb
  obtain ⟨af,ae,ag⟩:=BX.out
  simp only [bH,Nat.reduceAdd]
  have hS:∃ r:Bool, ν 7 = .bool r/\(r=true ↔ kJ f dn bn):=hf 7 (by omega)
  obtain ⟨r,ad,ac⟩:=hS
  simp only [ad]
  have HR:Hid (r=true ↔ kT f dn k bn at_):=h! (by
   unfold kT
   rw [ac]
   have:=ab.out
   exact ⟨fun h=>.inr ⟨by omega,by simpa using h⟩,fun h=>h.elim (fun h=>absurd h.1 (by omega)) (fun h=>by simpa using h.2)⟩)
  clear hf ad ac
  go_wp2
  go_ret
  exact ⟨r,rfl,HR.out,HW.out⟩
def tJ (W:World) (v:Value) (x:InstrD):Prop := ∃ u,v = .agg #[.int .i64 x.op,.int .i64 x.id,u,.int .i64 x.n]/\Ints W u x.args
theorem tJ.below {W W' : World} {v:Value} {x:InstrD} (h:tJ W v x) (hb:Below W.heap.size W W'):tJ W' v x:=by
 obtain ⟨u,e,h2⟩:=h
 exact ⟨u,e,h2.below hb⟩
theorem aDH (p q:PhiD):decide (p=q)=((((p.id == q.id) && (p.typ == q.typ)) && decide (p.src=q.src)) && decide (p.vals=q.vals)):=by
 rcases p with ⟨a,b,c,d⟩
 rcases q with ⟨a',b',c',d'⟩
 rw [bV]
 simp [and_assoc]
theorem yI (p q:InstrD):decide (p=q)=((((p.op == q.op) && (p.id == q.id)) && (p.n == q.n)) && decide (p.args=q.args)):=by
 rcases p with ⟨a,b,c,d⟩
 rcases q with ⟨a',b',c',d'⟩
 rw [bV]
 simp only [decide_eq_true_eq,aL,beq_iff_eq,InstrD.mk.injEq]
 constructor
 ·rintro ⟨rfl,rfl,rfl,rfl⟩;simp
 rintro ⟨⟨⟨rfl,rfl⟩,rfl⟩,rfl⟩;simp
theorem aEY {w:World} {v v' : Value} {p q:PhiD} (hp:PhiV w v p) (hq:PhiV w v' q):Calls Tryz.prog 131 #[v,v'] w fun e w'=>e = .returned (.bool (decide (p=q)))/\Below w.heap.size w w':=by
 obtain ⟨s,u,rfl,hs,hu⟩:=hp
 obtain ⟨s',u',rfl,al,ao⟩:=hq
 obtain ⟨sa,sc,rfl⟩:=hs.form
 obtain ⟨ua,uc,rfl⟩:=hu.form
 obtain ⟨ak,an,rfl⟩:=al.form
 obtain ⟨aj,am,rfl⟩:=ao.form
 have HS:=h! (And.intro hs al)
 have HU:=h! (And.intro hu ao)
 obtain ⟨r,hr⟩ : ∃ r,r=decide (p=q):=⟨_,rfl⟩
 rw [<-hr]
 rw [aDH] at hr
 have HR:=h! hr
 clear hs hu al ao hr
 go_enter Tryz.func131,Tryz.ntmps131
 go_upto_region 1 with (fail)
 have aa:=(Below.refl w.heap.size w).alloc (aB _) (.cells #[.int .i64 p.id,.int .i64 p.typ,.slice sa p.src.length sc,.slice ua p.vals.length uc] 78)
 have HW:=h! aa
 clear aa
 have B1:=h! (Box.new w #[.int .i64 p.id,.int .i64 p.typ,.slice sa p.src.length sc,.slice ua p.vals.length uc] 78)
 have ab:(w.alloc (.cells #[.int .i64 p.id,.int .i64 p.typ,.slice sa p.src.length sc,.slice ua p.vals.length uc] 78)).heap.size=w.heap.size+1:=World.size_alloc _ _
 generalize w.alloc (.cells #[.int .i64 p.id,.int .i64 p.typ,.slice sa p.src.length sc,.slice ua p.vals.length uc] 78)=ae at *
 have aa:=(Below.refl ae.heap.size ae).alloc (aB _) (.cells #[.int .i64 q.id,.int .i64 q.typ,.slice ak q.src.length an,.slice aj q.vals.length am] 78)
 replace B1:=h! (B1.out.later aa)
 replace HW:=h! (HW.out.trans (aa.mono HW.out.size))
 clear aa
 have B2:=h! (Box.new ae #[.int .i64 q.id,.int .i64 q.typ,.slice ak q.src.length an,.slice aj q.vals.length am] 78)
 rw [ab] at B2
 clear ab
 generalize ae.alloc (.cells #[.int .i64 q.id,.int .i64 q.typ,.slice ak q.src.length an,.slice aj q.vals.length am] 78)=wv at *
 obtain ⟨ai,ag,ah⟩:=B1.out
 obtain ⟨ac,ad,af⟩:=B2.out
 cases h1:(p.id == q.id)
 ·rw [h1,bG,bG,bG] at HR
  go_wp2
  go_ret
  exact ⟨by rw [HR.out];rfl,HW.out⟩
 rw [h1,bN] at HR
 cases h2:(p.typ == q.typ)
 ·rw [h2,bG,bG] at HR
  go_wp2
  go_ret
  exact ⟨by rw [HR.out];rfl,HW.out⟩
 rw [h2,bN] at HR
 go_wp2_with fail
 refine (qH (HS.out.1.below HW.out) (HS.out.2.below HW.out)).mono ?_
 rintro e w2 ⟨rfl,hb⟩
 clear ai ag ah ac ad af
 replace B1:=h! (B1.out.later hb)
 replace B2:=h! (B2.out.later hb)
 replace HW:=h! (HW.out.trans (hb.mono HW.out.size))
 clear hb
 obtain ⟨ai,ag,ah⟩:=B1.out
 obtain ⟨ac,ad,af⟩:=B2.out
 cases h3:decide (p.src=q.src)
 ·rw [h3,bG] at HR
  go_wp2
  go_ret
  exact ⟨by rw [HR.out];rfl,HW.out⟩
 rw [h3,bN] at HR
 go_wp2_with fail
 refine (qH (HU.out.1.below HW.out) (HU.out.2.below HW.out)).mono ?_
 rintro e w3 ⟨rfl,hb⟩
 clear ai ag ah ac ad af
 replace B1:=h! (B1.out.later hb)
 replace B2:=h! (B2.out.later hb)
 replace HW:=h! (HW.out.trans (hb.mono HW.out.size))
 clear hb
 obtain ⟨ai,ag,ah⟩:=B1.out
 obtain ⟨ac,ad,af⟩:=B2.out
 go_wp2
 go_ret
 exact ⟨by rw [HR.out];rfl,HW.out⟩
theorem aBK {w:World} {v v' : Value} {p q:InstrD} (hp:tJ w v p) (hq:tJ w v' q):Calls Tryz.prog 133 #[v,v'] w fun e w'=>e = .returned (.bool (decide (p=q)))/\Below w.heap.size w w':=by
 obtain ⟨u,rfl,hu⟩:=hp
 obtain ⟨u',rfl,af⟩:=hq
 obtain ⟨ua,uc,rfl⟩:=hu.form
 obtain ⟨ad,ae,rfl⟩:=af.form
 have HU:=h! (And.intro hu af)
 obtain ⟨r,hr⟩ : ∃ r,r=decide (p=q):=⟨_,rfl⟩
 rw [<-hr]
 rw [yI] at hr
 have HR:=h! hr
 clear hu af hr
 go_enter Tryz.func133,Tryz.ntmps133
 go_upto_region 1 with (fail)
 have aa:=(Below.refl w.heap.size w).alloc (aB _) (.cells #[.int .i64 p.op,.int .i64 p.id,.slice ua p.args.length uc,.int .i64 p.n] 82)
 have HW:=h! aa
 clear aa
 have B1:=h! (Box.new w #[.int .i64 p.op,.int .i64 p.id,.slice ua p.args.length uc,.int .i64 p.n] 82)
 have ab:(w.alloc (.cells #[.int .i64 p.op,.int .i64 p.id,.slice ua p.args.length uc,.int .i64 p.n] 82)).heap.size=w.heap.size+1:=World.size_alloc _ _
 generalize w.alloc (.cells #[.int .i64 p.op,.int .i64 p.id,.slice ua p.args.length uc,.int .i64 p.n] 82)=ac at *
 have aa:=(Below.refl ac.heap.size ac).alloc (aB _) (.cells #[.int .i64 q.op,.int .i64 q.id,.slice ad q.args.length ae,.int .i64 q.n] 82)
 replace B1:=h! (B1.out.later aa)
 replace HW:=h! (HW.out.trans (aa.mono HW.out.size))
 clear aa
 have B2:=h! (Box.new ac #[.int .i64 q.op,.int .i64 q.id,.slice ad q.args.length ae,.int .i64 q.n] 82)
 rw [ab] at B2
 clear ab
 generalize ac.alloc (.cells #[.int .i64 q.op,.int .i64 q.id,.slice ad q.args.length ae,.int .i64 q.n] 82)=wv at *
 obtain ⟨al,aj,ak⟩:=B1.out
 obtain ⟨ag,ah,ai⟩:=B2.out
 cases h1:(p.op == q.op)
 ·rw [h1,bG,bG,bG] at HR
  go_wp2
  go_ret
  exact ⟨by rw [HR.out];rfl,HW.out⟩
 rw [h1,bN] at HR
 cases h2:(p.id == q.id)
 ·rw [h2,bG,bG] at HR
  go_wp2
  go_ret
  exact ⟨by rw [HR.out];rfl,HW.out⟩
 rw [h2,bN] at HR
 cases h3:(p.n == q.n)
 ·rw [h3,bG] at HR
  go_wp2
  go_ret
  exact ⟨by rw [HR.out];rfl,HW.out⟩
 rw [h3,bN] at HR
 go_wp2_with fail
 refine (qH (HU.out.1.below HW.out) (HU.out.2.below HW.out)).mono ?_
 rintro e w3 ⟨rfl,hb⟩
 clear al aj ak ag ah ai
 replace B1:=h! (B1.out.later hb)
 replace B2:=h! (B2.out.later hb)
 replace HW:=h! (HW.out.trans (hb.mono HW.out.size))
 clear hb
 obtain ⟨al,aj,ak⟩:=B1.out
 obtain ⟨ag,ah,ai⟩:=B2.out
 go_wp2
 go_ret
 exact ⟨by rw [HR.out];rfl,HW.out⟩
end Go.Proofs.YtagabiidbbhhmaaGreat
