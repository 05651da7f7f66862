/- Part 38. -/
import Derived.Test.YtgmhnepmkaonaaaGreatPE26
import Derived.OwnWalk
import Derived.Test.YtgmhnepmkaonaaaGreatPE27
namespace Go.Proofs.YtgmhnepmkaonaaaGreat
set_option maxHeartbeats 12800000
set_option linter.all false
section
open Go.RowKit
def jP (f:FuncD) (a b:Nat):Prop:=Way (toB f) (-1) a/\Way (toB f) (-1) b /\ ¬ Way (toB f) (a:Int) b
def aH0 (f:FuncD) (v:Value) (w:World) (e:Ending) (w' : World):Prop :=
 Below w.heap.size w w' /\ ((d7 f ≠ 0/\e = .returned (.tuple #[.pointer none,.int .i64 (d7 f)])) \/
  (d7 f=0 /\ ∃ (bt bg lg lcap:Nat) (g:Array Value) (pv ov lv:Value) (O:List Nat) (I:Nat -> Option Nat),e = .returned (.tuple #[.pointer (some ⟨bt,0,none⟩),.int .i64 0])/\v = .agg g/\gV f O/\TreeM f w' bt bg lg lcap g pv ov lv O I/\DomI f O I))
theorem aGC {w:World} {v:Value} {f:FuncD} (hv:gG w v f):Calls Tryz.prog 95 #[v] w (aH0 f v w):=by
 have HV:=h! hv
 obtain ⟨ap,cp,ab,cb,rfl,hp,ha,hc,hB⟩:=hv.form
 clear hp ha hc hB hv
 go_enter Tryz.func95,Tryz.ntmps95
 go_upto_region 1 with (fail)
 have hA_:=(Below.refl w.heap.size w).alloc (aB _) (.cells #[.slice ap f.params.length cp,.int .i64 f.arrays,.int .i64 f.cells,.slice ab f.blocks.length cb] 25)
 have HW:=h! hA_
 clear hA_
 have B1:=h! (Box.new w #[.slice ap f.params.length cp,.int .i64 f.arrays,.int .i64 f.cells,.slice ab f.blocks.length cb] 25)
 generalize w.alloc (.cells #[.slice ap f.params.length cp,.int .i64 f.arrays,.int .i64 f.cells,.slice ab f.blocks.length cb] 25)=wv at *
 obtain ⟨lB1,cB1,fB1⟩:=B1.out
 go_wp2_with fail
 refine (aCG (HV.out.below HW.out)).mono ?_
 rintro e w2 ⟨hb,⟨hc0,rfl⟩ | ⟨hc0,bg,O,rfl,hO,hG⟩⟩
 ·have hc1:(d7 f != 0)=true:=by simpa using hc0
  have HC0:=h! hc0
  clear hc0
  clear lB1 cB1 fB1
  replace B1:=h! (B1.out.later hb)
  replace HW:=h! (HW.out.trans (hb.mono HW.out.size))
  clear hb
  obtain ⟨lB1,cB1,fB1⟩:=B1.out
  go_wp2
  go_ret2
  exact ⟨HW.out,.inl ⟨HC0.out,rfl⟩⟩
 have HC0:=h! hc0
 have HO:=h! hO
 have HG:=h! hG
 clear hc0 hO hG
 clear lB1 cB1 fB1
 replace B1:=h! (B1.out.later hb)
 replace HW:=h! (HW.out.trans (hb.mono HW.out.size))
 clear hb
 obtain ⟨lB1,cB1,fB1⟩:=B1.out
 go_wp2_with fail
 refine (aG3 (HV.out.below HW.out) HG.out HO.out (eX HC0.out).1).mono ?_
 rintro e w3 ⟨bt,lg,lcap,g,pv,ov,lv,I,rfl,hvg,hT,hD,hb⟩
 have HT:=h! hT
 have HD:=h! hD
 have HVG:=h! hvg
 clear hT hD hvg
 clear lB1 cB1 fB1
 replace B1:=h! (B1.out.later hb)
 replace HW:=h! (HW.out.trans (hb.mono HW.out.size))
 clear hb
 obtain ⟨lB1,cB1,fB1⟩:=B1.out
 go_wp2
 go_ret2
 exact ⟨HW.out,.inr ⟨HC0.out,bt,bg,lg,lcap,g,pv,ov,lv,O,I,rfl,HVG.out,HO.out,HT.out,HD.out⟩⟩
theorem vJ {W:World} {f:FuncD} {bt bg lg lcap:Nat} {g:Array Value} {pv ov lv:Value} {O:List Nat} {I:Nat -> Option Nat} (hT:TreeM f W bt bg lg lcap g pv ov lv O I) (hO:gV f O) (hI:DomI f O I) (h512:f.blocks.length <= 512)
  {a b:Nat} (ha:a < f.blocks.length) (hb:b < f.blocks.length) :
  Calls Tryz.prog 76 #[.pointer (some ⟨bt,0,none⟩),.int .i64 a,.int .i64 b] W fun e w' => ∃ r:Bool,e = .returned (.bool r)/\(r=true ↔ jP f a b)/\W=w':=by
 obtain ⟨hc0,hc1, -, -,hc6⟩:=hT.cells
 obtain ⟨pa,pc,pb,po,hpe,hpc,hpm,hpa,hpx⟩:=hT.place.parts
 rw [fT] at hpe hpc hpa
 subst hpe
 obtain ⟨lc2, -, -, -,hil,hif⟩:=hT.idom.form
 obtain ⟨h1,h2,h3,h4,h5⟩:=hO.facts
 obtain ⟨nb,hnb⟩ : ∃ nb,nb=f.blocks.length:=⟨_,rfl⟩
 have hda:=hpx a (by rw [fT];exact ha)
 have hdb:=hpx b (by rw [fT];exact hb)
 rw [aH,lE ha,dI] at hda
 rw [aH,lE hb,dI] at hdb
 rw [<-hnb] at hc1 hpc hpa hil h512 h3 hc6 ha hb
 obtain ⟨rfl,hpb⟩:=hpa (by omega)
 have HIL:=h! hil
 have HTR:=h! hI.tree
 have HPR:=h! (fun (v:Nat) (h:Way (toB f) (-1) v)=>hI.proc h)
 have HAN:=h! (fun (c v:Nat) (h:Way (toB f) (-1) v)=>hI.anc (c:=c) h)
 have HO2:=h! h2
 have HO3:=h! h3
 clear hT hpx hil hif h1 h3 h4 h5 hI hO hnb hpa
 by_cases haO:a ∈ O
 ·rw [if_pos haO] at hda
  have hna:decide (((O.idxOf a:Nat):Int) < 0)=false:=by simp
  by_cases hbO:b ∈ O
  ·rw [if_pos hbO] at hdb
   have hnb:decide (((O.idxOf b:Nat):Int) < 0)=false:=by simp
   have HAW:=h! ((h2 a).1 haO)
   have HBW:=h! ((h2 b).1 hbO)
   clear h2 haO hbO
   go_enter Tryz.func76,Tryz.ntmps76
   go_wp2_with fail
   clear hda hdb hna hnb
   go_loopw [2] (fun u wr => ∃ b' : Nat,u = .int .i64 b' /\ Way (toB f) (-1) b' /\ (Anc I a b' ↔ Anc I a b)/\W=wr) (fun u _=>O.idxOf (intOf u).toNat)
   case atStart=>exact ⟨b,rfl,HBW.out,Iff.rfl,rfl⟩
   obtain ⟨c,rfl,hcw,hci,rfl⟩:=hrel
   have HCW:=h! hcw
   have HCI:=h! hci
   have hcl:=HO3.out c ((HO2.out c).2 hcw)
   clear hcw hci
   by_cases hca:c=a
   ·have hq:((c:Int) != (a:Int))=false:=by simp [hca]
    have hq2:((a:Int) == (c:Int))=true:=by simp [hca]
    have HR:Hid (jP f a b):=h! ⟨HAW.out,HBW.out,(HAN.out a b HBW.out).1 (HCI.out.1 (by rw [hca];exact .refl))⟩
    have HQ2:=h! hq2
    clear hca hq2
    go_wp2
    go_ret
    refine ⟨_,rfl, ?_, ?_⟩
    ·first | exact ⟨fun _=>HR.out,fun _=>HQ2.out⟩ | simp [HR.out]
    first | rfl | trivial
   have hq:((c:Int) != (a:Int))=true:=by simp;omega
   by_cases hc00:c=0
   ·have hq2:((a:Int) == (c:Int))=false:=by simp;omega
    have HQ2:=h! hq2
    clear hq2
    have HR:Hid (¬ jP f a b):=h! (fun h=>by
     have h9:=HCI.out.2 ((HAN.out a b HBW.out).2 h.2.2)
     rw [hc00] at h9
     exact hca (by rw [hc00,HTR.out.anc_zero h9]))
    have hcn:¬ 0 < c:=by omega
    clear hca hc00
    go_wp2
    go_ret
    refine ⟨_,rfl, ?_, ?_⟩
    ·first | exact ⟨fun h=>absurd (HQ2.out.symm.trans h) (by simp),fun h=>absurd h HR.out⟩ | simp [HR.out]
    first | rfl | trivial
   have hgt:0 < c:=by omega
   obtain ⟨p,hp⟩:=eP.1 ((HPR.out c HCW.out).resolve_left hc00)
   obtain ⟨p1,p2,p3,p4⟩:=HTR.out.par hp
   have dp:=HIL.out c p (lD hcl hp)
   have HP2:=h! p2
   have HP3:=h! p3
   have HAP:Hid (Anc I a p ↔ Anc I a b):=h! (by
    rw [<-HCI.out]
    constructor
    ·exact fun h=>.up hp h
    intro h
    rcases h.parts with e | ⟨q,e,h⟩
    ·exact absurd e.symm hca
    rw [hp] at e;cases e;exact h)
   clear hca hc00 hp p1 p2 p3 p4
   go_wp2
   go_roundw
   case rel=>exact ⟨p,rfl,HP2.out,HAP.out,by first | rfl | trivial⟩
   have h9:=HP3.out
   simp only [intOf,cH] at h9 ⊢
   exact h9
  rw [if_neg hbO] at hdb
  have HN:Hid (¬ jP f a b):=h! (fun h=>hbO ((h2 b).2 h.2.1))
  clear h2 haO hbO
  go_enter Tryz.func76,Tryz.ntmps76
  go_wp2
  go_ret
  exact ⟨false,rfl,by simpa using HN.out,rfl⟩
 ·rw [if_neg haO] at hda
  have HN:Hid (¬ jP f a b):=h! (fun h=>haO ((h2 a).2 h.1))
  clear h2 haO
  go_enter Tryz.func76,Tryz.ntmps76
  go_wp2
  go_ret
  exact ⟨false,rfl,by simpa using HN.out,rfl⟩
theorem DomI.low {f:FuncD} {O:List Nat} {I:Nat -> Option Nat} (hO:gV f O) (h:DomI f O I) {b p:Nat} (hp:I b=some p):p < f.blocks.length:=by
 obtain ⟨h1,h2,h3,h4,h5⟩:=hO.facts
 exact h3 p ((h2 p).2 (h.tree.par hp).2.1)
end
section
open Go.RowKit
end
section
open Go.RowKit
theorem DomI.over {f:FuncD} {O:List Nat} {I:Nat -> Option Nat} (h:DomI f O I) {c v:Nat} (hv:Way (toB f) (-1) v):Anc I c v ↔ jP f c v :=
 ⟨fun ha=>⟨h.tree.proc_way (h.tree.procs ha (h.proc hv)),hv,(h.anc hv).1 ha⟩,fun ho=>(h.anc hv).2 ho.2.2⟩
end
open Go.RowKit
private theorem iY.alloc {w0 W:World} (h:iY w0 W) (o:Obj):iY w0 (W.alloc o):=h.later ((Below.refl _ _).alloc (aB _) o)
theorem rH:entF jB=[(0,0,0)]:=by decide
def PhiV (W:World) (v:Value) (p:PhiD):Prop := ∃ s u,v = .agg #[.int .i64 p.id,.int .i64 p.typ,s,u]/\Ints W s p.src/\Ints W u p.vals
theorem PhiV.below {W W' : World} {v:Value} {p:PhiD} (h:PhiV W v p) (hb:Below W.heap.size W W'):PhiV W' v p:=by
 obtain ⟨s,u,e,h1,h2⟩:=h
 exact ⟨s,u,e,h1.below hb,h2.below hb⟩
theorem aGD {w:World} {v:Value} {ps:List PhiD} {k:FuncId} {cap:Array Value} (eg:Enters Tryz.prog k) (g:PhiD -> Bool) (hv:eW PhiR 4 w v ps)
  (hstep:∀ (W:World) (p:PhiD) (pv:Value),p ∈ ps -> PhiV W pv p -> Below w.heap.size w W -> Calls Tryz.prog k (#[pv] ++ cap) W fun e W'=>e = .returned (.bool (g p))/\Below W.heap.size W W') :
  Calls Tryz.prog 170 #[v,.func (.func k) #[] cap] w fun e w' => ∃ r:Int,e = .returned (.int .i64 r)/\decide (0 <= r)=ps.any g/\Below w.heap.size w w':=by
 obtain ⟨a1,c1,b1,o1,rfl,hc1,hm1,hl1,ha1,hx⟩:=f9 hv
 obtain ⟨n1,hn1⟩ : ∃ n,n=ps.length:=⟨_,rfl⟩
 rw [<-hn1] at hc1 hl1 ha1 ⊢
 have G1:=h! hn1
 have HA1:=h! ha1
 have HX:=h! hx
 have HW:=h! (Below.refl w.heap.size w)
 have HST:=h! hstep
 clear hv hn1 ha1 hx hstep
 have eg1:∀ (args:Array Value) (w:World),(callFunc k args).run Tryz.prog w = .ok (.enter k args) w:=eg
 go_enter Tryz.func170,Tryz.ntmps170
 go_wp2_with fail
 go_loopw [8] (fun i wr => ∃ j:Nat,j <= n1/\i = .int .i64 j/\(ps.take j).any g=false/\Below w.heap.size w wr) (fun i _=>n1 - (intOf i).toNat)
 case atStart=>exact ⟨0,aO _,rfl,rfl,HW.out⟩
 case round =>
  obtain ⟨j,hj,rfl,hs,hW⟩:=hrel
  have HS:=h! hs
  replace HW:=h! hW
  clear hs hW
  generalize wr=w3 at *
  by_cases hlt:j < n1
  ·obtain ⟨rfl,hb1⟩:=HA1.out (by omega)
   obtain ⟨p,hxm⟩ : ∃ p,ps[j]? = some p:=⟨_,aC (by have:=G1.out;omega)⟩
   obtain ⟨af,av,cf,cv,hP⟩:=HX.out j p hxm
   obtain ⟨m0,m1,m2,m3,r1,r2,r3,r4⟩:=hP.below HW.out hb1
   have HXM:=h! (aG hxm)
   have HTK:=h! (eU ps j p hxm)
   obtain ⟨c,hc⟩ : ∃ c,c=g p:=⟨_,rfl⟩
   have HC:=h! hc
   have HCT:=h! (HST.out w3 p (.agg #[.int .i64 p.id,.int .i64 p.typ,.slice af p.src.length cf,.slice av p.vals.length cv]) HXM.out ⟨_,_,rfl,r1,r2⟩ HW.out)
   rw [<-hc] at HCT
   clear hc hxm hP r1 r2 r3 r4
   cases c
   ·go_wp2_with (go_at_fn k;refine HCT.out.mono ?_;rintro e w4 ⟨rfl,hb4⟩;have HB4:=h! hb4;clear hb4)
    have HW4:=h! (HW.out.trans (HB4.out.mono HW.out.size))
    have HS2:Hid ((ps.take (j+1)).any g=false):=h! (by rw [HTK.out,List.any_append,HS.out];simp [<-HC.out])
    go_roundw
    case rel=>exact ⟨j+1,hlt,by go_num,HS2.out,HW4.out⟩
    simp [intOf];omega
   go_wp2_with (go_at_fn k;refine HCT.out.mono ?_;rintro e w4 ⟨rfl,hb4⟩;have HB4:=h! hb4;clear hb4)
   have HW4:=h! (HW.out.trans (HB4.out.mono HW.out.size))
   have HAN:Hid (ps.any g=true):=h! (by rw [eO];exact ⟨p,HXM.out,HC.out.symm⟩)
   go_ret
   exact ⟨j,rfl,by rw [HAN.out];simp,HW4.out⟩
  have HAN:Hid (ps.any g=false):=h! (by have h9:=HS.out;rw [aJ (by have:=G1.out;omega)] at h9;exact h9)
  go_wp2
  go_ret
  exact ⟨-1,rfl,by rw [HAN.out];simp,HW.out⟩
theorem aDU {w:World} {v:Value} {ps:List PhiD} {k:FuncId} {cap:Array Value} (eg:Enters Tryz.prog k) (g:PhiD -> Bool) (hv:eW PhiR 4 w v ps)
  (hstep:∀ (W:World) (p:PhiD) (pv:Value),p ∈ ps -> PhiV W pv p -> Below w.heap.size w W -> Calls Tryz.prog k (#[pv] ++ cap) W fun e W'=>e = .returned (.bool (g p))/\Below W.heap.size W W') :
  Calls Tryz.prog 136 #[v,.func (.func k) #[] cap] w fun e w'=>e = .returned (.bool (ps.any g))/\Below w.heap.size w w':=by
 have HC:=h! (aGD eg g hv hstep)
 clear hv hstep
 go_enter Tryz.func136,Tryz.ntmps136
 go_wp2_with fail
 refine HC.out.mono ?_
 rintro e w2 ⟨r,rfl,hr,hb⟩
 have HR:=h! hr
 have HB:=h! hb
 clear hr hb
 go_wp2
 go_ret
 exact ⟨f5 HR.out,HB.out⟩
structure StrM (f:FuncD) (W:World) (bs bt bg lg lcap bm:Nat) (g:Array Value) (pv ov lv A2:Value) (O:List Nat) (I:Nat -> Option Nat):Prop where
 s:Box W bs #[.pointer (some ⟨bt,0,none⟩),A2,.map (some bm)]
 t:TreeM f W bt bg lg lcap g pv ov lv O I
 mp:IMap W bm (defM (entF f))
theorem StrM.later {f:FuncD} {W W' : World} {bs bt bg lg lcap bm:Nat} {g:Array Value} {pv ov lv A2:Value} {O:List Nat} {I:Nat -> Option Nat} (h:StrM f W bs bt bg lg lcap bm g pv ov lv A2 O I) (hb:Below W.heap.size W W'):StrM f W' bs bt bg lg lcap bm g pv ov lv A2 O I :=
 ⟨h.s.later hb,h.t.later hb,h.mp.later hb⟩
theorem StrM.alloc {f:FuncD} {W:World} {bs bt bg lg lcap bm:Nat} {g:Array Value} {pv ov lv A2:Value} {O:List Nat} {I:Nat -> Option Nat} (h:StrM f W bs bt bg lg lcap bm g pv ov lv A2 O I) (o:Obj):StrM f (W.alloc o) bs bt bg lg lcap bm g pv ov lv A2 O I:=h.later ((Below.refl _ _).alloc (aB _) o)
def kK (f:FuncD) (d k b at_:Int):Prop:=(d=b/\k < at_) \/ (d ≠ b/\jP f d.toNat b.toNat)
set_option maxRecDepth 100000 in
theorem ahead {f:FuncD} {w:World} {bs bt bg lg lcap bm:Nat} {g:Array Value} {pv ov lv A2:Value} {O:List Nat} {I:Nat -> Option Nat} (hS:StrM f w bs bt bg lg lcap bm g pv ov lv A2 O I) (hO:gV f O) (hD:DomI f O I) (hc:d7 f=0)
  {id d k b at_:Int} (he:((entF f).find? fun e=>e.1 == id)=some (id,d,k)) (hd:0 <= d/\d < (f.blocks.length:Int)) (hb:0 <= b/\b < (f.blocks.length:Int)) :
  Calls Tryz.prog 141 #[.pointer (some ⟨bs,0,none⟩),.int .i64 id,.int .i64 b,.int .i64 at_] w fun e w' => ∃ r:Bool,e = .returned (.bool r)/\(r=true ↔ kK f d k b at_)/\Below w.heap.size w w':=by
 have HI:=h! hS.mp
 have HG:Hid (mget (defM (entF f)) id=some (.agg #[.int .i64 d,.int .i64 k])):=h! (by rw [aAY hc,he];rfl)
 obtain ⟨dn,rfl⟩ : ∃ dn:Nat,d=(dn:Int):=⟨d.toNat,by omega⟩
 obtain ⟨bn,rfl⟩ : ∃ bn:Nat,b=(bn:Int):=⟨b.toNat,by omega⟩
 have HOV:=h! (fun (W:World) (hW:Below w.heap.size w W)=>vJ (a:=dn) (b:=bn) (hS.t.later hW) hO hD (gU (eX hc).1).2 (by omega) (by omega))
 have HS:=h! hS
 obtain ⟨l1,c1,f1⟩:=hS.s
 clear hS hO hD hc he hd hb
 by_cases hdb:dn=bn
 ·have hq:((dn:Int) == (bn:Int))=true:=by simp [hdb]
  have HDB:=h! hdb
  clear hdb
  go_enter Tryz.func141,Tryz.ntmps141
  go_wp2_with (at_lookup;refine d9 (q:=.i64) (z:=.agg #[.int .i64 0,.int .i64 0]) (b:=bm) (mm:=defM (entF f)) (y:=id) rfl _ _ _ rfl Tryz.underlying99 Tryz.underlying3 (tY _) rfl HI.out rfl ?_;rw [HG.out];simp only [dI])
  have HW:=h! ((Below.refl w.heap.size w).alloc (aB _) (.cells #[.int .i64 dn,.int .i64 k] 196))
  go_ret
  exact ⟨decide (k < at_),rfl,by rw [decide_eq_true_iff];unfold kK;have:=HDB.out;constructor;exact fun h=>.inl ⟨by omega,h⟩;exact fun h=>h.elim (fun h=>h.2) (fun h=>absurd (by omega) h.1),HW.out⟩
 ·have hq:((dn:Int) == (bn:Int))=false:=by simp;omega
  have HDB:=h! hdb
  clear hdb
  go_enter Tryz.func141,Tryz.ntmps141
  go_upto_region 4 with (at_lookup;refine d9 (q:=.i64) (z:=.agg #[.int .i64 0,.int .i64 0]) (b:=bm) (mm:=defM (entF f)) (y:=id) rfl _ _ _ rfl Tryz.underlying99 Tryz.underlying3 (tY _) rfl HI.out rfl ?_;rw [HG.out];simp only [dI])
  clear l1 c1 f1
  have HW:=h! ((Below.refl w.heap.size w).alloc (aB _) (.cells #[.int .i64 dn,.int .i64 k] 196))
  have BX:=h! (Box.new w #[.int .i64 dn,.int .i64 k] 196)
  obtain ⟨bx,hbx⟩ : ∃ bx,bx=w.heap.size:=⟨_,rfl⟩
  have e9:(⟨w.heap.size,0,none⟩ : Addr)=⟨bx,0,none⟩:=by rw [hbx]
  rw [<-hbx] at BX
  simp only [<-hbx]
  generalize w.alloc _=w1 at *
  clear hbx e9
  obtain ⟨lBX,cBX,fBX⟩:=BX.out
  refine wp_region_grow 9 (fun kz=>match kz with | 7=>.holds (fun u w' => ∃ r:Bool,u = .bool r/\(r=true ↔ jP f dn bn)) | _=>.plain) (by kernel_rfl) (by kernel_rfl) ?_ (fun ν => ?_)
  ·(intro k;(try dsimp only);split <;> first | exact True.intro | (intro u w1 w2 hu hb;exact hu))
  simp only [aQ,aV,aR,aY]
  iterate 7 (refine Grow.val (v := ?_) rfl rfl (fun wg hbg hdg => ?_) ?_;rotate_left;(focus ((obtain ⟨lg0,cg0,fg0⟩:=BX.out.later hbg);(obtain ⟨xl1,xc1,xf1⟩:=(HS.out.later (HW.out.trans (hbg.mono HW.out.size))).s);clear hbg hdg;first | (go_simp;done) | (go_simp;with_reducible rfl)));simp only [Act.put,aA,aE,aF])
  refine Grow.call (f := ?_) (args := ?_) rfl (fun wg => ?_) (fun wg hbg hdg => ?_) ?_
  rotate_left 2
  focus (first | (go_simp;done) | (go_simp;refine And.intro ?_ ?_ <;> with_reducible rfl) | (go_simp;with_reducible rfl))
  focus exact ((HOV.out wg (HW.out.trans (hbg.mono HW.out.size))).mono (fun e w2 ⟨r,he,hr,hw⟩=>⟨_,he,⟨r,rfl,hr⟩,hw ▸ Below.refl _ _⟩))
  simp only [Act.put,Known.val,aA,aE,aF]
  refine Grow.val (v := ?_) rfl rfl (fun wg hbg hdg => ?_) ?_
  rotate_left
  focus ((obtain ⟨lg0,cg0,fg0⟩:=BX.out.later hbg);(obtain ⟨xl1,xc1,xf1⟩:=(HS.out.later (HW.out.trans (hbg.mono HW.out.size))).s);clear hbg hdg;first | (go_simp;done) | (go_simp;with_reducible rfl))
  simp only [Act.put,aA,aE,aF]
  intro wg hb hf hap
  clear hap
  clear lBX cBX fBX
  replace BX:=h! (BX.out.later hb)
  replace HW:=h! (HW.out.trans (hb.mono HW.out.size))
  clear hb
  obtain ⟨lBX,cBX,fBX⟩:=BX.out
  simp only [bG,Nat.reduceAdd]
  have hS:∃ r:Bool, ν 7 = .bool r/\(r=true ↔ jP f dn bn):=hf 7 (by omega)
  obtain ⟨r,hr1,hr2⟩:=hS
  simp only [hr1]
  have HR:Hid (r=true ↔ kK f dn k bn at_):=h! (by
   unfold kK
   rw [hr2]
   have:=HDB.out
   exact ⟨fun h=>.inr ⟨by omega,by simpa using h⟩,fun h=>h.elim (fun h=>absurd h.1 (by omega)) (fun h=>by simpa using h.2)⟩)
  clear hf hr1 hr2
  go_wp2
  go_ret
  exact ⟨r,rfl,HR.out,HW.out⟩
def fN (xs:List Int) (p:PhiD):Bool:=decide (p.src.length=xs.length) && xs.all fun t=>p.src.contains t
set_option maxRecDepth 100000 in
theorem aGE {w:World} {pv A1 A2 A3 A4 A5 u:Value} {ps:List PhiD} {xs:List Int} (hp:eW PhiR 4 w pv ps) (hu:Ints w u xs) :
  Calls Tryz.prog 69 #[.agg #[pv,A1,A2,A3,A4,A5],u] w fun e w'=>e = .returned (.bool (ps.all (fN xs)))/\Below w.heap.size w w':=by
 obtain ⟨a1,c1,b1,o1,rfl,hc1,hm1,hl1,ha1,hx⟩:=f9 hp
 have hul16:=hu.le
 obtain ⟨ua,uc,ub,uo,rfl,huc,hum,hua,hux⟩:=hu.parts
 obtain ⟨pl,hpl⟩ : ∃ n,n=ps.length:=⟨_,rfl⟩
 obtain ⟨ul,hul⟩ : ∃ n,n=xs.length:=⟨_,rfl⟩
 rw [<-hpl] at hc1 hl1 ha1 ⊢
 rw [<-hul] at huc hua hux hul16 ⊢
 have HPL:=h! hpl
 have HUL:=h! hul
 have HA1:=h! ha1
 have HX:=h! hx
 have HUA:=h! hua
 have HUX:=h! hux
 clear hp hu hpl hul ha1 hx hua hux
 go_enter Tryz.func69,Tryz.ntmps69
 go_upto_region 1 with (fail)
 have hA_:=(Below.refl w.heap.size w).alloc (aB _) (.cells #[.slice a1 pl c1,A1,A2,A3,A4,A5] 75)
 have HW:=h! hA_
 clear hA_
 have B1:=h! (Box.new w #[.slice a1 pl c1,A1,A2,A3,A4,A5] 75)
 generalize w.alloc (.cells #[.slice a1 pl c1,A1,A2,A3,A4,A5] 75)=wv at *
 obtain ⟨lB1,cB1,fB1⟩:=B1.out
 go_wp2_with fail
 go_loopw [5] (fun i wr => ∃ j:Nat,j <= pl/\i = .int .i64 j/\(ps.take j).all (fN xs)=true/\Below w.heap.size w wr/\Box wr w.heap.size #[.slice a1 pl c1,A1,A2,A3,A4,A5]) (fun i _=>pl - (intOf i).toNat)
 case atStart=>exact ⟨0,aO _,rfl,rfl,HW.out,B1.out⟩
 case round =>
  obtain ⟨j,hj,rfl,hs,hW,h1⟩:=hrel
  clear lB1 cB1 fB1
  have HS:=h! hs
  replace HW:=h! hW
  replace B1:=h! h1
  clear hs hW h1
  generalize wr=w3 at *
  obtain ⟨lB1,cB1,fB1⟩:=B1.out
  by_cases hlt:j < pl
  ·obtain ⟨rfl,hb1⟩:=HA1.out (by omega)
   obtain ⟨p,hxm⟩ : ∃ p,ps[j]? = some p:=⟨_,aC (by have:=HPL.out;omega)⟩
   obtain ⟨af,av,cf,cv,hP⟩:=HX.out j p hxm
   obtain ⟨m0,m1,m2,m3,r1,r2,r3,r4⟩:=hP.below HW.out hb1
   have HXM:=h! (aG hxm)
   have HTK:=h! (eU ps j p hxm)
   have HC2:=h! hP.c2
   have HSRC:=h! hP.src
   obtain ⟨sl,hsl⟩ : ∃ sl,sl=p.src.length:=⟨_,rfl⟩
   rw [<-hsl] at HC2 HSRC m2
   have HSL:=h! hsl
   have hsl16:sl <= 17592186044416:=by rw [hsl];exact hP.src.le
   clear hxm hP r1 r2 r3 r4 m0 m1 m3 hsl
   by_cases hlen:sl=ul
   ·have hq:((sl:Int) != (ul:Int))=false:=by simp [hlen]
    have HLEN:Hid (p.src.length=xs.length):=h! (by rw [<-HSL.out, <-HUL.out];exact hlen)
    clear hlen
    go_wp2_with fail
    clear m2
    go_loopw [6] (fun i wr => ∃ t:Nat,t <= ul/\i = .int .i64 t/\((xs.take t).all fun t=>p.src.contains t)=true/\Below w.heap.size w wr/\Box wr w.heap.size #[.slice (some ⟨b1,o1,none⟩) pl c1,A1,A2,A3,A4,A5]) (fun i _=>ul - (intOf i).toNat)
    case atStart=>exact ⟨0,aO _,rfl,rfl,HW.out,B1.out⟩
    obtain ⟨t,ht,rfl,hs,hW,h1⟩:=hrel
    clear lB1 cB1 fB1
    have HS2:=h! hs
    replace HW:=h! hW
    replace B1:=h! h1
    clear hs hW h1
    generalize wr=w5 at *
    obtain ⟨lB1,cB1,fB1⟩:=B1.out
    by_cases hltt:t < ul
    ·obtain ⟨rfl,hub⟩:=HUA.out (by omega)
     obtain ⟨y,hy⟩ : ∃ y,y=xs.getD t 0:=⟨_,rfl⟩
     have CU:=h! ((HW.out.cell (p:=⟨ub,uo+t,none⟩) hub).trans (HUX.out t hltt))
     rw [<-hy] at CU
     have hym:xs[t]? = some y:=by rw [hy];exact fI xs t (by have:=HUL.out;omega)
     have HTK2:=h! (eU xs t y hym)
     have HYM:=h! (aG hym)
     have CUl:=World.block_lt_of_cell? w5 _ CU.out
     have CS:=h! ((HW.out.cell (p:=⟨b1,o1+j * 4+2,none⟩) hb1).trans HC2.out)
     have CSl:=World.block_lt_of_cell? w5 _ CS.out
     obtain ⟨c,hc⟩ : ∃ c,c=p.src.contains y:=⟨_,rfl⟩
     have HC:=h! hc
     have HCT:Hid (∀ wg,Below w5.heap.size w5 wg -> Calls Tryz.prog 39 #[.slice af sl cf,.int .i64 y] wg fun e w'=>e = .returned (.bool c)/\Below wg.heap.size wg w'):=h! (fun wg hbg=>by
      rw [hc]
      exact (aET (x:=y) (HSRC.out.below (HW.out.trans (hbg.mono HW.out.size)))).mono (fun e w2 ⟨h1,h2⟩=>⟨h1,h2 ▸ Below.refl _ _⟩))
     clear hy hym hc
     go_upto_region 9 with (fail)
     refine wp_region_grow 12 (fun kz=>match kz with | 10=>.const (.bool c) | _=>.plain) (by kernel_rfl) (by kernel_rfl) ?_ (fun ν => ?_)
     ·(intro k;(try dsimp only);split <;> first | exact True.intro | (intro u w1 w2 hu hb;exact hu.below hb))
     simp only [aQ,aV,aR,aY]
     iterate 10 (refine Grow.val (v := ?_) rfl rfl (fun wg hbg hdg => ?_) ?_;rotate_left;(focus ((obtain ⟨lg0,cg0,fg0⟩:=B1.out.later hbg);(have hcl:=(hbg.cell (p:=⟨ub,uo+t,none⟩) CUl).trans CU.out;have hcr:=(hbg.cell (p:=⟨b1,o1+j * 4+2,none⟩) CSl).trans CS.out);clear hbg hdg;first | (go_simp;done) | (go_simp;with_reducible rfl)));simp only [Act.put,aA,aE,aF])
     refine Grow.call (f := ?_) (args := ?_) rfl (fun wg => ?_) (fun wg hbg hdg => ?_) ?_
     rotate_left 2
     focus (first | (go_simp;done) | (go_simp;refine And.intro ?_ ?_ <;> with_reducible rfl) | (go_simp;with_reducible rfl))
     focus exact Calls.mono (HCT.out wg hbg) (fun e w2 ⟨he,hb2⟩=>⟨_,he,rfl,hb2⟩)
     simp only [Act.put,Known.val,aA,aE,aF]
     refine Grow.val (v := ?_) rfl rfl (fun wg hbg hdg => ?_) ?_
     rotate_left
     focus ((obtain ⟨lg0,cg0,fg0⟩:=B1.out.later hbg);(have hcl:=(hbg.cell (p:=⟨ub,uo+t,none⟩) CUl).trans CU.out;have hcr:=(hbg.cell (p:=⟨b1,o1+j * 4+2,none⟩) CSl).trans CS.out);clear hbg hdg;first | (go_simp;done) | (go_simp;with_reducible rfl))
     simp only [Act.put,aA,aE,aF]
     intro wg hb hf hap
     clear hap
     clear lB1 cB1 fB1
     replace B1:=h! (B1.out.later hb)
     replace HW:=h! (HW.out.trans (hb.mono HW.out.size))
     clear hb
     obtain ⟨lB1,cB1,fB1⟩:=B1.out
     clear hf
     cases c
     ·have HNO:Hid (ps.all (fN xs)=false):=h! (by
       rw [cC]
       refine ⟨p,HXM.out, ?_⟩
       unfold fN
       rw [aI,not_and]
       intro _ h
       rw [aU] at h
       have:=h y HYM.out
       rw [<-HC.out] at this
       cases this)
      go_wp2
      go_ret
      exact ⟨f5 HNO.out.symm,HW.out⟩
     have HNX:Hid (((xs.take (t+1)).all fun t=>p.src.contains t)=true):=h! (by rw [HTK2.out,List.all_append,HS2.out];simpa using HC.out.symm)
     go_wp2
     go_roundw
     case rel=>exact ⟨t+1,hltt,by go_num,HNX.out,HW.out,B1.out⟩
     simp [intOf];omega
    have HNX:Hid ((ps.take (j+1)).all (fN xs)=true):=h! (by
     rw [HTK.out,dH,HS.out]
     have h9:=HS2.out
     rw [aJ (by have:=HUL.out;omega)] at h9
     simp only [List.all_cons,List.all_nil,Bool.and_true,cY]
     unfold fN
     rw [h9,decide_eq_true HLEN.out];rfl)
    go_wp2
    go_roundw
    case rel=>exact ⟨j+1,hlt,by go_num,HNX.out,HW.out,B1.out⟩
    simp [intOf];omega
   have hq:((sl:Int) != (ul:Int))=true:=by simp;omega
   have HNO:Hid (ps.all (fN xs)=false):=h! (by
    rw [cC]
    refine ⟨p,HXM.out, ?_⟩
    unfold fN
    rw [decide_eq_false (by rw [<-HSL.out, <-HUL.out];exact hlen)]
    simp)
   clear hlen
   go_wp2
   go_ret
   exact ⟨f5 HNO.out.symm,HW.out⟩
  have HYES:Hid (ps.all (fN xs)=true):=h! (by have h9:=HS.out;rw [aJ (by have:=HPL.out;omega)] at h9;exact h9)
  go_wp2
  go_ret
  exact ⟨f5 HYES.out.symm,HW.out⟩
end Go.Proofs.YtgmhnepmkaonaaaGreat
